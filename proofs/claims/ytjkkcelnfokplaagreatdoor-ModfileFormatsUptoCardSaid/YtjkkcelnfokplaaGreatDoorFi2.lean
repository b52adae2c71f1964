/- Part 2 of a proof: Go functions are evaluated on abstract values; no conditions beyond those of each theorem. -/
import Derived.Test.YtjkkcelnfokplaaGreatDoorFi1
import Derived.Laws.CopyRow
import Derived.MapKept
set_option linter.all false
set_option maxHeartbeats 16000000
set_option maxRecDepth 4000
section
namespace Go.AI
open Go.RowKit
set_option linter.unusedVariables false
section
variable {P:Program} {B:Nat} {T0:Nat→Prop} {μ0:Gh} {w0:World} {N:Nat} {μ:Gh} {lx:Nat→Option Nat} {a:Act} {w:World} {st:St}
theorem flat_cell {els:List AV} {sz:Nat} (hsz:0<sz) (hall:allCells sz els) {j:Nat} {c:AV} (hc:(flat els)[j]? = some c) :
  plain c=true∧j<els.length*sz∧(els[j/sz]?.bind fun e=>e.cells[j%sz]?)=some c:=by
 have h1:=flat_get (fun e he=>(hall e he).1) hsz
 have hj:j<els.length*sz:=by rw[← h1.1];exact (List.getElem?_eq_some_iff.1 hc).1
 rw[h1.2] at hc
 refine⟨?_,hj,hc⟩
 cases hx:els[j/sz]? with
 | none=>simp[hx] at hc
 | some e=>rw[hx] at hc;exact (hall e (List.mem_of_getElem? hx)).2 c (List.mem_of_getElem? hc)
theorem Sim.freshM {vs:Array Value} {ty:TypeId} {els:List AV} {sz cap:Nat} (h:Sim B T0 μ0 w0 N μ lx a w st) (hsz:0<sz) (hlen:els.length≤cap) (hm:cap≤maxLen) (hvs:vs.size=cap*sz)
  (hall:allCells sz els) (hrep:∀(i j:Nat) (c:AV),(els[i]?.bind fun e=>e.cells[j]?)=some c→Rep B μ w (vs.getD (i*sz+j) undef) c) :
  Sim B T0 μ0 w0 N (named μ st.s.length w.heap.size) lx a (w.alloc (.cells vs ty)) ⟨st.t,st.l,st.s++[flat els]⟩ ∧
  Res B T0 w0 (named μ st.s.length w.heap.size) lx a (w.alloc (.cells vs ty)) ⟨st.t,st.l,st.s++[flat els]⟩ (.slice (some ⟨w.heap.size,0,none⟩) els.length cap) (.ms ty sz st.s.length 0 els.length):=by
 have hfl:=flat_get (fun e he=>(hall e he).1) hsz
 have hc:∀(j:Nat) (c:AV),(flat els)[j]? = some c→plain c=true∧Rep B μ w (vs.getD j undef) c:=by
  intro j c hj
  obtain⟨p1,p2,p3⟩:=flat_cell hsz hall hj
  have:=hrep _ _ c p3
  rw[Nat.mul_comm,Nat.div_add_mod] at this
  exact⟨p1,this⟩
 have hq:∀(j:Nat) (c:AV),(flat els)[j]? = some c→exBlk (vs.getD j undef) c=none:=fun j c hj=>by
  have:=(hc j c hj).1;simp[plain] at this;exact qq this.2
 have h1:=h.addGlob (cs:=flat els) (vs:=vs) (ty:=ty) (by rw[hfl.1,hvs];exact Nat.mul_le_mul_right _ hlen)
  (fun j c hj=>⟨plain_cell1 (hc j c hj).1,(hc j c hj).2,qaf (by have:=(hc j c hj).1;simp[plain] at this;exact this.2)⟩)
  (fun j k c hj e=>by rw[hq j c hj] at e;cases e) (fun j j' k c c' hj hj' e e'=>by rw[hq j c hj] at e;cases e)
 refine⟨h1,qx (.ms ty sz _ 0 _ w.heap.size cap (by simp[named]) ?_ hlen hm hsz) (fun j=>by cases j<;>rfl) trivial⟩
 simp only[World.shape?,heap_alloc_new]
 rw[hvs];simp
theorem qga {d T pos af g t l c} {el:TypeId} {sz by_ ln cn:Nat} {z lv cv:AV} (h:Sim B T0 μ0 w0 N μ lx a w st) (hel:elemA P t=some el) (hs:sizeA P el=some sz) (hb:bytesA P el=some by_)
  (hz:zeroA P el=some z) (hl:aeval st l=some lv) (hln:nat? lv=some ln) (hc:aeval st c=some cv) (hcn:nat? cv=some cn) (hok:¬(sz=0∨128<by_∨z.cells.length≠sz)) (hle:ln≤cn) (hm:cn≤most) :
  Goal P B T0 μ0 w0 N lx a w ⟨d,.makeSlice t l c,T,pos,af,g⟩ ⟨st.t,st.l,st.s++[flat (List.replicate ln z)]⟩ (.ms el sz st.s.length 0 ln):=by
 intro K Q k
 obtain⟨i,zv,hi,rfl,rfl,hzv,hof⟩:=qf6 hs hb hz
 obtain⟨kl,m,rfl,h0,rfl⟩:=qb6 hln
 obtain⟨kc,m',rfl,h0',rfl⟩:=qb6 hcn
 obtain⟨hr,_,_,hp,_⟩:=qd3 (B:=B) (μ:=μ) (w:=w) hof
 have hcl:=hr.cells hp (qc0 hof)
 have hzl:z.cells.length=i.size:=by omega
 have hzs:zv.cells.size=i.size:=hcl.1.trans hzl
 have hsz0:0<i.size:=by omega
 have hby:(i.bytes:Int)*m'≤281474976710656:=by
  unfold most at hm
  have h1:i.bytes≤128:=by omega
  have h2:i.bytes*m'.toNat≤128*1099511627776:=Nat.mul_le_mul h1 hm
  have h3:(i.bytes:Int)*m'=((i.bytes*m'.toNat:Nat):Int):=by rw[Int.natCast_mul,Int.toNat_of_nonneg h0']
  rw[h3];omega
 have hrun:=run_make (P:=P) w t el i zv (elem_eq hel) hi hzv kl kc m m' h0 (by omega) hby (by unfold most at hm;omega)
 have hall:allCells i.size (List.replicate m.toNat z):=fun x hx=>by
  obtain⟨_,rfl⟩:=List.mem_replicate.1 hx
  exact⟨hzl,hcl.2.1⟩
 obtain⟨h1,h2⟩:=h.freshM (vs:=madeCells zv.cells (m'.toNat*i.size)) (ty:=el) (els:=List.replicate m.toNat z) (sz:=i.size) (cap:=m'.toNat) hsz0 (by simpa using hle) (by unfold most at hm;unfold maxLen;omega)
  (size_madeCells _ _) hall (fun ii jj c hc=>by
   rw[List.getElem?_replicate] at hc
   split at hc
   ·rename_i hii
    simp only[Option.bind_some] at hc
    have hjj:jj<i.size:=by rw[← hzl];exact (List.getElem?_eq_some_iff.1 hc).1
    have hk:ii*i.size+jj<m'.toNat*i.size:=by
     calc ii*i.size+jj<ii*i.size+i.size:=by omega
      _=(ii+1)*i.size:=by rw[Nat.add_mul];simp
      _≤m'.toNat*i.size:=Nat.mul_le_mul_right _ (by omega)
    rw[qf7 hk (by omega),hzs,Nat.mul_comm,Nat.mul_add_mod,Nat.mod_eq_of_lt hjj]
    exact hcl.2.2 jj c hc
   ·simp at hc)
 refine qw _ rfl (v:=.slice (some ⟨w.heap.size,0,none⟩) m.toNat m'.toNat) (w':=w.alloc (.cells (madeCells zv.cells (m'.toNat*i.size)) el)) ?_ (k _ _ _ h1 (by simpa using h2))
 rw[qak h hl,qak h hc]
 exact hrun
theorem qfj {d T pos af g t n ps} {el sz:Nat} {z:AV} {l:List (Nat×AV)} {els:List AV} (h:Sim B T0 μ0 w0 N μ lx a w st) (hel:elemA P t=some el) (hs:sizeA P el=some sz) (hz:zeroA P el=some z)
  (hl:parts st ps.toList=some l) (hok:¬(sz=0∨16777216<n*sz∨z.cells.length≠sz)) (e:setA sz (List.replicate n z) l=some els) :
  Goal P B T0 μ0 w0 N lx a w ⟨d,.buildSlice t n ps,T,pos,af,g⟩ ⟨st.t,st.l,st.s++[flat els]⟩ (.ms el sz st.s.length 0 n):=by
 intro K Q k
 obtain⟨v,hv,hof⟩:=zero_run hz w
 obtain⟨h1,h2⟩:=qdl h hl
 have hsz0:0<sz:=by omega
 have hzl:z.cells.length=sz:=by omega
 have hns:n*sz≤16777216:=by omega
 obtain⟨cells,hc1,hc2,hc3⟩:=qju (ERel.zeros (B:=B) (μ:=μ) (w:=w) (n:=n) hof hzl hsz0) h1 h2 e
 have hlen:els.length=n:=by simpa using hc3
 have hn:n≤maxLen:=by
  have:n≤n*sz:=Nat.le_mul_of_pos_right _ hsz0
  unfold maxLen;omega
 have hrun:=qdy (P:=P) (w:=w) (t:=t) hel hs hv hns hc1
 have hfr:=h.freshM (vs:=cells) (ty:=el) (els:=els) (sz:=sz) (cap:=n) hsz0 (Nat.le_of_eq hlen) hn (by rw[hc2.1,hlen]) hc2.2.1 hc2.2.2
 clear hn hns hok
 have hfr2:Res B T0 w0 (named μ st.s.length w.heap.size) lx a (w.alloc (.cells cells el)) ⟨st.t,st.l,st.s++[flat els]⟩ (.slice (some ⟨w.heap.size,0,none⟩) n n) (.ms el sz st.s.length 0 n):=by
  have:=hfr.2
  rw[hlen] at this
  exact this
 have hk:=k _ _ _ hfr.1 hfr2
 have he:execOp a.eval ⟨d,.buildSlice t n ps,T,pos,af,g⟩=(do pure (.value (← Instr.buildSlice t n (ps.map fun (i,x)=>(i,a.eval x))))):=rfl
 exact qw _ he hrun hk
theorem Sim.adoptApp {g sz cap:Nat} {cs els:List AV} {vs:Array Value} {ty:TypeId} (h:Sim B T0 μ0 w0 N μ lx a w st) (hsz:0<sz) (hg:Blk w g vs ty) (hfree:∀l,own a lx μ w st l≠some g)
  (hBg:B≤g) (hT:T0 g∨w0.heap.size≤g) (hfr:μ.fr g=0) (n:Nat) (hcs:cs.length=n*sz) (hvs:vs.size=cap*sz) (hcap:n+els.length≤cap) (hm:cap≤maxLen) (hall:allCells sz els)
  (hc:∀(j:Nat) (c:AV),cs[j]? = some c→qaa c=true∧Rep B μ w (vs.getD j undef) c∧Tk1 B μ w (vs.getD j undef) c)
  (htok:∀(j k:Nat) (c:AV),cs[j]? = some c→exBlk (vs.getD j undef) c=some k→k≠g∧B≤k∧k<w.heap.size∧(T0 k∨w0.heap.size≤k)∧∀l,own a lx μ w st l≠some k)
  (hinj:∀(j j' k:Nat) (c c':AV),cs[j]? = some c→cs[j']? = some c'→exBlk (vs.getD j undef) c=some k→exBlk (vs.getD j' undef) c'=some k→j=j')
  (hnew:∀(i j:Nat) (c:AV),(els[i]?.bind fun e=>e.cells[j]?)=some c→Rep B μ w (vs.getD (n*sz+(i*sz+j)) undef) c) :
  Sim B T0 μ0 w0 N (named μ st.s.length g) lx a w ⟨st.t,st.l,st.s++[cs++flat els]⟩ ∧
  Res B T0 w0 (named μ st.s.length g) lx a w ⟨st.t,st.l,st.s++[cs++flat els]⟩ (.slice (some ⟨g,0,none⟩) (n+els.length) cap) (.ms ty sz st.s.length 0 (n+els.length)):=by
 have hfl:=flat_get (fun e he=>(hall e he).1) hsz
 have split:∀(j:Nat) (c:AV),(cs++flat els)[j]? = some c→cs[j]? = some c∨(plain c=true∧Rep B μ w (vs.getD j undef) c):=by
  intro j c hj
  by_cases hlt:j<cs.length
  ·rw[List.getElem?_append_left hlt] at hj;exact .inl hj
  ·rw[List.getElem?_append_right (by omega)] at hj
   obtain⟨p1,p2,p3⟩:=flat_cell hsz hall hj
   have:=hnew _ _ c p3
   rw[show (j-cs.length)/sz*sz+(j-cs.length)%sz=j-cs.length by rw[Nat.mul_comm];exact Nat.div_add_mod _ _,← hcs,show cs.length+(j-cs.length)=j by omega] at this
   exact .inr ⟨p1,this⟩
 have quietE:∀{c:AV} {v:Value},plain c=true→exBlk v c=none:=fun hp=>by simp[plain] at hp;exact qq hp.2
 have h1:=h.adopt (cs:=cs++flat els) hg hfree hBg hT hfr (by rw[List.length_append,hfl.1,hcs,hvs,← Nat.add_mul];exact Nat.mul_le_mul_right _ hcap)
  (fun j c hj=>by
   rcases split j c hj with hq|⟨hp,hr⟩
   ·exact hc j c hq
   ·exact⟨plain_cell1 hp,hr,qaf (by simp[plain] at hp;exact hp.2)⟩)
  (fun j k c hj e=>by
   rcases split j c hj with hq|⟨hp,hr⟩
   ·exact htok j k c hq e
   ·rw[quietE hp] at e;cases e)
  (fun j j' k c c' hj hj' e e'=>by
   rcases split j c hj with hq|⟨hp,hr⟩
   ·rcases split j' c' hj' with hq'|⟨hp',hr'⟩
    ·exact hinj j j' k c c' hq hq' e e'
    ·rw[quietE hp'] at e';cases e'
   ·rw[quietE hp] at e;cases e)
 refine⟨h1,qx (.ms ty sz _ 0 _ g cap (by simp[named]) ?_ hcap hm hsz) (fun j=>by cases j<;>rfl) trivial⟩
 rw[hg.shape,hvs];simp
theorem qdn {t':TypeId} {sz:Nat} {y:Operand} {b:AV} {ys:List AV} (h:Sim B T0 μ0 w0 N μ lx a w st) (hy:aeval st y=some b) (hsrc:srcM P t' st b=some ys) (hall:allCells sz ys) (hsz:0<sz):∃news,Src P B μ w sz t' (a.eval y) ys news:=by
 have hfy:=ql h hy
 unfold srcM at hsrc
 split at hsrc
 ·rename_i ty sz' bb off n
  split at hsrc
  ·rename_i ht
   obtain⟨cs,hcs,e⟩:=qa hsrc
   obtain⟨news,hS⟩:=qz3 h ht hfy.1 hcs e
   by_cases h0:ys=[]
   ·subst h0
    refine⟨[],hS.ty,hS.len,fun w' hw'=>?_,by simp,by simp,fun i j c hc=>by simp at hc⟩
    have h2:=hS.cells w' hw'
    have h3:news=[]:=List.eq_nil_of_length_eq_zero (by have:=hS.size;simpa using this)
    subst h3
    have hr:=hfy.1
    generalize a.eval y=v at hr h2 hS ⊢
    cases hr with
    | ms _ _ _ _ _ blk cap hb hsh hc hm hsz=>exact run_firstCells_some w' sz 0 _ _ cap [] (by simp) (fun j v hv=>by simp at hv)
   ·obtain⟨x0,hx0⟩:=List.exists_mem_of_ne_nil ys h0
    have hcell:∀c∈cs,qaa c=true:=by
     intro c hc
     have hr:=hfy.1
     generalize a.eval y=v at hr
     have hne:cs≠[]:=fun e0=>by subst e0;cases hc
     obtain⟨blk,cap,cur,ho⟩:=h.open (els:=ys) hr hcs hne
     obtain⟨j,hj⟩:=List.mem_iff_getElem?.1 hc
     exact (ho.cell j c hj).1
    obtain⟨r1,r2,r3,r4,r5,r6⟩:=qcm e hcell
    have:sz'=sz:=by rw[← (r5 x0 hx0).1];exact (hall x0 hx0).1
    subst this
    exact⟨news,hS⟩
  ·cases hsrc
 ·unfold srcA at hsrc
  split at hsrc
  ·split at hsrc
   ·rename_i hsm
    injection hsrc with hsrc;subst hsrc
    obtain⟨e',he'⟩:=Option.isSome_iff_exists.1 hsm
    exact qjv (elem_eq he') hfy.1 hall hsz
   ·cases hsrc
  ·obtain⟨hst,hsrc⟩:=qn hsrc
   injection hsrc with hsrc;subst hsrc
   have hr:=hfy.1
   generalize hv:a.eval y=v at hr
   cases hr with
   | str s =>
    by_cases h0:s.data.toList=[]
    ·refine⟨[],⟨.inr hst,?_,fun w' _=>?_,by simp[h0],by simp,fun i j c hc=>by simp[h0] at hc⟩⟩
     ·have:=(qdm (B:=B) (μ:=μ) (w:=w) hst (s:=s)).len;exact this
     ·have hsz:s.size=0:=by have:=congrArg List.length h0;simpa using this
      simp[Builtin.firstCells,h0]
    ·have h2:sz=1:=by
      obtain⟨b0,hb0⟩:=List.exists_mem_of_ne_nil _ h0
      have:=(hall (.u8 b0) (List.mem_map.2 ⟨b0,hb0,rfl⟩)).1
      exact this.symm
     subst h2
     exact⟨_,qdm hst⟩
  ·cases hsrc
theorem qjz {d T pos af g x y t t'} {el sz by_ n b:Nat} {z:AV} {ys cs:List AV} {st':St} (h:Sim B T0 μ0 w0 N μ lx a w st) (hel:elemA P t=some el) (hs:sizeA P el=some sz) (hb:bytesA P el=some by_) (hz:zeroA P el=some z)
  (hok:¬(sz=0∨128<by_∨z.cells.length≠sz)) (ht:takeOp st x=some (.ms el sz b 0 n,st')) (hsrc:Sim B T0 μ0 w0 N μ lx a w st'→∃news,Src P B μ w sz t' (a.eval y) ys news) (hn:0<n) (hcs:st'.s[b]? = some cs) (hcl:cs.length=n*sz)
  (hall:allCells sz ys) (hlen:n+ys.length≤most) :
  Goal P B T0 μ0 w0 N lx a w ⟨d,.call {callee:=.builtin .append,args:=#[x,y],argTypes:=#[t,t']},T,pos,af,g⟩ {st' with s:=st'.s.set b []++[cs++flat ys]} (.ms el sz st'.s.length 0 (n+ys.length)):=by
 intro K Q k
 obtain⟨h1,r1,_⟩:=take_sound h ht
 obtain⟨i,zv,hi,hisz,rfl,hzv,hof⟩:=qf6 hs hb hz
 have hsz0:0<sz:=by omega
 have hby:i.bytes≤128:=by omega
 have hzl:z.cells.length=sz:=by omega
 have hzs:zv.cells.size=sz:=(zero_sz hof).1.trans hzl
 have hmost:most≤maxLen:=by unfold most maxLen;omega
 obtain⟨news,hS⟩:=hsrc h1
 have hne:cs≠[]:=fun e=>by subst e;have:0<n*sz:=Nat.mul_pos hn hsz0;simp at hcl;omega
 obtain⟨blk,cap,cur,ho⟩:=h1.open (els:=ys) r1.full.1 hcs hne
 have hcsz:cur.size=cap*sz:=by have:=ho.size;omega
 have hlc:=ho.len
 have hol:own a lx μ w st' (.g b)=some blk:=by cases cs with|nil=>exact absurd rfl hne|cons c r=>simp[own,hcs,ho.bx]
 have hrng:=h1.rng _ _ hol
 have hown:∀(j k:Nat) (c:AV),cs[j]? = some c→exBlk (cur.getD j undef) c=some k→own a lx μ w st' (.gc b j)=some k:=by
  intro j k c hc e
  have hj:j<cur.size:=Nat.lt_of_lt_of_le (List.getElem?_eq_some_iff.1 hc).1 hlc
  simp only[own,ownB,hcs,ho.bx,Option.bind_some,hc,qab ho.heap,qcb hj]
  exact e
 have hkb:∀(j k:Nat) (c:AV),cs[j]? = some c→exBlk (cur.getD j undef) c=some k→k≠blk:=by
  intro j k c hc e e'
  subst e'
  have:=h1.inj _ _ _ (hown j k c hc e) hol
  cases this
 have hk:=h1.kill b
 have hkfree:∀l,own a lx μ w {st' with s:=st'.s.set b []} l≠some blk:=fun l e=>(own_kill e).2.1 (h1.inj _ _ _ (own_kill e).1 hol)
 have hktok:∀(j k:Nat) (c:AV),cs[j]? = some c→exBlk (cur.getD j undef) c=some k→B≤k∧k<w.heap.size∧(T0 k∨w0.heap.size≤k)∧∀l,own a lx μ w {st' with s:=st'.s.set b []} l≠some k:=by
  intro j k c hc e
  have ho1:=hown j k c hc e
  have:=h1.rng _ _ ho1
  exact⟨this.1,this.2.1,this.2.2,fun l e2=>(own_kill e2).2.2 j (h1.inj _ _ _ (own_kill e2).1 ho1)⟩
 have hinj:∀(j j' k:Nat) (c c':AV),cs[j]? = some c→cs[j']? = some c'→exBlk (cur.getD j undef) c=some k→exBlk (cur.getD j' undef) c'=some k→j=j':=by
  intro j j' k c c' hc hc' e e'
  have:=h1.inj _ _ _ (hown j k c hc e) (hown j' k c' hc' e')
  injection this
 have hnsz:=hS.size
 have hlens:st'.s.length=(st'.s.set b []).length:=by simp
 by_cases hroom:n+ys.length≤cap
 ·have hfit:n*sz+news.length≤cur.size:=by rw[hnsz,hcsz,← Nat.add_mul];exact Nat.mul_le_mul_right _ hroom
  have hrun:=qc1 (P:=P) (ty:=T) (elem_eq hel) hi hisz hS blk n cap cur el ho.heap hroom hfit
  generalize hcur':(cur.toList.take (n*sz)++news++cur.toList.drop (n*sz+news.length)).toArray=cur' at hrun
  have hseg:∀j:Nat,cur'.toList[j]? = if j<n*sz then cur.toList[j]? else if j<n*sz+news.length then news[j-n*sz]? else cur.toList[j]?:=by
   intro j;rw[← hcur'];exact getElem?_seg cur.toList news (n*sz) (by simpa using hfit) j
  have hlen':cur'.size=cur.size:=by
   have:cur'.toList.length=cur.toList.length:=by rw[← hcur'];simp;omega
   simpa using this
  have x:=qci (μ:=μ) (w:=w) hrng.1 ho.fr cur' ho.heap hlen'
  obtain⟨h2,hown2⟩:=hk.grow x (fun l k e hkb=>hkfree l (by rw[e,hkb])) (fun b' hb' e=>by subst e;rcases hrng.2.2 with t|t;exact t;omega) hk.gdom (fun b' hb'=>hk.fr0 b' (by simpa using hb')) (fun _ _=>rfl)
  have hgd:∀j,j<n*sz→cur'.getD j undef=cur.getD j undef:=fun j hj=>by rw[qj,qj,hseg,if_pos hj]
  obtain⟨h3,r3⟩:=h2.adoptApp (cap:=cap) (cs:=cs) (els:=ys) hsz0 (ho.heap.setRow hlen') (fun l e=>hkfree l (by rw[← hown2];exact e)) hrng.1 hrng.2.2 ho.fr n hcl (by rw[hlen',hcsz]) hroom ho.cm hall
   (fun j c hc=>by
    have hj:j<n*sz:=by rw[← hcl];exact (List.getElem?_eq_some_iff.1 hc).1
    rw[hgd j hj]
    obtain⟨p1,p2,p3⟩:=ho.cell j c hc
    exact⟨p1,p2.mono x,p3.ext x fun k hk=>hkb j k c hc hk⟩)
   (fun j k c hc e=>by
    have hj:j<n*sz:=by rw[← hcl];exact (List.getElem?_eq_some_iff.1 hc).1
    rw[hgd j hj] at e
    obtain⟨q1,q2,q3,q4⟩:=hktok j k c hc e
    exact⟨hkb j k c hc e,q1,by simpa using q2,q3,fun l e2=>q4 l (by rw[← hown2];exact e2)⟩)
   (fun j j' k c c' hc hc' e e'=>by
    have hj:j<n*sz:=by rw[← hcl];exact (List.getElem?_eq_some_iff.1 hc).1
    have hj':j'<n*sz:=by rw[← hcl];exact (List.getElem?_eq_some_iff.1 hc').1
    rw[hgd j hj] at e;rw[hgd j' hj'] at e'
    exact hinj j j' k c c' hc hc' e e')
   (fun i j c hc=>by
    have h5:=qc3 hall hc
    have h4:=(hS.rep i j c hc).mono x
    rw[qj,hseg,if_neg (by omega),if_pos (by omega)]
    rw[qj] at h4
    rw[show n*sz+(i*sz+j)-n*sz=i*sz+j by omega]
    exact h4)
  rw[← hlens] at h3 r3
  exact qbt (by rw[ho.v];exact hrun) (k _ _ _ h3 r3)
 ·have hold:∀w':World,w'.heap=w.heap→(Builtin.firstCells sz n (.slice (some ⟨blk,0,none⟩) n cap)).run P w'=.ok (cur.toList.take (n*sz)).toArray w':=by
   intro w' hw'
   refine run_firstCells_some w' sz n ⟨blk,0,none⟩ n cap _ (by simp;omega) (fun j v hj=>?_)
   rw[List.getElem?_take] at hj
   split at hj
   ·rw[add_lit,Nat.zero_add]
    have:=qab ho.heap j
    simp only[World.cell?,hw'] at this ⊢
    rw[this];simpa using hj
   ·cases hj
  have hrun:=qc2 (P:=P) (ty:=T) (elem_eq hel) hi hzv hisz hS (some ⟨blk,0,none⟩) n cap (cur.toList.take (n*sz)) hold (by omega) hlen hby
  have hge:n+ys.length≤grownCap w (n+ys.length) cap el:=grownCap_ge _ _ _ _
  have hlo:(cur.toList.take (n*sz)).length=n*sz:=by simp;omega
  generalize hvs:((cur.toList.take (n*sz)).toArray++news.toArray++Builtin.zeroCells zv.cells (grownCap w (n+ys.length) cap el-(n+ys.length)))=vs at hrun
  have hvsz:vs.size=grownCap w (n+ys.length) cap el*sz:=by
   rw[← hvs]
   simp only[Array.size_append,List.size_toArray,size_zeroCells',hzs,hlo,hS.size,← Nat.add_mul]
   congr 1;omega
  obtain⟨k1,ko1⟩:=hk.drew
  have x0:Ext B (fun _=>False) μ w μ w.drew:=qfo (w:=w) (w':=w.drew) rfl rfl rfl rfl _
  have x1:=qbs (μ:=μ) k1.hB (.cells vs el)
  obtain⟨k2,ko2⟩:=k1.grow x1 (fun _ _ _=>id) (fun _ _ h=>h.elim) k1.gdom (fun b' hb'=>k1.fr0 b' (by simp at hb' ⊢;omega)) (fun _ _=>rfl)
  have x:=x0.trans (T:=fun _=>False) x1 (fun _ _ h=>h)
  have hvj:∀j,j<n*sz→vs.getD j undef=cur.getD j undef:=by
   intro j hj
   rw[← hvs,qj,qj,Array.toList_append,Array.toList_append,List.getElem?_append_left (by simp;omega),List.getElem?_append_left (by simp;omega)]
   simp[List.getElem?_take,hj]
  have hko:∀l,own a lx μ (w.drew.alloc (.cells vs el)) {st' with s:=st'.s.set b []} l=own a lx μ w {st' with s:=st'.s.set b []} l:=fun l=>by rw[ko2,ko1]
  have hheap:(w.drew).heap.size=w.heap.size:=rfl
  obtain⟨h3,r3⟩:=k2.adoptApp (g:=w.heap.size) (cap:=grownCap w (n+ys.length) cap el) (cs:=cs) (els:=ys) (vs:=vs) (ty:=el) hsz0 (Blk.new w.drew vs el) (fun l e=>by rw[hko] at e;have:=(hk.rng l _ e).2.1;omega) h1.hB (.inr h1.ext.below.size) (h1.fr0 _ (Nat.le_refl _))
   n hcl hvsz hge (grownCap_le_maxLen _ _ _ _ (Nat.le_trans hlen hmost)) hall
   (fun j c hc=>by
    have hj:j<n*sz:=by rw[← hcl];exact (List.getElem?_eq_some_iff.1 hc).1
    rw[hvj j hj]
    obtain⟨p1,p2,p3⟩:=ho.cell j c hc
    exact⟨p1,p2.mono x,p3.ext x fun _ _=>id⟩)
   (fun j k c hc e=>by
    have hj:j<n*sz:=by rw[← hcl];exact (List.getElem?_eq_some_iff.1 hc).1
    rw[hvj j hj] at e
    obtain⟨q1,q2,q3,q4⟩:=hktok j k c hc e
    exact⟨by omega,q1,by simp;omega,q3,fun l e2=>q4 l (by rw[← hko];exact e2)⟩)
   (fun j j' k c c' hc hc' e e'=>by
    have hj:j<n*sz:=by rw[← hcl];exact (List.getElem?_eq_some_iff.1 hc).1
    have hj':j'<n*sz:=by rw[← hcl];exact (List.getElem?_eq_some_iff.1 hc').1
    rw[hvj j hj] at e;rw[hvj j' hj'] at e'
    exact hinj j j' k c c' hc hc' e e')
   (fun i j c hc=>by
    have h5:=qc3 hall hc
    have h4:=(hS.rep i j c hc).mono x
    have hvg:vs.getD (n*sz+(i*sz+j)) undef=news.toArray.getD (i*sz+j) undef:=by
     rw[← hvs,qj,Array.toList_append,Array.toList_append,List.getElem?_append_left (by simp;omega),List.getElem?_append_right (by simp;omega),qj]
     simp only[List.length_take,Array.length_toList]
     rw[show n*sz+(i*sz+j)-min (n*sz) cur.size=i*sz+j by omega]
    rw[hvg];exact h4)
  rw[← hlens] at h3 r3
  exact qbt (by rw[ho.v];exact hrun) (k _ _ _ h3 r3)
end
end Go.AI
end
section
namespace Go.AI
open Go.RowKit
set_option linter.unusedVariables false
section
variable {P:Program} {B:Nat} {T0:Nat→Prop} {μ0:Gh} {w0:World} {N:Nat} {μ:Gh} {lx:Nat→Option Nat} {a:Act} {w:World} {st:St}
theorem qeb {d T pos af g x y t t'} {el sz by_:Nat} {z u:AV} {ys:List AV} {st':St} (h:Sim B T0 μ0 w0 N μ lx a w st) (hel:elemA P t=some el) (hs:sizeA P el=some sz) (hb:bytesA P el=some by_) (hz:zeroA P el=some z)
  (hok:¬(sz=0∨128<by_∨z.cells.length≠sz)) (ht:takeOp st x=some (u,st')) (hsrc:Sim B T0 μ0 w0 N μ lx a w st'→∃news,Src P B μ w sz t' (a.eval y) ys news) (hu:u=.sl .nil []∨u=.sl (.ex el sz) []) (hne:ys≠[]) (hall:allCells sz ys) (hlen:ys.length≤most) :
  Goal P B T0 μ0 w0 N lx a w ⟨d,.call {callee:=.builtin .append,args:=#[x,y],argTypes:=#[t,t']},T,pos,af,g⟩ {st' with s:=st'.s++[flat ys]} (.ms el sz st'.s.length 0 ys.length):=by
 intro K Q k
 obtain⟨h1,r1,_⟩:=take_sound h ht
 obtain⟨i,zv,hi,hisz,rfl,hzv,hof⟩:=qf6 hs hb hz
 have hsz0:0<sz:=by omega
 have hby:i.bytes≤128:=by omega
 have hzl:z.cells.length=sz:=by omega
 have hzs:zv.cells.size=sz:=(zero_sz hof).1.trans hzl
 have hmost:most≤maxLen:=by unfold most maxLen;omega
 obtain⟨news,hS⟩:=hsrc h1
 have hnsz:=hS.size
 have hpos:0<ys.length:=List.length_pos_iff.2 hne
 have grow:∀(base:Option Addr) (cap:Nat),(∀w':World,w'.heap=w.heap→(Builtin.firstCells sz 0 (.slice base 0 cap)).run P w'=.ok #[] w')→cap<ys.length→a.eval x=.slice base 0 cap →
   Oper.wp P ⟨d,.call {callee:=.builtin .append,args:=#[x,y],argTypes:=#[t,t']},T,pos,af,g⟩ a w K Q:=by
  intro base cap hold hcap hx
  have hrun:=qc2 (P:=P) (ty:=T) (elem_eq hel) hi hzv hisz hS base 0 cap [] hold (by omega) (by omega) hby
  simp only[Nat.zero_add] at hrun
  obtain⟨h2,_⟩:=h1.drew
  have hge:ys.length≤grownCap w ys.length cap el:=grownCap_ge _ _ _ _
  have hsize:(([]:List Value).toArray++news.toArray++Builtin.zeroCells zv.cells (grownCap w ys.length cap el-ys.length)).size=grownCap w ys.length cap el*sz:=by
   simp only[Array.size_append,List.size_toArray,size_zeroCells',hzs,hnsz,List.length_nil,Nat.zero_add,← Nat.add_mul]
   congr 1;omega
  have hxd:Ext B (fun _=>False) μ w μ w.drew:=qfo (w:=w) (w':=w.drew) rfl rfl rfl rfl _
  obtain⟨h3,r3⟩:=h2.freshM (vs:=([]:List Value).toArray++news.toArray++Builtin.zeroCells zv.cells (grownCap w ys.length cap el-ys.length)) (ty:=el) (els:=ys) (sz:=sz)
   (cap:=grownCap w ys.length cap el) hsz0 hge (grownCap_le_maxLen _ _ _ _ (Nat.le_trans hlen hmost)) hsize hall
   (fun i j c hc=>by
    have h4:=(hS.rep i j c hc).mono hxd
    have h5:=qc3 hall hc
    rw[qj,Array.toList_append,Array.toList_append,List.getElem?_append_left (by simp;omega)]
    rw[qj] at h4
    simpa using h4)
  exact qbt (by rw[hx];exact hrun) (k _ _ _ h3 r3)
 have none_:a.eval x=.slice none 0 0→Oper.wp P ⟨d,.call {callee:=.builtin .append,args:=#[x,y],argTypes:=#[t,t']},T,pos,af,g⟩ a w K Q :=
  fun hx=>grow none 0 (fun w' _=>run_firstCells_none w' sz 0 0 0) hpos hx
 rcases hu with rfl|rfl
 ·exact none_ (Rep.nil_val r1.full.1).1
 ·rcases r1.full.2 with hv|⟨gb,cap,cur,hv,hBg,hg,hnc,hcm,hcs,hfr,hallx,_⟩
  ·exact none_ hv
  ·have htok:=r1.tok none gb (by rw[hv];rfl)
   simp only[List.length_nil,Nat.zero_mul] at hv hfr
   by_cases hroom:ys.length≤cap
   ·have hfit:0*sz+news.length≤cur.size:=by rw[hnsz,hcs,Nat.zero_mul,Nat.zero_add];exact Nat.mul_le_mul_right _ hroom
    have hrun:=qc1 (P:=P) (ty:=T) (elem_eq hel) hi hisz hS gb 0 cap cur el hg (by omega) hfit
    simp only[Nat.zero_mul,Nat.zero_add] at hrun hfit
    generalize hcur':(cur.toList.take 0++news++cur.toList.drop news.length).toArray=cur' at hrun
    have hseg:∀j:Nat,j<news.length→cur'.toList[j]? = news[j]?:=by
     intro j hj;rw[← hcur'];simp only[List.take_zero,List.nil_append];rw[List.getElem?_append_left hj]
    have hlen':cur'.size=cur.size:=by
     have:cur'.toList.length=cur.toList.length:=by rw[← hcur'];simp;omega
     simpa using this
    have x:=qci (μ:=μ) (w:=w) hBg hfr cur' hg hlen'
    obtain⟨h2,hown2⟩:=h1.grow x (fun l kk e hkb=>htok.2.2.2 l (by rw[e,hkb])) (fun b' hb' e=>by subst e;rcases htok.2.2.1 with t|t;exact t;omega) h1.gdom (fun b' hb'=>h1.fr0 b' (by simpa using hb')) (fun _ _=>rfl)
    obtain⟨h3,r3⟩:=h2.adoptApp (cap:=cap) (cs:=[]) (els:=ys) hsz0 (hg.setRow hlen') (fun l e=>htok.2.2.2 l (by rw[← hown2];exact e)) hBg htok.2.2.1 hfr 0 (by simp) (by rw[hlen',hcs]) (by omega) hcm hall
     (fun j c hc=>by simp at hc) (fun j k c hc=>by simp at hc) (fun j j' k c c' hc=>by simp at hc)
     (fun i j c hc=>by
      have h5:=qc3 hall hc
      have h4:=(hS.rep i j c hc).mono x
      rw[Nat.zero_mul,Nat.zero_add,qj,hseg _ (by omega)]
      rw[qj] at h4
      exact h4)
    simp only[List.nil_append,Nat.zero_add] at h3 r3
    exact qbt (by rw[hv];exact hrun) (k _ _ _ h3 r3)
   ·exact grow (some ⟨gb,0,none⟩) cap (fun w' hw'=>run_firstCells_some w' sz 0 ⟨gb,0,none⟩ 0 cap [] (by simp) (fun j v hj=>by simp at hj)) (by omega) hv
theorem qwx {d T pos af g x y t t'} {K:Act→World→Prop} {Q:Exit→Act→World→Prop} {v:Value} {w':World} (hr:(Builtin.copy_ #[t,t'] T #[a.eval x,a.eval y]).run P w=.ok v w') (h:K (a.put d v) w') :
  Oper.wp P ⟨d,.call {callee:=.builtin .copy,args:=#[x,y],argTypes:=#[t,t']},T,pos,af,g⟩ a w K Q:=by
 unfold Oper.wp execOp
 simp only[resolve,invoke,builtin,Sem.run_bind,Sem.run_pure,Result.andThen_ok,List.map_toArray,List.map_cons,List.map_nil,hr]
 exact h
theorem qm3 {x} {ty sz n off b:Nat} {ys cs:List AV} {news:List Value} (h:Sim B T0 μ0 w0 N μ lx a w st) (hsz:0<sz) (hx:aeval st x=some (.ms ty sz b off n)) (hnsz:news.length=ys.length*sz) (hone:∀v∈news,v.oneCell'=true)
  (hrep:∀(i j:Nat) (c:AV),(ys[i]?.bind fun e=>e.cells[j]?)=some c→Rep B μ w (news.toArray.getD (i*sz+j) undef) c)
  (hcs:st.s[b]? = some cs) (hall:allCells sz ys) (hn:0<n) (hyn:ys.length≤n) (hfit:off+n*sz≤cs.length) :
  ∃blk cap vs',a.eval x=.slice (some ⟨blk,off,none⟩) n cap∧(storeCells ⟨blk,off,none⟩ news).run P w=.ok () (w.setRow blk vs')∧Sim B T0 μ0 w0 N μ lx a (w.setRow blk vs') {st with s:=st.s.set b (writeCells cs off (flat ys))}:=by
 have hfl:=flat_get (fun e he=>(hall e he).1) hsz
 have hne:cs≠[]:=fun e=>by subst e;have:0<n*sz:=Nat.mul_pos hn hsz;simp at hfit;omega
 obtain⟨blk,cap,cur,ho⟩:=h.open (els:=ys) (ql h hx).1 hcs hne
 have hlc:=ho.len
 have hmul:ys.length*sz≤n*sz:=Nat.mul_le_mul_right _ hyn
 have hfit':off+news.length≤cur.size:=by omega
 have hst:=qcw P off news 0 ho.heap (by simpa using hfit') hone
 simp only[Nat.add_zero] at hst
 generalize hvs':(cur.toList.take off++news++cur.toList.drop (off+news.length)).toArray=vs' at hst
 have hseg:∀j:Nat,vs'.toList[j]? = if j<off then cur.toList[j]? else if j<off+news.length then news[j-off]? else cur.toList[j]?:=by
  intro j;rw[← hvs'];exact getElem?_seg cur.toList _ off (by simpa using hfit') j
 have hsegc:∀j:Nat,(writeCells cs off (flat ys))[j]? = if j<off then cs[j]? else if j<off+(flat ys).length then (flat ys)[j-off]? else cs[j]?:=by
  intro j;exact getElem?_seg cs (flat ys) off (by omega) j
 have hvsz:vs'.size=cur.size:=by
  have e1:vs'.toList.length=cur.toList.length:=by rw[← hvs'];simp;omega
  simpa using e1
 have cases_:∀(j:Nat) (c:AV),(writeCells cs off (flat ys))[j]? = some c→(cs[j]? = some c∧vs'.getD j undef=cur.getD j undef)∨(off≤j∧(flat ys)[j-off]? = some c∧vs'.getD j undef=news.toArray.getD (j-off) undef):=by
  intro j c hc
  rw[hsegc,hfl.1] at hc
  have hs:=hseg j
  rw[hnsz] at hs
  by_cases h1:j<off
  ·rw[if_pos h1] at hc hs;exact .inl ⟨hc,by rw[qj,qj,hs]⟩
  ·rw[if_neg h1] at hc hs
   by_cases h2:j<off+ys.length*sz
   ·rw[if_pos h2] at hc hs;exact .inr ⟨by omega,hc,by rw[qj,qj,hs]⟩
   ·rw[if_neg h2] at hc hs;exact .inl ⟨hc,by rw[qj,qj,hs]⟩
 have newc:∀(j:Nat) (c:AV),(flat ys)[j]? = some c→plain c=true∧Rep B μ w (news.toArray.getD j undef) c:=by
  intro j c hc
  obtain⟨p1,p2,p3⟩:=flat_cell hsz hall hc
  have:=hrep _ _ c p3
  rw[Nat.mul_comm,Nat.div_add_mod] at this
  exact⟨p1,this⟩
 have oldown:∀(j k:Nat) (c:AV),cs[j]? = some c→exBlk (cur.getD j undef) c=some k→own a lx μ w st (.gc b j)=some k:=by
  intro j k c hc e
  have hj:j<cur.size:=Nat.lt_of_lt_of_le (List.getElem?_eq_some_iff.1 hc).1 hlc
  simp only[own,ownB,hcs,ho.bx,Option.bind_some,hc,qab ho.heap,qcb hj]
  exact e
 have quietE:∀{c:AV} {v:Value},plain c=true→exBlk v c=none:=fun hp=>by simp[plain] at hp;exact qq hp.2
 have h2:=h.setGlob (d:=b) (blk:=blk) (cs:=cs) (cs':=writeCells cs off (flat ys)) (vs:=cur) (vs':=vs') (ty:=ty) hcs hne ho.bx ho.heap ho.fr hvsz (by
   have e2:(writeCells cs off (flat ys)).length=cs.length:=by simp[writeCells];omega
   rw[e2,hvsz];exact hlc)
  (fun j c hc=>by
   rcases cases_ j c hc with ⟨h3,h4⟩|⟨_,h3,h4⟩
   ·rw[h4];exact ho.cell j c h3
   ·rw[h4];have:=newc _ c h3;exact⟨plain_cell1 this.1,this.2,qaf (by have:=this.1;simp[plain] at this;exact this.2)⟩)
  (fun j k c hc e=>by
   rcases cases_ j c hc with ⟨h3,h4⟩|⟨_,h3,h4⟩
   ·rw[h4] at e
    have ho:=oldown j k c h3 e
    have:=h.rng _ k ho
    exact⟨this.1,this.2.1,this.2.2,fun l hl e2=>hl j (h.inj _ _ k e2 ho)⟩
   ·rw[quietE (newc _ c h3).1] at e;cases e)
  (fun j j' k c c' hc hc' e e'=>by
   rcases cases_ j c hc with ⟨h3,h4⟩|⟨h5,h3,h4⟩
   ·rcases cases_ j' c' hc' with ⟨h3',h4'⟩|⟨h5',h3',h4'⟩
    ·rw[h4] at e;rw[h4'] at e'
     have:=h.inj _ _ k (oldown j k c h3 e) (oldown j' k c' h3' e');injection this
    ·rw[quietE (newc _ c' h3').1] at e';cases e'
   ·rw[quietE (newc _ c h3).1] at e;cases e)
 exact⟨blk,cap,vs',ho.v,hst,h2⟩
theorem qoa {d T pos af g x y t t'} {ty sz n off b:Nat} {ys cs:List AV} (h:Sim B T0 μ0 w0 N μ lx a w st) (hel:elemA P t=some ty) (hs:sizeA P ty=some sz) (hsz:0<sz) (hx:aeval st x=some (.ms ty sz b off n)) (hsrc:∃news,Src P B μ w sz t' (a.eval y) ys news)
  (hcs:st.s[b]? = some cs) (hall:allCells sz ys) (hn:0<n) (hyn:ys.length≤n) (hfit:off+n*sz≤cs.length) :
  Goal P B T0 μ0 w0 N lx a w ⟨d,.call {callee:=.builtin .copy,args:=#[x,y],argTypes:=#[t,t']},T,pos,af,g⟩ {st with s:=st.s.set b (writeCells cs off (flat ys))} (.int .i64 ys.length):=by
 intro K Q k
 obtain⟨news,hS⟩:=hsrc
 obtain⟨blk,cap,vs',hv,hst,h2⟩:=qm3 (P:=P) h hsz hx hS.size hS.one hS.rep hcs hall hn hyn hfit
 refine qwx (v:=.int .i64 ys.length) (w':=w.setRow blk vs') ?_ (k _ _ _ h2 (qx (.int _ _) (fun j=>by cases j<;>rfl) trivial))
 have hmin:Nat.min ys.length n=ys.length:=by simp[Nat.min_def,hyn]
 rw[hv]
 simp[Builtin.copy_,run_underlying (elem_eq hel),hS.len,q8 hs,hmin,hS.cells w rfl,hst,goInt]
theorem qtc {d T pos af g x t} {K:Act→World→Prop} {Q:Exit→Act→World→Prop} {v:Value} {w':World} (hr:(Builtin.clear_ #[t] T #[a.eval x]).run P w=.ok v w') (h:K (a.put d v) w') :
  Oper.wp P ⟨d,.call {callee:=.builtin .clear,args:=#[x],argTypes:=#[t]},T,pos,af,g⟩ a w K Q:=by
 unfold Oper.wp execOp
 simp only[resolve,invoke,builtin,Sem.run_bind,Sem.run_pure,Result.andThen_ok,List.map_toArray,List.map_cons,List.map_nil,hr]
 exact h
theorem qlf {d T pos af g x t} {ty sz n off b:Nat} {z:AV} {cs:List AV} (h:Sim B T0 μ0 w0 N μ lx a w st) (hel:elemA P t=some ty) (hs:sizeA P ty=some sz) (hsz:0<sz) (hz:zeroA P ty=some z) (hzl:z.cells.length=sz)
  (hx:aeval st x=some (.ms ty sz b off n)) (hcs:st.s[b]? = some cs) (hn:0<n) (hfit:off+n*sz≤cs.length) :
  Goal P B T0 μ0 w0 N lx a w ⟨d,.call {callee:=.builtin .clear,args:=#[x],argTypes:=#[t]},T,pos,af,g⟩ {st with s:=st.s.set b (writeCells cs off (flat (List.replicate n z)))} (.tup []):=by
 intro K Q k
 obtain⟨zv,hrun,hof⟩:∃v,(∀w,(zeroValue ty).run P w=.ok v w)∧ofVal v=some z:=by
  unfold zeroA at hz
  cases hi:P.info? ty with
  | none=>simp[hi] at hz
  | some i =>
   rw[hi] at hz
   cases hv:i.zero with
   | none=>simp[hv] at hz
   | some v=>simp only[hv] at hz;exact⟨v,fun w=>by simp[zeroValue,typeInfo,hi,hv],hz⟩
 have hcl:=CRel.zero (B:=B) (μ:=μ) (w:=w) hof
 have hzs:zv.cells.size=sz:=hcl.1.trans hzl
 have hget:∀k,k<n*sz→(Builtin.zeroCells zv.cells n).toList[k]? = some (zv.cells.getD (k%sz) undef):=by
  intro k hk
  have hm:k%sz<zv.cells.size:=by rw[hzs];exact Nat.mod_lt _ hsz
  simp only[Builtin.zeroCells,Array.toList_map,Array.toList_range,List.getElem?_map,hzs]
  rw[List.getElem?_range hk]
  simp[Array.getD_eq_getD_getElem?,hm]
 have hnl:(Builtin.zeroCells zv.cells n).toList.length=(List.replicate n z).length*sz:=by
  have:=size_zeroCells' zv.cells n
  rw[hzs] at this
  simpa using this
 have hrepz:∀j,j<sz→∃c,z.cells[j]? = some c∧plain c=true∧Rep B μ w (zv.cells.getD j undef) c:=by
  intro j hj
  obtain⟨c,hc⟩:∃c,z.cells[j]? = some c:=⟨_,List.getElem?_eq_getElem (by omega)⟩
  exact⟨c,hc,hcl.2.1 c (List.mem_of_getElem? hc),hcl.2.2 j c hc⟩
 obtain⟨blk,cap,vs',hv,hst,h2⟩:=qm3 (P:=P) (news:=(Builtin.zeroCells zv.cells n).toList) h hsz hx hnl
  (fun v hv=>by
   obtain⟨k,hk⟩:=List.mem_iff_getElem?.1 hv
   have hlt:=(List.getElem?_eq_some_iff.1 hk).1
   rw[hnl,List.length_replicate] at hlt
   rw[hget k hlt] at hk
   injection hk with hk
   obtain⟨c,_,hp,hr⟩:=hrepz (k%sz) (Nat.mod_lt _ hsz)
   rw[← hk]
   exact hr.oneCell (plain_cell1 hp))
  (fun i j c hc=>by
   rw[List.getElem?_replicate] at hc
   split at hc
   ·rename_i hi
    simp only[Option.bind_some] at hc
    have hj:j<sz:=by rw[← hzl];exact (List.getElem?_eq_some_iff.1 hc).1
    have hk:i*sz+j<n*sz:=by
     calc i*sz+j<i*sz+sz:=by omega
      _=(i+1)*sz:=by rw[Nat.add_mul];simp
      _≤n*sz:=Nat.mul_le_mul_right _ (by omega)
    rw[qj]
    simp only[List.toList_toArray]
    rw[hget _ hk,Nat.mul_comm,Nat.mul_add_mod,Nat.mod_eq_of_lt hj]
    obtain⟨c',h1,_,h3⟩:=hrepz j hj
    rw[hc] at h1;injection h1 with h1;subst h1
    exact h3
   ·simp at hc)
  hcs (fun x hx=>by
   obtain⟨_,rfl⟩:=List.mem_replicate.1 hx
   exact⟨hzl,hcl.2.1⟩) hn (by simp) hfit
 refine qtc (v:=.tuple #[]) (w':=w.setRow blk vs') ?_ (k _ _ _ h2 ?_)
 ·rw[hv]
  obtain⟨m,rfl⟩:∃m,n=m+1:=⟨n-1,by omega⟩
  simp[Builtin.clear_,run_underlying (elem_eq hel),hrun,hst]
 ·exact qx (.tup #[] [] rfl (fun j c h=>by simp at h)) (fun j=>by cases j<;>rfl) (by intro j c h;simp at h)
theorem qlg {s:ByteArray} {e:TypeId} (h:Sim B T0 μ0 w0 N μ lx a w st) (hm:s.size≤most) :
  Sim B T0 μ0 w0 N μ lx a (Lib.bytesWorld w e s) st∧Blk (Lib.bytesWorld w e s) w.heap.size (Lib.bytesCells w e s) e∧(∀l,own a lx μ (Lib.bytesWorld w e s) st l≠some w.heap.size) ∧
   (Lib.bytesCells w e s).size=grownCap w s.size 0 e∧s.size≤grownCap w s.size 0 e∧grownCap w s.size 0 e≤maxLen ∧
   (∀(i j:Nat) (c:AV),(((s.data.toList.map AV.u8)[i]?).bind fun e=>e.cells[j]?)=some c→j=0∧i<s.size∧∃b:UInt8,c=.u8 b∧(Lib.bytesCells w e s).getD i undef=.int .u8 b.toNat):=by
 have hmost:most≤maxLen:=by unfold most maxLen;omega
 have hge:s.size≤grownCap w s.size 0 e:=grownCap_ge _ _ _ _
 have hsz:(Lib.bytesCells w e s).size=grownCap w s.size 0 e:=by simp[Lib.bytesCells];omega
 have h1:=h.drew.1
 have h2:=h1.alloc (.cells (Lib.bytesCells w e s) e)
 have hx:=qbs (μ:=μ) h1.hB (.cells (Lib.bytesCells w e s) e)
 have hfree:∀l,own a lx μ (w.drew.alloc (.cells (Lib.bytesCells w e s) e)) st l≠some w.heap.size:=by
  intro l e2
  have:=(h1.grow hx (fun _ _ _=>id) (fun _ _ h=>h.elim) h1.gdom (fun b hb=>h1.fr0 b (by simp at hb ⊢;omega)) (fun _ _=>rfl)).2 l
  rw[this] at e2
  have:=(h1.rng l _ e2).2.1
  have:w.drew.heap.size=w.heap.size:=rfl
  omega
 have hT:T0 w.heap.size∨w0.heap.size≤w.heap.size:=.inr h.ext.below.size
 have h3:=h2.freeze (q:=(Lib.bytesCells w e s).size) (n:=1) hfree h.hB hT
 have hfree3:∀l,own a lx μ (Lib.bytesWorld w e s) st l≠some w.heap.size:=by
  intro l e2
  have x:Ext B (·=w.heap.size) μ (w.drew.alloc (.cells (Lib.bytesCells w e s) e)) μ (Lib.bytesWorld w e s) :=
   ⟨Lib.below_freeze (Below.refl _ _) (p:=⟨w.heap.size,(Lib.bytesCells w e s).size,none⟩) h.hB 1,fun b hb hn=>⟨freeze_heap_other hn,rfl⟩,fun b j hb hj=>freeze_cell,fun _ _=>Nat.le_refl _,fun _ _ h=>h,fun b s e=>by rw[show Lib.bytesWorld w _ _=_ from rfl,Lib.bytesWorld,freeze_shape];exact e,fun r es c e=>freeze_map e,fun h=>h⟩
  have:=(h2.grow x (fun l k hk e=>hfree l (by rw[hk,e])) (fun b hb e=>by subst e;rcases hT with t|t;exact t;omega) h2.gdom (fun b hb=>h2.fr0 b (by rw[Lib.bytesWorld,freeze_size] at hb;exact hb)) (fun _ _=>rfl)).2 l
  rw[this] at e2
  exact hfree l e2
 refine⟨h3,⟨_,Lib.bytesWorld_at_new w e s,.inr (Nat.le_refl _)⟩,hfree3,hsz,hge,grownCap_le_maxLen _ _ _ _ (Nat.le_trans hm hmost),fun i j c hc=>?_⟩
 rw[List.getElem?_map] at hc
 cases hx:s.data.toList[i]? with
 | none=>simp[hx] at hc
 | some b =>
  rw[hx] at hc
  simp only[Option.map_some,Option.bind_some,AV.u8,AV.cells] at hc
  have hi:i<s.size:=by have:=(List.getElem?_eq_some_iff.1 hx).1;simpa using this
  cases j with
  | succ j=>simp at hc
  | zero =>
   simp at hc;subst hc
   refine⟨rfl,hi,b,rfl,?_⟩
   rw[qj]
   simp only[Lib.bytesCells,Array.toList_append,Array.toList_map]
   rw[List.getElem?_append_left (by simpa using hi)]
   simp[List.getElem?_map,hx]
def numOf:Value→Int
 | .int _ m=>m
 | _=>0
theorem qob {d T pos af g src dst x} {v:AV} {st':St} {hh:Hint} {u:AV} (h:Sim B T0 μ0 w0 N μ lx a w st) (e:msConv P hh src dst x d st=some (v,st')) :
  Goal P B T0 μ0 w0 N lx a w ⟨d,.convert src dst x,T,pos,af,g⟩ st' v:=by
 unfold msConv at e
 obtain⟨u,hu,e⟩:=qa e
 have hf:=ql h hu
 split at e
 ·rename_i l
  obtain⟨el,hel,e⟩:=qa e
  obtain⟨⟨hs,he,hm⟩,e⟩:=qn e
  intro K Q k
  have hr:=hf.1
  generalize hx:a.eval x=vx at hr
  cases hr with
  | str s =>
   have hlen:s.data.toList.length=s.size:=by simp
   rw[hlen] at hm
   obtain⟨h1,hb,hfree,hsz,hge,hml,hrep⟩:=qlg (e:=el) h hm
   have hrun:=Lib.run_convert_string_bytes (P:=P) w src dst el s hs (elem_eq hel) he
   have hall:allCells 1 (s.data.toList.map AV.u8):=fun y hy=>by
    obtain⟨b,_,rfl⟩:=List.mem_map.1 hy
    exact⟨rfl,fun c hc=>by simp[AV.u8,AV.cells] at hc;subst hc;rfl⟩
   have hT:T0 w.heap.size∨w0.heap.size≤w.heap.size:=.inr h.ext.below.size
   have hfr:μ.fr w.heap.size=0:=h.fr0 _ (Nat.le_refl _)
   have hlm:(s.data.toList.map AV.u8).length=s.size:=by simp
   split at e
   ·simp only[Option.some.injEq,Prod.mk.injEq] at e
    obtain⟨rfl,rfl⟩:=e
    obtain⟨h3,r3⟩:=h1.adoptApp (sz:=1) (cap:=grownCap w s.size 0 el) (cs:=[]) (els:=s.data.toList.map AV.u8) (by omega) hb hfree h.hB hT hfr 0 (by simp) (by rw[hsz];simp) (by rw[hlm];omega) hml hall
     (fun j c hc=>by simp at hc) (fun j k c hc=>by simp at hc) (fun j j' k c c' hc=>by simp at hc)
     (fun i j c hc=>by
      obtain⟨rfl,hi,b,rfl,e2⟩:=hrep i j c hc
      simp only[Nat.zero_mul,Nat.zero_add,Nat.mul_one,Nat.add_zero]
      rw[e2];exact .int _ _)
    have hflat:([]:List AV)++flat (s.data.toList.map AV.u8)=s.data.toList.map AV.u8:=by
     simp only[List.nil_append,flat]
     induction s.data.toList with
     | nil=>rfl
     | cons b r ih=>simp only[List.map_cons,List.flatMap_cons,ih];rfl
    rw[hflat] at h3 r3
    rw[hlm] at r3
    simp only[Nat.zero_add] at r3
    exact qw (convert src dst (a.eval x)) rfl (by rw[hx];exact hrun) (k _ _ _ h3 (by rw[hlen];exact r3))
   ·simp only[Option.some.injEq,Prod.mk.injEq] at e
    obtain⟨rfl,rfl⟩:=e
    obtain⟨h2,hown2,_⟩:=h1.extend (q:=s.size*1) (cur':=Lib.bytesCells w el s) hfree h.hB hT hb rfl (fun j hj=>rfl) (by rw[hfr];exact Nat.zero_le _)
    obtain⟨fz,hb',hok⟩:=hb
    rw[setRow_self _ _ _ _ fz hb'] at h2 hown2
    refine qw (convert src dst (a.eval x)) rfl (by rw[hx];exact hrun) (k _ _ _ h2 ⟨⟨?_,.inr ⟨w.heap.size,grownCap w s.size 0 el,Lib.bytesCells w el s,by rw[hlm],h.hB,⟨fz,hb',hok⟩,by rw[hlm];exact hge,hml,by rw[hsz];simp,by simp[mark],hall,by omega⟩⟩,fun j kk hk=>?_,fun j j' kk e e'=>?_⟩)
    ·have:=Rep.sl (B:=B) (μ:=mark μ w.heap.size (s.size*1)) (w:=Lib.bytesWorld w el s) w.heap.size 0 (grownCap w s.size 0 el) 1 (.ex el 1) (s.data.toList.map AV.u8) (fun k=>(Lib.bytesCells w el s).getD k undef) (by simp) (by omega) (by rw[hlm];exact hge) hml hall (fun k hk=>by
      rw[hlm] at hk
      refine⟨?_,.inr (by simp[mark];omega)⟩
      rw[Nat.zero_add,(show Blk _ _ _ _ from ⟨fz,hb',hok⟩).cell]
      exact qcb (by omega))
      (fun i j c hc=>by
       obtain⟨rfl,hi,b,rfl,e2⟩:=hrep i j c hc
       simp only[Nat.mul_one,Nat.add_zero]
       rw[e2];exact .int _ _)
     rw[hlm] at this
     exact this
    ·cases j with
     | none =>
      simp only[ownV,exBlk,Option.some.injEq] at hk;subst hk
      exact⟨h.hB,by rw[Lib.bytesWorld_size];omega,hT,fun l hl=>hfree l (by rw[← hown2];exact hl)⟩
     | some j=>simp[ownV] at hk
    ·cases j with
     | some j=>simp[ownV] at e
     | none=>cases j' with
      | some j=>simp[ownV] at e'
      | none=>rfl
 ·rename_i ty sz b off n
  obtain⟨el,hel,e⟩:=qa e
  obtain⟨⟨hty,he,hd⟩,e⟩:=qn e
  obtain⟨cs,hcs,e⟩:=qa e
  obtain⟨els,hels,e⟩:=qa e
  obtain⟨l,hl,e⟩:=qa e
  simp only[Option.some.injEq,Prod.mk.injEq] at e
  obtain⟨rfl,rfl⟩:=e
  subst hty
  intro K Q k
  obtain⟨b1,b2⟩:=qf5 hl
  have hr:=hf.1
  obtain⟨blk,cap,ns,hv,hns,hload⟩:∃(blk cap:Nat) (ns:List Int),a.eval x=.slice (some ⟨blk,off,none⟩) n cap∧ns.map (fun m:Int=>UInt8.ofNat m.toNat)=l ∧
    (loadCells ⟨blk,off,none⟩ n).run P w=.ok (ns.map (Value.int .u8)).toArray w:=by
   by_cases hn0:n=0
   ·subst hn0
    have hel0:els=[]:=by
     unfold readEls at hels
     obtain⟨g,hg,hels⟩:=qa hels
     obtain⟨m,hm,hels⟩:=qa hels
     split at hels
     ·injection hels with hels;subst hels;rfl
     ·cases hels
    subst hel0
    have hl0:l=[]:=List.eq_nil_of_length_eq_zero (by simpa using b1.symm)
    subst hl0
    generalize a.eval x=vx at hr
    cases hr with
    | ms _ _ _ _ _ blk cap hb hsh hc hm hsz=>exact⟨blk,cap,[],rfl,rfl,run_loadCells (P:=P) w _ 0 (fun _=>undef) (fun j hj=>by omega)⟩
   ·have hne:cs≠[]:=by
     intro e0;subst e0
     unfold readEls at hels
     obtain⟨g,hg,hels⟩:=qa hels
     obtain⟨m,hm,hels⟩:=qa hels
     split at hels
     ·rename_i hq
      obtain⟨_,h0,_,h2⟩:=hq
      have:0<n*sz:=Nat.mul_pos (by omega) h0
      simp at h2;omega
     ·cases hels
    obtain⟨blk,cap,cur,ho⟩:=h.open (els:=els) hr hcs hne
    obtain⟨r1,r2,r3,r4,r5,r6⟩:=qcm hels fun c hc=>by
     obtain⟨j,hj⟩:=List.mem_iff_getElem?.1 hc
     exact (ho.cell j c hj).1
    have hsz1:sz=1:=by
     have h0:(0:Nat)<els.length:=by omega
     obtain⟨m,hm,_⟩:=b2 0 els[0] (List.getElem?_eq_getElem h0)
     have:=(r5 els[0] (List.getElem_mem h0)).1
     rw[hm] at this;exact this.symm
    subst hsz1
    have hfn:∀j,j<n→∃m:Int,cur.getD (off+j) undef=.int .u8 m∧l[j]? = some (UInt8.ofNat m.toNat):=by
     intro j hj
     have hje:j<els.length:=by omega
     obtain⟨m,hm,hlm⟩:=b2 j els[j] (List.getElem?_eq_getElem hje)
     obtain⟨c,hc,hc2⟩:=r6 j 0 hj (by omega)
     rw[List.getElem?_eq_getElem hje,hm] at hc2
     simp only[Nat.mul_one,Nat.add_zero] at hc hc2
     have hcv:c=.int .u8 m:=by
      simp only[Option.bind_some,AV.cells,List.getElem?_cons_zero,Option.some.injEq] at hc2
      cases c<;>simp[dem] at hc2<;>simp[hc2]
     subst hcv
     have:=(ho.cell _ _ hc).2.1
     generalize cur.getD (off+j) undef=q at this
     cases this
     exact⟨m,rfl,hlm⟩
    have hlc:=ho.len
    have hld:=run_loadCells (P:=P) w ⟨blk,off,none⟩ n (fun j=>cur.getD (off+j) undef) (fun j hj=>by
     rw[add_lit,ho.heap.cell];exact qcb (by omega))
    refine⟨blk,cap,(List.range n).map fun j=>numOf (cur.getD (off+j) undef),ho.v,?_,?_⟩
    ·apply List.ext_getElem?
     intro j
     simp only[List.map_map,List.getElem?_map]
     by_cases hj:j<n
     ·rw[List.getElem?_range hj]
      obtain⟨m,hm,hlm⟩:=hfn j hj
      simp only[Option.map_some,Function.comp,hm,hlm];rfl
     ·rw[List.getElem?_eq_none (by simpa using Nat.le_of_not_lt hj),List.getElem?_eq_none (by omega)];rfl
    ·rw[hld]
     congr 2
     apply List.ext_getElem?
     intro j
     simp only[List.map_map,List.getElem?_map]
     by_cases hj:j<n
     ·rw[List.getElem?_range hj]
      obtain⟨m,hm,hlm⟩:=hfn j hj
      simp only[Option.map_some,Function.comp,hm];rfl
     ·rw[List.getElem?_eq_none (by simpa using Nat.le_of_not_lt hj)];rfl
  have hrun:=run_bytesToString (P:=P) w ⟨blk,off,none⟩ n cap ns hload
  generalize hs:(List.foldl _ _ _)=s at hrun
  have hsl:s.data.toList=l:=by
   rw[← hs,foldl_push_bytes,← hns]
   simp
  refine qw (convert src dst (a.eval x)) rfl (v:=.string s) (w':=w) ?_ (k μ _ w h (by rw[← hsl];exact qx (.str s) (fun j=>by cases j<;>rfl) trivial))
  have hq:a.eval x=.slice (some ⟨blk,off,none⟩) n cap:=hv
  rw[show (convert src dst (a.eval x))=convert src dst (.slice (some ⟨blk,off,none⟩) n cap) from by rw[hq]]
  rw[run_convert_bytes_string w src dst el _ n cap (elem_eq hel) he hd]
  exact hrun
 ·obtain⟨r,hr,e⟩:=qa e
  simp only[Option.some.injEq,Prod.mk.injEq] at e
  obtain⟨rfl,rfl⟩:=e
  exact qpt h hu hr
theorem quietLe {b j:Nat} {cs:List AV} {c:AV} (hl:st.s[b]? = some cs) (hj:cs[j]? = some c):Le {st with s:=st.s.set b (cs.set j (dem1 c))} st:=by
 have hb:b<st.s.length:=(List.getElem?_eq_some_iff.1 hl).1
 refine⟨fun i v e=>⟨v,e,.inl rfl⟩,fun d cs e=>⟨cs,e,CLe.refl _⟩,fun b' cs' e=>?_,by simp,id⟩
 simp only[List.getElem?_set] at e
 by_cases q:b=b'
 ·subst q
  simp[hb] at e;subst e
  refine⟨cs,hl,by simp,fun j' c' e=>?_⟩
  rw[List.getElem?_set] at e
  by_cases q:j=j'
  ·subst q
   have:j<cs.length:=(List.getElem?_eq_some_iff.1 hj).1
   simp[this] at e;subst e
   exact⟨c,hj,.inr rfl⟩
  ·rw[if_neg q] at e;exact⟨c',e,.inl rfl⟩
 ·rw[if_neg q] at e;exact⟨cs',e,CLe.refl _⟩
theorem Sim.quietCell {b j:Nat} {cs:List AV} {c:AV} (h:Sim B T0 μ0 w0 N μ lx a w st) (hl:st.s[b]? = some cs) (hj:cs[j]? = some c) :
  Sim B T0 μ0 w0 N μ lx a w {st with s:=st.s.set b (cs.set j (dem1 c))}:=h.le (quietLe hl hj)
theorem qoc {d T pos af g t x} {st':St} {r:AV} {hh:Hint} (h:Sim B T0 μ0 w0 N μ lx a w st) (e:msLoad P hh t x st=some (r,st')) :
  Goal P B T0 μ0 w0 N lx a w ⟨d,.load t x,T,pos,af,g⟩ st' r:=by
 unfold msLoad at e
 split at e
 ·cases e
 obtain⟨p,hp,e⟩:=qa e
 split at e
 ·rename_i b off sh
  obtain⟨ag,hg,e⟩:=qa e
  obtain⟨cs,hl,e⟩:=qa e
  obtain⟨v,hc,e⟩:=qa e
  cases ag with
  | true=>cases e
  | false =>
   simp only[Bool.false_eq_true,if_false,Option.some.injEq,Prod.mk.injEq] at e
   obtain⟨rfl,rfl⟩:=e
   have hne:cs≠[]:=fun q=>by subst q;simp at hc
   have hf:=(ql h hp).1
   generalize hv:a.eval x=y at hf
   cases hf with
   | gp _ _ blk _ hq hs =>
    obtain⟨cur,ty,g1,g2,g3,g4⟩:=h.glb b cs blk hl hq hne
    have hlt:off<cur.size:=Nat.lt_of_lt_of_le (List.getElem?_eq_some_iff.1 hc).1 g2
    obtain⟨k1,k2,k3⟩:=g4 off v hc
    have hcell:w.cell? ⟨blk,off,none⟩=some (cur.getD off undef):=by
     rw[qab g1];simp[Array.getD_eq_getD_getElem?,hlt]
    have hsim:=h.quietCell hl hc
    have hb:b<st.s.length:=(List.getElem?_eq_some_iff.1 hl).1
    have hoff:off<cs.length:=(List.getElem?_eq_some_iff.1 hc).1
    intro K Q k
    refine qw (Instr.loadAt t (a.eval x)) rfl (v:=cur.getD off undef) (w':=w) ?_ (k μ _ w hsim ?_)
    ·simp only[Instr.loadAt,hv,Instr.sureAddr,Sem.run_bind,Sem.run_pure,Result.andThen_ok]
     simp[loadVar,Sem.run_bind,qcy hg,Go.load,Sem.run,hcell]
    ·have how:∀k,exBlk (cur.getD off undef) v=some k→own a lx μ w st (.gc b off)=some k:=fun k e=>by
      simp only[own,ownB,hl,hq,Option.bind_some,hc,hcell];exact e
     refine⟨?_,fun j k e=>?_,fun j j' k e e'=>?_⟩
     ·cases v<;>first|exact⟨k2,k3⟩|cases k1
     ·cases j with
      | some j=>cases v<;>first|(simp[ownV] at e;done)|cases k1
      | none =>
       have ho:=how k e
       have hr:=h.rng _ k ho
       refine⟨hr.1,hr.2.1,hr.2.2,fun l e2=>?_⟩
       have hle:=own_le (quietLe hl hc) e2
       have:=h.inj _ _ k hle ho
       subst this
       simp only[own,ownB,List.getElem?_set,hq,Option.bind_some] at e2
       simp only[hb,if_true,Option.bind_some,List.getElem?_set,hoff,hcell] at e2
       cases v<;>simp[dem1,exBlk] at e2
     ·cases j with
      | some j=>cases v<;>first|(simp[ownV] at e;done)|cases k1
      | none=>cases j' with
       | none=>rfl
       | some j=>cases v<;>first|(simp[ownV] at e';done)|cases k1
 ·cases e
theorem qlh {d T pos af g t x lo hi mx} {st':St} {r:AV} (h:Sim B T0 μ0 w0 N μ lx a w st) (e:msSlice P t x lo hi mx st=some (r,st')) :
  Goal P B T0 μ0 w0 N lx a w ⟨d,.slice t x lo hi mx,T,pos,af,g⟩ st' r:=by
 unfold msSlice at e
 split at e
 ·cases e
 obtain⟨u,hu,e⟩:=qa e
 split at e
 ·rename_i ty sz b off n
  obtain⟨el,hel,e⟩:=qa e
  obtain⟨sz',hsz,e⟩:=qa e
  obtain⟨h',hh,e⟩:=qa e
  obtain⟨hn,hhn,e⟩:=qa e
  obtain⟨l',hl,e⟩:=qa e
  obtain⟨ln,hln,e⟩:=qa e
  obtain⟨cs,hcs,e⟩:=qa e
  split at e
  rotate_left
  ·cases e
  rename_i hq
  obtain⟨hss,h0,hle⟩:=hq
  simp only[Option.some.injEq,Prod.mk.injEq] at e
  obtain⟨rfl,rfl⟩:=e
  subst hss h0
  intro K Q k
  have hr:=(ql h hu).1
  generalize hx:a.eval x=v at hr
  cases hr with
  | ms _ _ _ _ _ blk cap hb hs hc hm' hsz0 =>
   have hcap:hn≤cap:=by
    by_cases hne:cs=[]
    ·subst hne
     simp at hle
     rcases Nat.eq_zero_or_pos hn with q|q
     ·omega
     ·have:=Nat.mul_pos q hsz0;omega
    ·obtain⟨cur,ty',g1,g2,_,_⟩:=h.glb b cs blk hcs hb hne
     have hsh:=g1.shape
     rw[hs] at hsh
     simp only[Option.some.injEq,Prod.mk.injEq] at hsh
     have:hn*sz'≤cap*sz':=by omega
     exact Nat.le_of_mul_le_mul_right this hsz0
   have hbo:(Instr.sliceBounds true n cap (lo.map a.eval) (hi.map a.eval) none).run P w=.ok (0,hn,cap) w:=by
    rcases qcj h hh hhn with ⟨q1,q2⟩|⟨k1,m1,q1,q2,q3⟩
    ·subst q2
     exact qcz hc (.inl ⟨q1,rfl⟩) (qcj h hl hln) (Nat.zero_le _) (Nat.le_refl _)
    ·have:=qcz (P:=P) (w:=w) (sl:=true) (len:=cap) (cap:=cap) (lo:=lo.map a.eval) (hi:=hi.map a.eval) (l:=0) (h:=hn) (Nat.le_refl _) (.inr ⟨k1,m1,q1,q2,q3⟩) (qcj h hl hln) (Nat.zero_le _) hcap
     rw[q1] at this ⊢
     simpa[Instr.sliceBounds] using this
   have hrun:(Instr.sliceAt t (a.eval x) (lo.map a.eval) (hi.map a.eval) ((none:Option Operand).map a.eval)).run P w=.ok (.slice (some ⟨blk,off,none⟩) hn cap) w:=by
    rw[hx]
    simp[Instr.sliceAt,Instr.slice,run_underlying (elem_eq hel),hbo,q8 hsz,add_lit]
   refine qw _ rfl hrun (k μ _ w h (qx ?_ (fun j=>by cases j<;>rfl) trivial))
   exact .ms ty sz' b off hn blk cap hb hs hcap hm' hsz0
 ·cases e
theorem qod {o:Oper} {st':St} {av:AV} {hh:Hint} (h:Sim B T0 μ0 w0 N μ lx a w st) (e:msOp P hh o st=some (av,st')):Goal P B T0 μ0 w0 N lx a w o st' av:=by
 obtain⟨d,op,T,pos,af,g⟩:=o
 unfold msOp at e
 split at e
 ·rename_i t n ps hop
  simp only at hop;subst hop
  obtain⟨el,hel,e⟩:=qa e
  obtain⟨sz,hsz,e⟩:=qa e
  obtain⟨z,hz,e⟩:=qa e
  obtain⟨l,hl,e⟩:=qa e
  split at e
  ·cases e
  ·rename_i hok
   obtain⟨els,hels,e⟩:=qa e
   simp only[Option.some.injEq,Prod.mk.injEq] at e
   obtain⟨rfl,rfl⟩:=e
   exact qfj h hel hsz hz hl hok hels
 ·rename_i t l c hop
  simp only at hop;subst hop
  obtain⟨el,hel,e⟩:=qa e
  obtain⟨sz,hsz,e⟩:=qa e
  obtain⟨by_,hby,e⟩:=qa e
  obtain⟨z,hz,e⟩:=qa e
  obtain⟨lv,hlv,e⟩:=qa e
  obtain⟨ln,hln,e⟩:=qa e
  obtain⟨cv,hcv,e⟩:=qa e
  obtain⟨cn,hcn,e⟩:=qa e
  split at e
  ·cases e
  ·rename_i hok
   obtain⟨⟨h1,h2⟩,e⟩:=qn e
   simp only[Option.some.injEq,Prod.mk.injEq] at e
   obtain⟨rfl,rfl⟩:=e
   exact qga h hel hsz hby hz hlv hln hcv hcn hok h1 h2
 ·rename_i src dst x hop
  simp only at hop;subst hop
  exact qob (u:=.nilp) h e
 ·rename_i t x hop
  simp only at hop;subst hop
  exact qoc h e
 ·rename_i t x lo hi mx hop
  simp only at hop;subst hop
  exact qlh h e
 ·rename_i c hop
  simp only at hop;subst hop
  obtain⟨callee,xs,ts⟩:=c
  split at e
  ·rename_i x y t t' hc hxs hts
   simp only at hc hxs hts
   subst hc
   obtain⟨xs⟩:=xs;obtain⟨ts⟩:=ts
   simp only at hxs hts;subst hxs;subst hts
   unfold msAppend at e
   obtain⟨el,hel,e⟩:=qa e
   obtain⟨sz,hsz,e⟩:=qa e
   obtain⟨by_,hby,e⟩:=qa e
   obtain⟨z,hz,e⟩:=qa e
   split at e
   ·cases e
   ·rename_i hok
    obtain⟨⟨u,s1⟩,hu,e⟩:=qa e
    obtain⟨b,hb,e⟩:=qa e
    obtain⟨ys,hys,e⟩:=qa e
    simp only at e hb hys
    have hsz0:0<sz:=by omega
    split at e
    ·rename_i ty sz' bb n
     split at e
     ·rename_i hq
      obtain⟨q1,q2,hn⟩:=hq
      subst q1;subst q2
      obtain⟨cs,hcs,e⟩:=qa e
      obtain⟨⟨hcl,hall,hlen⟩,e⟩:=qn e
      simp only[Option.some.injEq,Prod.mk.injEq] at e
      obtain⟨rfl,rfl⟩:=e
      exact qjz h hel hsz hby hz hok hu (fun h1=>qdn h1 hb hys hall hsz0) hn hcs hcl hall hlen
     ·cases e
    ·rename_i xs
     split at e
     ·obtain⟨⟨hx,hne,hall,hlen⟩,e⟩:=qn e
      simp only[Option.some.injEq,Prod.mk.injEq] at e
      obtain⟨rfl,rfl⟩:=e
      subst hx
      exact qeb h hel hsz hby hz hok hu (fun h1=>qdn h1 hb hys hall hsz0) (.inl rfl) hne hall hlen
     ·obtain⟨⟨hall,hlen⟩,e⟩:=qn e
      simp only[Option.some.injEq,Prod.mk.injEq] at e
      obtain⟨rfl,rfl⟩:=e
      obtain⟨h1,r1,_⟩:=take_sound h hu
      have hx:=(Rep.nil_val r1.full.1).2
      subst hx
      exact qcl h hel hsz hby hz hok hu (fun h1=>qdn h1 hb hys hall hsz0) (.inl rfl) hall (by simpa using hlen)
    ·rename_i e' n xs
     split at e
     ·rename_i hq
      obtain⟨q1,q2⟩:=hq
      subst q1;subst q2
      split at e
      ·obtain⟨⟨hx,hne,hall,hlen⟩,e⟩:=qn e
       simp only[Option.some.injEq,Prod.mk.injEq] at e
       obtain⟨rfl,rfl⟩:=e
       subst hx
       exact qeb h hel hsz hby hz hok hu (fun h1=>qdn h1 hb hys hall hsz0) (.inr rfl) hne hall hlen
      ·obtain⟨⟨hall,hlen⟩,e⟩:=qn e
       simp only[Option.some.injEq,Prod.mk.injEq] at e
       obtain⟨rfl,rfl⟩:=e
       exact qcl h hel hsz hby hz hok hu (fun h1=>qdn h1 hb hys hall hsz0) (.inr rfl) hall hlen
     ·cases e
    ·cases e
  ·rename_i x y t t' hc hxs hts
   simp only at hc hxs hts
   subst hc
   obtain⟨xs⟩:=xs;obtain⟨ts⟩:=ts
   simp only at hxs hts;subst hxs;subst hts
   unfold msCopy at e
   obtain⟨p,hp,e⟩:=qa e
   obtain⟨b,hb,e⟩:=qa e
   obtain⟨ys,hys,e⟩:=qa e
   split at e
   ·rename_i ty sz bb off n
    split at e
    ·rename_i hq
     obtain⟨q1,q2,q3⟩:=hq
     obtain⟨cs,hcs,e⟩:=qa e
     obtain⟨⟨hall,hn,hyn,hfit⟩,e⟩:=qn e
     simp only[Option.some.injEq,Prod.mk.injEq] at e
     obtain⟨rfl,rfl⟩:=e
     exact qoa h q1 q2 q3 hp (qdn h hb hys hall q3) hcs hall hn hyn hfit
    ·cases e
   ·cases e
  ·cases e
 ·cases e
end
end Go.AI
end
section
namespace Go.AI
open Go.RowKit
set_option linter.unusedVariables false
def ACalls (P:Program) (B:Nat) (W0:World) (f:FuncId) (as:List AV) (s:List (List AV)) (r:AV) (s':List (List AV)):Prop :=
 ∀(T:Nat→Prop) (μ:Gh) (w:World) (vs:Array Value),vs.size=as.length→Below B W0 w →
  Sim B T μ w vs.size μ (fun _=>none) ⟨vs,[]⟩ w ⟨params 0 as,[],s⟩ →
  Calls P f vs w fun e w'=>∃v μ',e=.returned v∧Sim B T μ w 1 μ' (fun _=>none) ⟨#[v],[]⟩ w' ⟨[(0,r)],[],s'⟩
def Enters (P:Program) (f:FuncId):Prop:=∃fn,P.funcs[f]? = some fn∧fn.body.isSome=true∧(fn.name== "runtime.NumGoroutine")=false
theorem qav {P:Program} {f:FuncId} (h:Enters P f) (args:Array Value) (w:World):(callFunc f args).run P w=.ok (.enter f args) w:=by
 obtain⟨fn,hf,hb,hn⟩:=h
 have hb':¬fn.body=none:=by cases hq:fn.body<;>simp_all
 have hn':¬fn.name= "runtime.NumGoroutine":=by simpa using hn
 simp[callFunc,hf,hn',hb']
theorem qa2 (as:List AV):∀(k i:Nat),look (params k as) i=if k≤i then as[i-k]? else none:=by
 induction as with
 | nil=>intro k i;simp[params,look]
 | cons a r ih =>
  intro k i
  simp only[params,look]
  by_cases hk:k=i
  ·subst hk;simp
  ·rw[if_neg hk,ih]
   by_cases h1:k≤i
   ·rw[if_pos h1,if_pos (by omega),show i-k=(i-(k+1))+1 by omega];simp
   ·rw[if_neg h1,if_neg (by omega)]
theorem qd5 (as:List AV):∀k,(params k as).map (·.1)=List.range' k as.length:=by
 induction as with
 | nil=>intro k;rfl
 | cons a r ih=>intro k;simp[params,ih,List.range'_succ]
section
variable {P:Program} {B:Nat} {T0:Nat→Prop} {μ0:Gh} {w0:World} {N:Nat} {μ:Gh} {lx:Nat→Option Nat} {a:Act} {w:World} {st:St}
def held (a:Act) (lx:Nat→Option Nat) (μ:Gh) (w:World) (st:St) (k:Nat):Prop:=(∃b,own a lx μ w st (.g b)=some k)∨∃b j,own a lx μ w st (.gc b j)=some k
theorem Sim.entryX {as:List AV} {vs:Array Value} {X:Nat→Prop} (h:Sim B T0 μ0 w0 N μ lx a w st) (hl:vs.size=as.length)
  (hv:∀(j:Nat) (c:AV),as[j]? = some c→Rep B μ w (vs.getD j undef) c∧pers c=true∧Tk1 B μ w (vs.getD j undef) c∧∀k,exBlk (vs.getD j undef) c=some k→X k)
  (hx:∀k,X k→B≤k∧k<w.heap.size∧∀l,own a lx μ w st l≠some k)
  (hx1:∀(j j':Nat) (c c':AV) (k:Nat),as[j]? = some c→as[j']? = some c'→exBlk (vs.getD j undef) c=some k→exBlk (vs.getD j' undef) c'=some k→j=j') :
  Sim B (fun k=>held a lx μ w st k∨X k) μ w vs.size μ (fun _=>none) ⟨vs,[]⟩ w ⟨params 0 as,[],st.s⟩:=by
 have hlook:∀i v,look (params 0 as) i=some v→as[i]? = some v:=fun i v e=>by rw[qa2] at e;simpa using e
 have hyes:∀i j k,own ⟨vs,[]⟩ (fun _=>none) μ w ⟨params 0 as,[],st.s⟩ (.t i j)=some k→j=none∧∃c,as[i]? = some c∧exBlk (vs.getD i undef) c=some k:=by
  intro i j k e
  simp only[own] at e
  cases hq:look (params 0 as) i with
  | none=>simp[hq] at e
  | some v =>
   rw[hq] at e
   have:=hv i v (hlook i v hq)
   cases j with
   | none=>simp only[Option.bind_some,ownV] at e;exact⟨rfl,v,hlook i v hq,e⟩
   | some j=>cases v<;>first|(simp[ownV] at e;done)|simp[pers] at this
 constructor
 ·exact h.mdf.symm
 ·rfl
 ·exact Ext.refl _ _ _ _
 ·intro i v e
  have:=hv i v (hlook i v e)
  have ht:Tk1 B μ w (vs.getD i undef) v:=this.2.2.1
  cases v with
  | lp d i=>simp[pers] at this
  | tup xs=>simp[pers] at this
  | _=>exact⟨this.1,ht⟩
 ·intro d cs e;simp[look] at e
 ·exact h.glb
 ·exact h.gdom
 ·have far:∀i j l' k,own ⟨vs,[]⟩ (fun _=>none) μ w ⟨params 0 as,[],st.s⟩ (.t i j)=some k→own a lx μ w st l'≠some k:=by
   intro i j l' k e
   obtain⟨_,c,hc,hk⟩:=hyes i j k e
   exact (hx k ((hv i c hc).2.2.2 k hk)).2.2 l'
  intro l l' k e e'
  cases l with
  | t i j=>cases l' with
   | t i' j' =>
    obtain⟨rfl,c,hc,hk⟩:=hyes i j k e
    obtain⟨rfl,c',hc',hk'⟩:=hyes i' j' k e'
    rw[hx1 i i' c c' k hc hc' hk hk']
   | l d=>simp[own,look] at e'
   | lc d j=>simp[own,look,ownB] at e'
   | g b'=>exact absurd (show own a lx μ w st (.g b')=some k from e') (far i j _ k e)
   | gc b' j'=>exact absurd (show own a lx μ w st (.gc b' j')=some k from e') (far i j _ k e)
  | l d=>simp[own,look] at e
  | lc d j=>simp[own,look,ownB] at e
  | g b=>cases l' with
   | t i j=>exact absurd (show own a lx μ w st (.g b)=some k from e) (far i j _ k e')
   | l d=>simp[own,look] at e'
   | lc d j=>simp[own,look,ownB] at e'
   | g b'=>exact h.inj _ _ k e e'
   | gc b' j'=>exact h.inj _ _ k e e'
  | gc b j=>cases l' with
   | t i j=>exact absurd (show own a lx μ w st (.gc _ _)=some k from e) (far i _ _ k e')
   | l d=>simp[own,look] at e'
   | lc d j=>simp[own,look,ownB] at e'
   | g b'=>exact h.inj _ _ k e e'
   | gc b' j'=>exact h.inj _ _ k e e'
 ·intro l k e
  cases l with
  | t i j =>
   obtain⟨_,c,hc,hk⟩:=hyes i j k e
   have hX:=(hv i c hc).2.2.2 k hk
   exact⟨(hx k hX).1,(hx k hX).2.1,.inl (.inr hX)⟩
  | l d=>simp[own,look] at e
  | lc d j=>simp[own,look,ownB] at e
  | g b=>have:=h.rng (.g b) k e;exact⟨this.1,this.2.1,.inl (.inl (.inl ⟨b,e⟩))⟩
  | gc b j=>have:=h.rng (.gc b j) k e;exact⟨this.1,this.2.1,.inl (.inl (.inr ⟨b,j,e⟩))⟩
 ·exact h.fr0
 ·exact h.hB
 ·rw[qd5];exact List.nodup_range'
 ·exact h.gbx
 ·exact h.mdf
def noX:Nat→Prop:=fun _=>False
theorem Sim.entry {as:List AV} {vs:Array Value} (h:Sim B T0 μ0 w0 N μ lx a w st) (hl:vs.size=as.length)
  (hv:∀(j:Nat) (c:AV),as[j]? = some c→Rep B μ w (vs.getD j undef) c∧pers c=true∧quiet c=true) :
  Sim B (fun k=>held a lx μ w st k∨noX k) μ w vs.size μ (fun _=>none) ⟨vs,[]⟩ w ⟨params 0 as,[],st.s⟩ :=
 h.entryX hl (fun j c hc=>⟨(hv j c hc).1,(hv j c hc).2.1,qaf (hv j c hc).2.2,fun k hk=>by rw[qq (hv j c hc).2.2] at hk;cases hk⟩) (fun k hk=>hk.elim)
  (fun j j' c c' k hc hc' hk _=>by rw[qq (hv j c hc).2.2] at hk;cases hk)
theorem Sim.call {X:Nat→Prop} {μ':Gh} {w':World} {v:Value} {r:AV} {s':List (List AV)} (h:Sim B T0 μ0 w0 N μ lx a w st)
  (hX:∀k,X k→(T0 k∨w0.heap.size≤k)∧∀l,own a lx μ w st l≠some k)
  (hr:Sim B (fun k=>held a lx μ w st k∨X k) μ w 1 μ' (fun _=>none) ⟨#[v],[]⟩ w' ⟨[(0,r)],[],s'⟩) :
  Sim B T0 μ0 w0 N μ' lx a w' {st with s:=s'}∧Res B T0 w0 μ' lx a w' {st with s:=s'} v r:=by
 have x:=hr.ext
 have hsz:=x.below.size
 have hfree:∀l k,(∀b,l≠.g b)→(∀b j,l≠.gc b j)→own a lx μ w st l=some k→¬(held a lx μ w st k∨X k):=by
  rintro l k n1 n2 e ((⟨b,hb⟩|⟨b,j,hb⟩)|hk)
  ·exact n1 b (h.inj _ _ k e hb)
  ·exact n2 b j (h.inj _ _ k e hb)
  ·exact (hX k hk).2 l e
 have hcell:∀blk j,(∃l,(∀b,l≠.g b)∧(∀b j,l≠.gc b j)∧own a lx μ w st l=some blk)→w'.cell? ⟨blk,j,none⟩=w.cell? ⟨blk,j,none⟩:=by
  rintro blk j ⟨l,n1,n2,hl⟩
  exact qbd (x.same blk (h.rng l blk hl).2.1 (hfree l blk n1 n2 hl)).1
 have hown:∀l,(∀b,l≠.g b)→(∀b j,l≠.gc b j)→own a lx μ' w' {st with s:=s'} l=own a lx μ w st l:=by
  intro l n1 n2
  cases l with
  | t i j=>rfl
  | l d=>rfl
  | lc d j =>
   simp only[own,ownB]
   cases hc:look st.l d with
   | none=>rfl
   | some cs =>
    obtain⟨blk,hb,_⟩:=h.loc d cs hc
    simp only[hb,Option.bind_some]
    rw[hcell blk j ⟨.l d,by simp,by simp,by simp[own,hc,hb]⟩]
  | g b=>exact absurd rfl (n1 b)
  | gc b j=>exact absurd rfl (n2 b j)
 have hst:∀l k,((∃b,l=.g b)∨∃b j,l=.gc b j)→own a lx μ' w' {st with s:=s'} l=some k→own ⟨#[v],[]⟩ (fun _=>none) μ' w' ⟨[(0,r)],[],s'⟩ l=some k:=by
  rintro l k (⟨b,rfl⟩|⟨b,j,rfl⟩) e
  ·exact e
  ·exact e
 have hfar:∀l k,own ⟨#[v],[]⟩ (fun _=>none) μ' w' ⟨[(0,r)],[],s'⟩ l=some k→∀l',(∀b,l'≠.g b)→(∀b j,l'≠.gc b j)→own a lx μ w st l'≠some k:=by
  intro l k e l' n1 n2 e'
  have h1:=h.rng l' k e'
  rcases (hr.rng l k e).2.2 with h2|h2
  ·exact hfree l' k n1 n2 e' h2
  ·omega
 have kind:∀l:Loc,((∀b,l≠.g b)∧(∀b j,l≠.gc b j))∨((∃b,l=.g b)∨∃b j,l=.gc b j):=by
  intro l;cases l
  ·exact .inl ⟨by simp,by simp⟩
  ·exact .inl ⟨by simp,by simp⟩
  ·exact .inl ⟨by simp,by simp⟩
  ·exact .inr (.inl ⟨_,rfl⟩)
  ·exact .inr (.inr ⟨_,_,rfl⟩)
 have hTT:∀k,(held a lx μ w st k∨X k)→T0 k∨w0.heap.size≤k:=by
  rintro k ((⟨b,hb⟩|⟨b,j,hb⟩)|hk)
  ·exact (h.rng _ k hb).2.2
  ·exact (h.rng _ k hb).2.2
  ·exact (hX k hk).1
 have hTT':∀k,(held a lx μ w st k∨X k)∨w.heap.size≤k→T0 k∨w0.heap.size≤k:=by
  rintro k (hk|hk)
  ·exact hTT k hk
  ·exact .inr (Nat.le_trans h.ext.below.size hk)
 have o0:∀j k,ownV v r j=some k→own ⟨#[v],[]⟩ (fun _=>none) μ' w' ⟨[(0,r)],[],s'⟩ (.t 0 j)=some k:=fun j k hk=>by
  simp only[own,look,if_true,Option.bind_some];exact hk
 refine⟨?_,⟨?_,fun j k hk=>?_,fun j j' k e e'=>?_⟩⟩
 ·constructor
  ·exact h.defs
  ·exact h.size
  ·exact h.ext.trans x fun b hb t=>by
    rcases hTT b t with t|t
    ·exact t
    ·omega
  ·intro i u hu
   exact (h.tmp i u hu).ext x fun j k hk=>hfree (.t i j) k (by simp) (by simp) (by simp only[own,hu,Option.bind_some];exact hk)
  ·intro d cs hc
   obtain⟨blk,hb,hB⟩:=h.loc d cs hc
   exact⟨blk,hb,hB.ext x (hfree (.l d) blk (by simp) (by simp) (by simp[own,hc,hb])) fun j k hk=>hfree (.lc d j) k (by simp) (by simp) (by simp only[own,hc,hb];exact hk)⟩
  ·exact hr.glb
  ·exact hr.gdom
  ·intro l l' k e e'
   rcases kind l with ⟨n1,n2⟩|k1<;>rcases kind l' with ⟨n1',n2'⟩|k1'
   ·rw[hown l n1 n2] at e;rw[hown l' n1' n2'] at e';exact h.inj l l' k e e'
   ·rw[hown l n1 n2] at e;exact absurd e (hfar l' k (hst l' k k1' e') l n1 n2)
   ·rw[hown l' n1' n2'] at e';exact absurd e' (hfar l k (hst l k k1 e) l' n1' n2')
   ·exact hr.inj l l' k (hst l k k1 e) (hst l' k k1' e')
  ·intro l k e
   rcases kind l with ⟨n1,n2⟩|k1
   ·rw[hown l n1 n2] at e
    have:=h.rng l k e
    exact⟨this.1,Nat.lt_of_lt_of_le this.2.1 hsz,this.2.2⟩
   ·have:=hr.rng l k (hst l k k1 e)
    exact⟨this.1,this.2.1,hTT' k this.2.2⟩
  ·exact hr.fr0
  ·exact hr.hB
  ·exact h.nd
  ·exact hr.gbx
  ·exact hr.mdf
 ·have:=hr.tmp 0 r (by simp[look])
  cases r with
  | lp d i=>obtain⟨blk,hb,_⟩:=this;cases hb
  | _=>exact this
 ·have e0:=o0 j k hk
  have:=hr.rng _ k e0
  refine⟨this.1,this.2.1,hTT' k this.2.2,fun l hl=>?_⟩
  rcases kind l with ⟨n1,n2⟩|k1
  ·rw[hown l n1 n2] at hl;exact hfar _ k e0 l n1 n2 hl
  ·have:=hr.inj _ _ k e0 (hst l k k1 hl)
   rcases k1 with ⟨b,rfl⟩|⟨b,j,rfl⟩<;>cases this
 ·have:=hr.inj _ _ k (o0 j k e) (o0 j' k e')
  injection this
theorem qpu {d T pos af g f ts} {xs : Array Operand} {gf : FuncId} {cap us vs : List AV} {r : AV} {s' : List (List AV)} {W0 : World} (h : Sim B T0 μ0 w0 N μ lx a w st) (hW : Below B W0 w0)
    (hf : aeval st f = some (.fn gf cap)) (hu : aevals st xs.toList = some us) (hv : args us = some vs) (hE : Enters P gf) (hC : ACalls P B W0 gf (vs ++ cap) st.s r s') :
    Goal P B T0 μ0 w0 N lx a w ⟨d, .call { callee := .value f, args := xs, argTypes := ts }, T, pos, af, g⟩ { st with s := s' } r := by
  intro K Q k
  obtain ⟨a1, a2⟩ := qaz h hu hv
  have hr := (ql h hf).1
  generalize hx : a.eval f = fv at hr
  cases hr with
  | fn gf caps cs hl hp hh =>
    have hsz : (xs.map a.eval ++ caps).size = (vs ++ cap).length := by
      simp only [Array.size_append, Array.size_map, List.length_append, hl]
      have : xs.toList.length = xs.size := by simp
      omega
    have hval : ∀ (j : Nat) (c : AV), (vs ++ cap)[j]? = some c → Rep B μ w ((xs.map a.eval ++ caps).getD j undef) c ∧ pers c = true ∧ quiet c = true := by
      intro j c hc
      have hxl : xs.size = vs.length := by have : xs.toList.length = xs.size := by simp
                                           omega
      by_cases hj : j < vs.length
      · rw [List.getElem?_append_left hj] at hc
        have := a2 j c hc
        have e : (xs.map a.eval ++ caps).getD j undef = ((xs.toList.map a.eval).toArray).getD j undef := by
          simp only [Array.getD_eq_getD_getElem?]
          rw [Array.getElem?_append_left (by simp; omega)]
          simp
        rw [e]
        exact ⟨this.1, this.2.2.2⟩
      · rw [List.getElem?_append_right (by omega)] at hc
        have e : (xs.map a.eval ++ caps).getD j undef = caps.getD (j - vs.length) undef := by
          simp only [Array.getD_eq_getD_getElem?]
          rw [Array.getElem?_append_right (by simp; omega)]
          simp [hxl]
        rw [e]
        exact ⟨hh _ c hc, hp c (List.mem_of_getElem? hc)⟩
    have hent := h.entry hsz hval
    have hcall := hC (fun k => held a lx μ w st k ∨ noX k) μ w (xs.map a.eval ++ caps) hsz (hW.trans h.ext.below) hent
    unfold Oper.wp
    have hex : (execOp a.eval ⟨d, .call { callee := .value f, args := xs, argTypes := ts }, T, pos, af, g⟩).run P w = .ok (.enter gf (xs.map a.eval ++ caps)) w := by
      simp [execOp, resolve, hx, Deferred.ofValue, invoke, qav hE]
    rw [hex]
    show Calls P gf (xs.map a.eval ++ caps) w _
    refine hcall.mono fun e w' hw' => ?_
    obtain ⟨v, μ', rfl, hs⟩ := hw'
    obtain ⟨s1, s2⟩ := h.call (fun _ hk => hk.elim) hs
    exact k μ' v w' s1 s2
theorem qoe {d T pos af g f ts} {xs : Array Operand} {gf : FuncId} {cap us vs bs : List AV} {i : Option Nat} {st1 : St} {r : AV} {s' : List (List AV)} {W0 : World} (h : Sim B T0 μ0 w0 N μ lx a w st) (hW : Below B W0 w0)
    (hf : aeval st f = some (.fn gf cap)) (hu : aevals st xs.toList = some us) (hv : args us = some vs) (hm : moved st xs.toList vs i = some (bs, st1)) (hE : Enters P gf) (hC : ACalls P B W0 gf (bs ++ cap) st1.s r s') :
    Goal P B T0 μ0 w0 N lx a w ⟨d, .call { callee := .value f, args := xs, argTypes := ts }, T, pos, af, g⟩ { st1 with s := s' } r := by
  cases i with
  | none =>
    simp only [moved, Option.some.injEq, Prod.mk.injEq] at hm
    obtain ⟨rfl, rfl⟩ := hm
    exact qpu h hW hf hu hv hE hC
  | some i =>
    simp only [moved] at hm
    obtain ⟨x, hx, hm⟩ := qa hm
    obtain ⟨⟨v, s1⟩, ht, hm⟩ := qa hm
    simp only at hm
    split at hm
    rotate_left
    · simp only [Option.some.injEq, Prod.mk.injEq] at hm
      obtain ⟨rfl, rfl⟩ := hm
      exact qpu h hW hf hu hv hE hC
    · cases hm
    · rename_i ty sz ys
      simp only [Option.some.injEq, Prod.mk.injEq] at hm
      obtain ⟨rfl, rfl⟩ := hm
      obtain ⟨h1, hres, hl1, hs1⟩ := take_sound h ht
      intro K Q k
      obtain ⟨a1, a2⟩ := qaz h hu hv
      have hr := (ql h hf).1
      generalize hxf : a.eval f = fv at hr
      cases hr with
      | fn gf caps cs hl hp hh =>
        have hsz : (xs.map a.eval ++ caps).size = (vs.set i (.sl (.ex ty sz) ys) ++ cap).length := by
          simp only [Array.size_append, Array.size_map, List.length_append, List.length_set, hl]
          have : xs.toList.length = xs.size := by simp
          omega
        have hxl : xs.size = vs.length := by have : xs.toList.length = xs.size := by simp
                                             omega
        have hil : i < vs.length := by
          have := (List.getElem?_eq_some_iff.1 hx).1
          simp at this; omega
        have hxi : (xs.map a.eval ++ caps).getD i undef = a.eval x := by
          simp only [Array.getD_eq_getD_getElem?]
          rw [Array.getElem?_append_left (by simp; omega)]
          have : xs[i]? = some x := by simpa using hx
          simp [this]
        have hval : ∀ (j : Nat) (c : AV), (vs.set i (.sl (.ex ty sz) ys) ++ cap)[j]? = some c → (j = i ∧ c = .sl (.ex ty sz) ys) ∨ (Rep B μ w ((xs.map a.eval ++ caps).getD j undef) c ∧ pers c = true ∧ quiet c = true) := by
          intro j c hc
          by_cases hj : j < vs.length
          · rw [List.getElem?_append_left (by simpa using hj), List.getElem?_set] at hc
            by_cases hji : i = j
            · subst hji
              rw [if_pos rfl, if_pos hil] at hc
              injection hc with hc
              exact .inl ⟨rfl, hc.symm⟩
            · rw [if_neg hji] at hc
              have := a2 j c hc
              have e : (xs.map a.eval ++ caps).getD j undef = ((xs.toList.map a.eval).toArray).getD j undef := by
                simp only [Array.getD_eq_getD_getElem?]
                rw [Array.getElem?_append_left (by simp; omega)]
                simp
              rw [e]
              exact .inr ⟨this.1, this.2.2.2⟩
          · rw [List.getElem?_append_right (by simp; omega), List.length_set] at hc
            have e : (xs.map a.eval ++ caps).getD j undef = caps.getD (j - vs.length) undef := by
              simp only [Array.getD_eq_getD_getElem?]
              rw [Array.getElem?_append_right (by simp; omega)]
              simp [hxl]
            rw [e]
            exact .inr ⟨hh _ c hc, hp c (List.mem_of_getElem? hc)⟩
        have hXf : ∀ k, exBlk (a.eval x) (.sl (.ex ty sz) ys) = some k → B ≤ k ∧ k < w.heap.size ∧ (T0 k ∨ w0.heap.size ≤ k) ∧ ∀ l, own a lx μ w s1 l ≠ some k := fun k hk => hres.tok none k hk
        have hent := h1.entryX (X := fun k => exBlk (a.eval x) (.sl (.ex ty sz) ys) = some k) hsz (fun j c hc => by
            rcases hval j c hc with ⟨rfl, rfl⟩ | hq
            · rw [hxi]
              exact ⟨hres.full.1, rfl, hres.full.2, fun k hk => hk⟩
            · exact ⟨hq.1, hq.2.1, qaf hq.2.2, fun k hk => by rw [qq hq.2.2] at hk; cases hk⟩)
          (fun k hk => ⟨(hXf k hk).1, (hXf k hk).2.1, (hXf k hk).2.2.2⟩)
          (fun j j' c c' k hc hc' hk hk' => by
            rcases hval j c hc with ⟨rfl, rfl⟩ | hq
            · rcases hval j' c' hc' with ⟨rfl, rfl⟩ | hq'
              · rfl
              · rw [qq hq'.2.2] at hk'; cases hk'
            · rw [qq hq.2.2] at hk; cases hk)
        have hcall := hC (fun k => held a lx μ w s1 k ∨ exBlk (a.eval x) (.sl (.ex ty sz) ys) = some k) μ w (xs.map a.eval ++ caps) hsz (hW.trans h.ext.below) hent
        unfold Oper.wp
        have hex : (execOp a.eval ⟨d, .call { callee := .value f, args := xs, argTypes := ts }, T, pos, af, g⟩).run P w = .ok (.enter gf (xs.map a.eval ++ caps)) w := by
          simp [execOp, resolve, hxf, Deferred.ofValue, invoke, qav hE]
        rw [hex]
        show Calls P gf (xs.map a.eval ++ caps) w _
        refine hcall.mono fun e w' hw' => ?_
        obtain ⟨v, μ', rfl, hs⟩ := hw'
        obtain ⟨q1, q2⟩ := h1.call (fun k hk => ⟨(hXf k hk).2.2.1, (hXf k hk).2.2.2⟩) hs
        exact k μ' v w' q1 q2
theorem qof {d T pos af g f ts} {xs:Array Operand} {gf:FuncId} {cap us vs:List AV} {r:AV} {s':List (List AV)} {W0:World} (h:Sim B T0 μ0 w0 N μ lx a w st) (hW:Below B W0 w0)
  (hf:aeval st f=some (.fb gf cap)) (hu:aevals st xs.toList=some us) (hv:args us=some vs) (hE:Enters P gf) (hC:ACalls P B W0 gf (cap++vs) st.s r s') :
  Goal P B T0 μ0 w0 N lx a w ⟨d,.call {callee:=.value f,args:=xs,argTypes:=ts},T,pos,af,g⟩ {st with s:=s'} r:=by
 intro K Q k
 obtain⟨a1,a2⟩:=qaz h hu hv
 have hr:=(ql h hf).1
 generalize hx:a.eval f=fv at hr
 cases hr with
 | fb gf caps cs hl hp hh =>
  have hsz:(caps++xs.map a.eval).size=(cap++vs).length:=by
   simp only[Array.size_append,Array.size_map,List.length_append,hl]
   have:xs.toList.length=xs.size:=by simp
   omega
  have hval:∀(j:Nat) (c:AV),(cap++vs)[j]? = some c→Rep B μ w ((caps++xs.map a.eval).getD j undef) c∧pers c=true∧quiet c=true:=by
   intro j c hc
   by_cases hj:j<cap.length
   ·rw[List.getElem?_append_left hj] at hc
    have e:(caps++xs.map a.eval).getD j undef=caps.getD j undef:=by
     simp only[Array.getD_eq_getD_getElem?]
     rw[Array.getElem?_append_left (by omega)]
    rw[e]
    exact⟨hh _ c hc,hp c (List.mem_of_getElem? hc)⟩
   ·rw[List.getElem?_append_right (by omega)] at hc
    have:=a2 _ c hc
    have e:(caps++xs.map a.eval).getD j undef=((xs.toList.map a.eval).toArray).getD (j-cap.length) undef:=by
     simp only[Array.getD_eq_getD_getElem?]
     rw[Array.getElem?_append_right (by omega),hl]
     simp
    rw[e]
    exact⟨this.1,this.2.2.2⟩
  have hent:=h.entry hsz hval
  have hcall:=hC (fun k=>held a lx μ w st k∨noX k) μ w (caps++xs.map a.eval) hsz (hW.trans h.ext.below) hent
  unfold Oper.wp
  have hex:(execOp a.eval ⟨d,.call {callee:=.value f,args:=xs,argTypes:=ts},T,pos,af,g⟩).run P w=.ok (.enter gf (caps++xs.map a.eval)) w:=by
   simp[execOp,resolve,hx,Deferred.ofValue,invoke,qav hE]
  rw[hex]
  show Calls P gf (caps++xs.map a.eval) w _
  refine hcall.mono fun e w' hw'=>?_
  obtain⟨v,μ',rfl,hs⟩:=hw'
  obtain⟨s1,s2⟩:=h.call (fun _ hk=>hk.elim) hs
  exact k μ' v w' s1 s2
theorem qpv {d T pos af g f ts} {name:String} {xs:Array Operand} {t:TypeId} {gf:FuncId} {v0:AV} {us vs:List AV} {r:AV} {s':List (List AV)} {W0:World} (h:Sim B T0 μ0 w0 N μ lx a w st) (hW:Below B W0 w0)
  (hf:aeval st f=some (.ifc t v0)) (hp0:pers v0=true) (hq0:quiet v0=true) (hm:meth P t gf name) (hu:aevals st xs.toList=some us) (hv:args us=some vs) (hE:Enters P gf) (hC:ACalls P B W0 gf (v0::vs) st.s r s') :
  Goal P B T0 μ0 w0 N lx a w ⟨d,.call {callee:=.invoke f name,args:=xs,argTypes:=ts},T,pos,af,g⟩ {st with s:=s'} r:=by
 intro K Q k
 obtain⟨a1,a2⟩:=qaz h hu hv
 have hr:=(ql h hf).1
 generalize hx:a.eval f=fv at hr
 cases hr with
 | ifc t u0 v0 h0 =>
  have hsz:(#[u0]++xs.map a.eval).size=(v0::vs).length:=by
   simp only[Array.size_append,Array.size_map,List.length_cons]
   have:xs.toList.length=xs.size:=by simp
   simp;omega
  have hval:∀(j:Nat) (c:AV),(v0::vs)[j]? = some c→Rep B μ w ((#[u0]++xs.map a.eval).getD j undef) c∧pers c=true∧quiet c=true:=by
   intro j c hc
   cases j with
   | zero=>simp only[List.getElem?_cons_zero,Option.some.injEq] at hc;subst hc;exact⟨by
     have e:(#[u0]++xs.map a.eval).getD 0 undef=u0:=by
      rw[Array.getD_eq_getD_getElem?,Array.getElem?_append_left (by simp)];rfl
     rw[e];exact h0,hp0,hq0⟩
   | succ j =>
    simp only[List.getElem?_cons_succ] at hc
    have:=a2 _ c hc
    have e:(#[u0]++xs.map a.eval).getD (j+1) undef=((xs.toList.map a.eval).toArray).getD j undef:=by
     simp only[Array.getD_eq_getD_getElem?]
     rw[Array.getElem?_append_right (by simp)]
     simp
    rw[e]
    exact⟨this.1,this.2.2.2⟩
  have hent:=h.entry hsz hval
  have hcall:=hC (fun k=>held a lx μ w st k∨noX k) μ w (#[u0]++xs.map a.eval) hsz (hW.trans h.ext.below) hent
  unfold Oper.wp
  have hex:(execOp a.eval ⟨d,.call {callee:=.invoke f name,args:=xs,argTypes:=ts},T,pos,af,g⟩).run P w=.ok (.enter gf (#[u0]++xs.map a.eval)) w:=by
   have e1:(#[Value.iface t u0]++xs.map a.eval).extract 1 (#[Value.iface t u0]++xs.map a.eval).size=xs.map a.eval:=by
    apply Array.ext'
    simp only[Array.toList_extract,Array.toList_append,Array.toList_map,List.extract_eq_take_drop,Array.size_append,Array.size_map,List.cons_append,List.nil_append,List.drop_succ_cons,List.drop_zero]
    rw[List.take_of_length_le]
    simp
   have e0:(#[Value.iface t u0]++xs.map a.eval)[0]? = some (Value.iface t u0):=by rw[Array.getElem?_append_left (by simp)];rfl
   simp only[execOp,resolve,hx,Sem.run_bind,Sem.run_pure,Result.andThen_ok,invoke,e0,callMethod,run_program,hm u0 w,e1,qav hE]
  rw[hex]
  show Calls P gf (#[u0]++xs.map a.eval) w _
  refine hcall.mono fun e w' hw'=>?_
  obtain⟨v,μ',rfl,hs⟩:=hw'
  obtain⟨s1,s2⟩:=h.call (fun _ hk=>hk.elim) hs
  exact k μ' v w' s1 s2
end
end Go.AI
end
section
namespace Go.AI
open Go.RowKit Go.MapKept
set_option linter.unusedVariables false
section
variable {P:Program} {B:Nat} {T0:Nat→Prop} {μ0:Gh} {w0:World} {N:Nat} {μ:Gh} {lx:Nat→Option Nat} {a:Act} {w:World} {st:St}
theorem qvy (a b:ByteArray):(a==b)=(a.data==b.data):=by cases a;cases b;rfl
theorem findNow_mp {k:ByteArray}:∀(ks:List (List UInt8)) (vs:List AV) (l:List MapEntry) (f:Nat→Value) (i:Nat),l.length=ks.length→vs.length=ks.length →
  (∀j q,ks[j]? = some q→∃b,l[j]? = some (MapEntry.mk (.string ⟨q.toArray⟩) (f j) b)) →
  (mpGet ks vs k.data.toList=none∧Instr.findNow .string (.string k) l i=some none)∨∃j v,vs[j]? = some v∧mpGet ks vs k.data.toList=some v∧Instr.findNow .string (.string k) l i=some (some (i+j,f j))
 | [],vs,l,f,i,hl,hv,h=>by
  cases l with
  | nil=>exact .inl ⟨by simp[mpGet],rfl⟩
  | cons e r=>simp at hl
 | q::ks,[],l,f,i,hl,hv,h=>by simp at hv
 | q::ks,v::vs,[],f,i,hl,hv,h=>by simp at hl
 | q::ks,v::vs,e::l,f,i,hl,hv,h=>by
  obtain⟨b,hb⟩:=h 0 q rfl
  simp only[List.getElem?_cons_zero,Option.some.injEq] at hb
  subst hb
  by_cases hq:k.data.toList=q
  ·have hk:k=⟨q.toArray⟩:=by
    obtain⟨d⟩:=k
    obtain⟨d⟩:=d
    simp at hq;subst hq;rfl
   refine .inr ⟨0,v,rfl,?_,?_⟩
   ·simp[mpGet,hq]
   ·have hb:((⟨q.toArray⟩:ByteArray)==⟨q.toArray⟩)=true:=by rw[qvy];simp
    simp[Instr.findNow,Instr.sameNow,hk,hb]
  ·have hk:(k==⟨q.toArray⟩)=false:=by
    rw[qvy]
    simp only[beq_eq_false_iff_ne,ne_eq]
    intro e;apply hq;rw[e]
   have ih:=findNow_mp (k:=k) ks vs l (fun j=>f (j+1)) (i+1) (by simpa using hl) (by simpa using hv) (fun j q' hj=>by
    obtain⟨b',hb'⟩:=h (j+1) q' (by simpa using hj)
    exact⟨b',by simpa using hb'⟩)
   have hg:mpGet (q::ks) (v::vs) k.data.toList=mpGet ks vs k.data.toList:=by simp[mpGet,hq]
   have hf:Instr.findNow .string (.string k) (MapEntry.mk (.string ⟨q.toArray⟩) (f 0) b::l) i=Instr.findNow .string (.string k) l (i+1):=by simp[Instr.findNow,Instr.sameNow,hk]
   rw[hg,hf]
   rcases ih with ⟨h1,h2⟩|⟨j,v',h1,h2,h3⟩
   ·exact .inl ⟨h1,h2⟩
   ·exact .inr ⟨j+1,v',by simpa using h1,h2,by rw[h3,show i+1+j=i+(j+1) by omega]⟩
theorem qpw {d T pos af g t x i} {u ix r:AV} (h:Sim B T0 μ0 w0 N μ lx a w st) (hu:aeval st x=some u) (hi:aeval st i=some ix) (e:lookA P t u ix=some r) :
  Goal P B T0 μ0 w0 N lx a w ⟨d,.lookup t x i false,T,pos,af,g⟩ st (dem r):=by
 intro K Q k
 unfold lookA at e
 split at e
 ·rename_i ks vs q
  split at e
  ·rename_i kt et ht
   obtain⟨hkt,e⟩:=qn e
   obtain⟨z,hz,e⟩:=qa e
   split at e
   ·rename_i hz1
    injection e with e;subst e
    have hr:=(ql h hu).1
    have hri:=(ql h hi).1
    generalize hx:a.eval x=xv at hr
    generalize hxi:a.eval i=iv at hri
    cases hr with
    | mp rr clock es _ _ f hh hl hv hk hp hrr =>
     cases hri with
     | str s =>
      obtain⟨zv,hzr,hzo⟩:=zero_run hz w
      have hck:(Instr.checkKey es.isEmpty 10000 kt (.string s)).run P w=.ok () w:=run_checkKey hkt (by simp[IsKey]) _ 9999
      rcases findNow_mp (k:=s) ks vs es.toList f 0 (by simpa using hl) hv (fun j q hj=>by
       obtain⟨b,hb⟩:=hk j q hj
       exact⟨b,by simpa using hb⟩) with ⟨h1,h2⟩|⟨j,v',h1,h2,h3⟩
      ·have hfk:=run_findKey (w:=w) hkt h2
       refine qw (Instr.lookup t (a.eval x) (a.eval i) false) rfl (v:=zv) (w':=w) ?_ (k μ _ w h ?_)
       ·rw[hx,hxi]
        simp only[Instr.lookup,Sem.run_bind,run_underlying ht,Result.andThen_ok,MapKept.run_getObj_map hh,hck,hfk,hzr,Sem.run_pure]
        rfl
       ·rw[h1]
        have hq:=qd3 (B:=B) (μ:=μ) (w:=w) hzo
        exact qf3 hq.1
      ·have hfk:=run_findKey (w:=w) hkt h3
       refine qw (Instr.lookup t (a.eval x) (a.eval i) false) rfl (v:=f j) (w':=w) ?_ (k μ _ w h ?_)
       ·rw[hx,hxi]
        simp only[Instr.lookup,Sem.run_bind,run_underlying ht,Result.andThen_ok,MapKept.run_getObj_map hh,hck,hfk,Sem.run_pure]
        rfl
       ·rw[h2]
        exact qf3 (hrr j v' h1)
   ·cases e
  ·cases e
 ·cases e
end
end Go.AI
end
section
namespace Go.AI
open Go.RowKit
set_option linter.unusedVariables false
section
variable {P:Program} {B:Nat} {T0:Nat→Prop} {μ0:Gh} {w0:World} {N:Nat} {μ:Gh} {lx:Nat→Option Nat} {a:Act} {w:World} {st:St} {hh:Hint} {C:Oracle} {W0:World}
def OracleOk (P:Program) (B:Nat) (W0:World) (C:Oracle):Prop :=
 ∀f as s r s',C f as s=some (r,s')→Enters P (AI.base f)∧ACalls P B W0 (AI.base f) as s r s'
theorem qc4 {h:Hint} {d:Option Tmp} {g:FuncId} (hg:g<100000):AI.base (vary h d g)=g:=by
 have h0:∀k:Nat,(g+100000*k)%100000=g:=fun k=>by rw[Nat.add_mul_mod_self_left];exact Nat.mod_eq_of_lt hg
 have h1:g%100000=g:=Nat.mod_eq_of_lt hg
 unfold vary AI.base
 split
 ·split
  ·exact h0 _
  ·exact h1
 ·exact h1
theorem qm4 {o:Oper} {st':St} {av:AV} (h:Goal P B T0 μ0 w0 N lx a w o st' av) (hd:∀n,o.dst=some n→n<N):GoalS P B T0 μ0 w0 N a w o (st'.put o.dst av):=by
 intro K Q k
 refine h K Q fun μ' v w' h1 h2=>k μ' lx _ w' (qjp h1 h2 hd)
theorem qpx {o:Oper} {st':St} {av:AV} (h:Sim B T0 μ0 w0 N μ lx a w st) (hW:Below B W0 w0) (hC:OracleOk P B W0 C) (e:opVal P hh C o st=some (av,st')):Goal P B T0 μ0 w0 N lx a w o st' av:=by
 obtain⟨d,op,T,pos,af,g⟩:=o
 cases op with
 | assign x=>exact qpm h e
 | move x=>exact qwt h e
 | pick c x y =>
  simp only[opVal] at e
  obtain⟨v0,e0,e⟩:=qa e
  simp only[Option.some.injEq,Prod.mk.injEq] at e
  obtain⟨rfl,rfl⟩:=e
  simp only[opPure] at e0
  obtain⟨t,ht,e0⟩:=qa e0
  cases t with
  | bool t =>
   obtain⟨v,hv,e0⟩:=qa e0
   injection e0 with e0
   exact qwu h ht hv e0 rfl
  | _=>cases e0
 | build t ps =>
  simp only[opVal] at e
  obtain⟨v0,e0,e⟩:=qa e
  simp only[Option.some.injEq,Prod.mk.injEq] at e
  obtain⟨rfl,rfl⟩:=e
  simp only[opPure] at e0
  obtain⟨z,hz,e0⟩:=qa e0
  obtain⟨l,hl,e0⟩:=qa e0
  split at e0
  ·rename_i fs ht
   obtain⟨pl,hpl,e0⟩:=qa e0
   obtain⟨cs,hcs,e0⟩:=qa e0
   injection e0 with e0;subst e0
   exact qf9 h hz hl ht hpl hcs
  ·rename_i n el ht
   obtain⟨sz,hs,e0⟩:=qa e0
   obtain⟨cs,hcs,e0⟩:=qa e0
   injection e0 with e0;subst e0
   exact qg8 h hz hl ht hs hcs
  ·cases e0
 | buildSlice t n ps =>
  simp only[opVal] at e
  obtain⟨v0,e0,e⟩:=qa e
  simp only[Option.some.injEq,Prod.mk.injEq] at e
  obtain⟨rfl,rfl⟩:=e
  simp only[opPure] at e0
  obtain⟨el,hel,e0⟩:=qa e0
  obtain⟨sz,hs,e0⟩:=qa e0
  obtain⟨z,hz,e0⟩:=qa e0
  obtain⟨l,hl,e0⟩:=qa e0
  split at e0
  ·cases e0
  ·rename_i hok
   obtain⟨els,hels,e0⟩:=qa e0
   injection e0 with e0;subst e0
   exact qij h hel hs hz hl hok hels
 | load t x =>
  simp only[opVal] at e
  obtain⟨v0,e0,e⟩:=qa e
  simp only[Option.some.injEq,Prod.mk.injEq] at e
  obtain⟨rfl,rfl⟩:=e
  simp only[opPure] at e0
  obtain⟨p,hp,e0⟩:=qa e0
  obtain⟨bx,hb,e0⟩:=qa e0
  obtain⟨r,hr,e0⟩:=qa e0
  cases hst:steals hh d with
  | true=>rw[hst] at e0;simp at e0
  | false =>
   rw[hst] at e0
   simp only[Bool.false_eq_true,if_false,Option.some.injEq] at e0
   subst e0
   exact qwv h hp hb hr
 | nilCheck x =>
  simp only[opVal] at e
  obtain⟨v0,e0,e⟩:=qa e
  simp only[Option.some.injEq,Prod.mk.injEq] at e
  obtain⟨rfl,rfl⟩:=e
  simp only[opPure] at e0
  obtain⟨v,hv,e0⟩:=qa e0
  split at e0
  ·injection e0 with e0;subst e0;exact qck h hv (.inl ⟨_,_,rfl⟩)
  ·injection e0 with e0;subst e0;exact qck h hv (.inr (.inl ⟨_,_,rfl⟩))
  ·injection e0 with e0;subst e0;exact qck h hv (.inr (.inr (.inl ⟨_,_,_,rfl⟩)))
  ·injection e0 with e0;subst e0;exact qck h hv (.inr (.inr (.inr ⟨_,_,rfl⟩)))
  ·cases e0
 | binOp op t x y t' =>
  simp only[opVal] at e
  obtain⟨v0,e0,e⟩:=qa e
  simp only[Option.some.injEq,Prod.mk.injEq] at e
  obtain⟨rfl,rfl⟩:=e
  simp only[opPure] at e0
  obtain⟨u,hu,e0⟩:=qa e0
  obtain⟨v,hv,e0⟩:=qa e0
  exact qzz h hu hv e0
 | unOp op t x =>
  simp only[opVal] at e
  obtain⟨v0,e0,e⟩:=qa e
  simp only[Option.some.injEq,Prod.mk.injEq] at e
  obtain⟨rfl,rfl⟩:=e
  simp only[opPure] at e0
  obtain⟨u,hu,e0⟩:=qa e0
  exact op_un h hu e0
 | convert src dst x =>
  simp only[opVal] at e
  obtain⟨v0,e0,e⟩:=qa e
  simp only[Option.some.injEq,Prod.mk.injEq] at e
  obtain⟨rfl,rfl⟩:=e
  simp only[opPure] at e0
  obtain⟨u,hu,e0⟩:=qa e0
  exact qpt h hu e0
 | makeInterface t x =>
  simp only[opVal] at e
  obtain⟨v0,e0,e⟩:=qa e
  simp only[Option.some.injEq,Prod.mk.injEq] at e
  obtain⟨rfl,rfl⟩:=e
  simp only[opPure] at e0
  obtain⟨u,hu,e0⟩:=qa e0
  obtain⟨v,hv,e0⟩:=qa e0
  split at e0
  ·cases e0
  ·rename_i ds hds hn
   injection e0 with e0;subst e0
   exact qfi h hu hv ⟨ds,hn,fun ms hms=>hds ms hms⟩
  ·cases e0
 | makeFunc fn first cap =>
  simp only[opVal] at e
  obtain⟨v0,e0,e⟩:=qa e
  simp only[Option.some.injEq,Prod.mk.injEq] at e
  obtain⟨rfl,rfl⟩:=e
  cases fn with
  | func f =>
   simp only[opPure] at e0
   split at e0
   ·rename_i h0
    obtain⟨us,hu,e0⟩:=qa e0
    obtain⟨vs,hv,e0⟩:=qa e0
    injection e0 with e0;subst e0
    exact qlc h h0 hu hv
   ·split at e0
    ·rename_i h0
     obtain⟨us,hu,e0⟩:=qa e0
     obtain⟨vs,hv,e0⟩:=qa e0
     injection e0 with e0;subst e0
     exact qg7 h h0 hu hv
    ·cases e0
  | _=>simp only[opPure] at e0 ;cases e0
 | makeSlice t l c =>
  simp only[opVal] at e
  obtain⟨v0,e0,e⟩:=qa e
  simp only[Option.some.injEq,Prod.mk.injEq] at e
  obtain⟨rfl,rfl⟩:=e
  simp only[opPure] at e0
  obtain⟨el,hel,e0⟩:=qa e0
  obtain⟨sz,hs,e0⟩:=qa e0
  obtain⟨by_,hb,e0⟩:=qa e0
  obtain⟨z,hz,e0⟩:=qa e0
  obtain⟨lv,hl,e0⟩:=qa e0
  obtain⟨ln,hln,e0⟩:=qa e0
  obtain⟨cv,hc,e0⟩:=qa e0
  obtain⟨cn,hcn,e0⟩:=qa e0
  split at e0
  ·cases e0
  ·rename_i hok
   obtain⟨⟨h1,h2⟩,e0⟩:=qn e0
   injection e0 with e0;subst e0
   exact qjt h hel hs hb hz hl hln hc hcn (by omega) h1 h2 (by omega)
 | slice t x lo hi mx =>
  simp only[opVal] at e
  obtain⟨v0,e0,e⟩:=qa e
  simp only[Option.some.injEq,Prod.mk.injEq] at e
  obtain⟨rfl,rfl⟩:=e
  simp only[opPure] at e0
  obtain⟨u,hu,e0⟩:=qa e0
  obtain⟨l',hl,e0⟩:=qa e0
  obtain⟨h',hh,e0⟩:=qa e0
  obtain⟨m',hm,e0⟩:=qa e0
  exact qs7 h hu hl hh hm e0
 | fieldAddr t x f =>
  simp only[opVal] at e
  obtain⟨v0,e0,e⟩:=qa e
  simp only[Option.some.injEq,Prod.mk.injEq] at e
  obtain⟨rfl,rfl⟩:=e
  simp only[opPure] at e0
  obtain⟨u,hu,e0⟩:=qa e0
  exact qjs h hu e0
 | field t x f =>
  simp only[opVal] at e
  obtain⟨v0,e0,e⟩:=qa e
  simp only[Option.some.injEq,Prod.mk.injEq] at e
  obtain⟨rfl,rfl⟩:=e
  simp only[opPure] at e0
  obtain⟨u,hu,e0⟩:=qa e0
  split at e0
  ·obtain⟨p,hp,e0⟩:=qa e0
   obtain⟨r,hr,e0⟩:=qa e0
   injection e0 with e0;subst e0
   exact qs6 h hu hp hr
  ·cases e0
 | indexAddr t x i =>
  simp only[opVal] at e
  obtain⟨v0,e0,e⟩:=qa e
  simp only[Option.some.injEq,Prod.mk.injEq] at e
  obtain⟨rfl,rfl⟩:=e
  simp only[opPure] at e0
  obtain⟨u,hu,e0⟩:=qa e0
  obtain⟨v,hv,e0⟩:=qa e0
  exact qjr h hu hv e0
 | index t x i =>
  simp only[opVal] at e
  obtain⟨v0,e0,e⟩:=qa e
  simp only[Option.some.injEq,Prod.mk.injEq] at e
  obtain⟨rfl,rfl⟩:=e
  simp only[opPure] at e0
  obtain⟨u,hu,e0⟩:=qa e0
  obtain⟨v,hv,e0⟩:=qa e0
  obtain⟨r,hr,e0⟩:=qa e0
  injection e0 with e0;subst e0
  obtain⟨_,_,hg⟩:=qs5 (d:=d) (T:=T) (pos:=pos) (af:=af) (g:=g) h hu hv hr
  exact hg
 | lookup t x i ok =>
  simp only[opVal] at e
  obtain⟨v0,e0,e⟩:=qa e
  simp only[Option.some.injEq,Prod.mk.injEq] at e
  obtain⟨rfl,rfl⟩:=e
  cases ok with
  | true=>cases e0
  | false =>
   simp only[opPure] at e0
   obtain⟨u,hu,e0⟩:=qa e0
   obtain⟨v,hv,e0⟩:=qa e0
   obtain⟨r,hr,e0⟩:=qa e0
   injection e0 with e0;subst e0
   exact qpw h hu hv hr
 | extract x i =>
  simp only[opVal] at e
  obtain⟨p,hp,e⟩:=qa e
  obtain⟨u,s⟩:=p
  simp only at e
  split at e
  ·obtain⟨v,hv,e⟩:=qa e
   split at e
   ·rename_i hpv
    simp only[Option.some.injEq,Prod.mk.injEq] at e
    obtain⟨rfl,rfl⟩:=e
    obtain⟨k1,k2⟩:=qhu h hp
    exact qn5 k1 k2 hv hpv
   ·cases e
  ·cases e
 | call c =>
  obtain⟨callee,xs,ts⟩:=c
  simp only[opVal,callA] at e
  cases callee with
  | value f =>
   simp only at e
   obtain⟨gv,hg,e⟩:=qa e
   split at e
   ·split at e
    ·rename_i hlt
     obtain⟨us,hu,e⟩:=qa e
     obtain⟨vs,hv,e⟩:=qa e
     obtain⟨⟨q,s1⟩,hq,e⟩:=qa e
     obtain⟨⟨r,s'⟩,hr,e⟩:=qa e
     simp only[Option.some.injEq,Prod.mk.injEq] at e
     obtain⟨rfl,rfl⟩:=e
     obtain⟨c1,c2⟩:=hC _ _ _ _ _ hr
     rw[qc4 hlt] at c1 c2
     exact qoe h hW hg hu hv hq c1 c2
    ·cases e
   ·split at e
    ·rename_i hlt
     obtain⟨us,hu,e⟩:=qa e
     obtain⟨vs,hv,e⟩:=qa e
     obtain⟨⟨r,s'⟩,hr,e⟩:=qa e
     simp only[Option.some.injEq,Prod.mk.injEq] at e
     obtain⟨rfl,rfl⟩:=e
     obtain⟨c1,c2⟩:=hC _ _ _ _ _ hr
     rw[qc4 hlt] at c1 c2
     exact qof h hW hg hu hv c1 c2
    ·cases e
   ·cases e
  | invoke rv m =>
   simp only at e
   obtain⟨gv,hg,e⟩:=qa e
   split at e
   ·obtain⟨gf,hi,e⟩:=qa e
    split at e
    ·rename_i hlt
     obtain⟨hm,e⟩:=qn e
     obtain⟨us,hu,e⟩:=qa e
     obtain⟨vs,hv,e⟩:=qa e
     obtain⟨⟨r,s'⟩,hr,e⟩:=qa e
     simp only[Option.some.injEq,Prod.mk.injEq] at e
     obtain⟨rfl,rfl⟩:=e
     obtain⟨c1,c2⟩:=hC _ _ _ _ _ hr
     rw[qc4 hlt.1] at c1 c2
     exact qpv h hW hg hlt.2.1 hlt.2.2 hm hu hv c1 c2
    ·cases e
   ·cases e
  | builtin b =>
   cases b with
   | len =>
    simp only at e
    obtain⟨v0,e0,e⟩:=qa e
    simp only[Option.some.injEq,Prod.mk.injEq] at e
    obtain⟨rfl,rfl⟩:=e
    simp only[builtP] at e0
    split at e0
    ·rename_i x t hx ht
     obtain rfl:xs=#[x]:=by apply Array.ext';simpa using hx
     obtain rfl:ts=#[t]:=by apply Array.ext';simpa using ht
     obtain⟨v,hv,e0⟩:=qa e0
     split at e0
     ·split at e0
      ·rename_i hel
       injection e0 with e0;subst e0
       exact qpr h hv hel
      ·cases e0
     ·split at e0
      ·rename_i hel
       injection e0 with e0;subst e0
       exact qps h hv hel
      ·cases e0
     ·obtain⟨hs,e0⟩:=qn e0
      injection e0 with e0;subst e0
      exact qn9 h hv hs
     ·cases e0
    ·cases e0
   | min =>
    simp only at e
    obtain⟨v0,e0,e⟩:=qa e
    simp only[Option.some.injEq,Prod.mk.injEq] at e
    obtain⟨rfl,rfl⟩:=e
    simp only[builtP] at e0
    split at e0
    ·rename_i x y hx
     obtain rfl:xs=#[x,y]:=by apply Array.ext';simpa using hx
     obtain⟨v,hv,e0⟩:=qa e0
     obtain⟨u,hu,e0⟩:=qa e0
     split at e0
     ·injection e0 with e0;subst e0
      exact qz1 h hv hu
     ·cases e0
    ·cases e0
   | max =>
    simp only at e
    obtain⟨v0,e0,e⟩:=qa e
    simp only[Option.some.injEq,Prod.mk.injEq] at e
    obtain⟨rfl,rfl⟩:=e
    simp only[builtP] at e0
    split at e0
    ·rename_i x y hx
     obtain rfl:xs=#[x,y]:=by apply Array.ext';simpa using hx
     obtain⟨v,hv,e0⟩:=qa e0
     obtain⟨u,hu,e0⟩:=qa e0
     split at e0
     ·injection e0 with e0;subst e0
      exact qz2 h hv hu
     ·cases e0
    ·rename_i x y z q hx
     obtain rfl:xs=#[x,y,z,q]:=by apply Array.ext';simpa using hx
     obtain⟨v,hv,e0⟩:=qa e0
     obtain⟨u,hu,e0⟩:=qa e0
     obtain⟨t,ht,e0⟩:=qa e0
     obtain⟨r,hr,e0⟩:=qa e0
     exact qww h hv hu ht hr e0
    ·cases e0
   | clear =>
    simp only at e
    split at e
    ·rename_i x t hx ht
     obtain rfl:xs=#[x]:=by apply Array.ext';simpa using hx
     obtain rfl:ts=#[t]:=by apply Array.ext';simpa using ht
     unfold clearA at e
     obtain⟨p,hp,e⟩:=qa e
     split at e
     ·rename_i ty sz bb off n
      split at e
      ·rename_i hq
       obtain⟨q1,q2,q3⟩:=hq
       obtain⟨z,hz,e⟩:=qa e
       obtain⟨cs,hcs,e⟩:=qa e
       obtain⟨⟨hzl,hn,hfit⟩,e⟩:=qn e
       simp only[Option.some.injEq,Prod.mk.injEq] at e
       obtain⟨rfl,rfl⟩:=e
       exact qlf h q1 q2 q3 hz hzl hp hcs hn hfit
      ·cases e
     ·cases e
    ·cases e
   | append =>
    simp only at e
    split at e
    ·rename_i x y t t' hx ht
     obtain rfl:xs=#[x,y]:=by apply Array.ext';simpa using hx
     obtain rfl:ts=#[t,t']:=by apply Array.ext';simpa using ht
     unfold appendA at e
     obtain⟨el,hel,e⟩:=qa e
     obtain⟨sz,hs,e⟩:=qa e
     obtain⟨by_,hb,e⟩:=qa e
     obtain⟨z,hz,e⟩:=qa e
     split at e
     ·cases e
     ·rename_i hok
      obtain⟨⟨u,s⟩,hu,e⟩:=qa e
      obtain⟨b,hbv,e⟩:=qa e
      obtain⟨ys,hys,e⟩:=qa e
      simp only at e
      split at e
      ·rename_i zs
       obtain⟨⟨h1,h2⟩,e⟩:=qn e
       simp only[Option.some.injEq,Prod.mk.injEq] at e
       obtain⟨rfl,rfl⟩:=e
       obtain⟨k1,k2,_⟩:=take_sound h hu
       obtain⟨_,rfl⟩:=Rep.nil_val k2.full.1
       exact qjx h hel hs hb hz hok hu hbv hys (.inl rfl) h1 (by simpa using h2)
      ·rename_i n zs
       split at e
       ·rename_i hn
        obtain⟨rfl,rfl⟩:=hn
        obtain⟨⟨h1,h2⟩,e⟩:=qn e
        simp only[Option.some.injEq,Prod.mk.injEq] at e
        obtain⟨rfl,rfl⟩:=e
        exact qjx h hel hs hb hz hok hu hbv hys (.inr rfl) h1 h2
       ·cases e
      ·cases e
    ·cases e
   | _=>simp only[builtP] at e;cases e
 | _=>cases e
theorem qbo {o:Oper} {st':St} (h:Sim B T0 μ0 w0 N μ lx a w st) (hW:Below B W0 w0) (hC:OracleOk P B W0 C) (hd:∀n,o.dst=some n→n<N) (e:stepOp P hh C o st=some st') :
  GoalS P B T0 μ0 w0 N a w o st':=by
 have val:(bnd (if isMs hh o.dst then msOp P hh o st else opVal P hh C o st) fun p=>some (p.2.put o.dst p.1))=some st'→GoalS P B T0 μ0 w0 N a w o st':=by
  intro e
  obtain⟨⟨v,s⟩,hv,e⟩:=qa e
  injection e with e;subst e
  split at hv
  ·exact qm4 (qod h hv) hd
  ·exact qm4 (qpx h hW hC hv) hd
 obtain⟨d,op,T,pos,af,g⟩:=o
 have newb:∀{ty:TypeId} {cs:List AV} {s:St},newBox hh d ty cs s=some st'→∃n,d=some n∧n<N∧(st'={s with t:=ins (dropLp n s.t) n (.lp n 0),l:=ins s.l n cs}∨st'={s with t:=ins s.t n (.gp s.s.length 0 (some (ty,cs.length))),s:=s.s++[cs]}):=by
  intro ty cs s e2
  cases d with
  | none=>cases e2
  | some n =>
   simp only[newBox] at e2
   split at e2
   ·injection e2 with e2;exact⟨n,rfl,hd n rfl,.inr e2.symm⟩
   ·injection e2 with e2;exact⟨n,rfl,hd n rfl,.inl e2.symm⟩
 cases op with
 | alloc t =>
  simp only[stepOp] at e
  obtain⟨z,hz,e⟩:=qa e
  obtain⟨n,rfl,hn,rfl|rfl⟩:=newb e
  ·exact qs9 h hz rfl hn
  ·exact qn7 h hz rfl hn
 | box t x =>
  simp only[stepOp] at e
  obtain⟨⟨u,s⟩,hu,e⟩:=qa e
  simp only at e
  split at e
  ·rename_i hp
   obtain⟨v,hv,e⟩:=qa e
   obtain⟨n,rfl,hn,rfl|rfl⟩:=newb e
   ·exact qz0 h hu hp hv rfl hn
   ·exact qtb h hu hp hv rfl hn
  ·cases e
 | store t y x =>
  cases d with
  | some _=>simp only[stepOp] at e;cases e
  | none =>
  simp only[stepOp] at e
  unfold storeA at e
  obtain⟨p,hp,e⟩:=qa e
  obtain⟨⟨u,s⟩,hu,e⟩:=qa e
  split at e
  ·rename_i hpu
   obtain⟨sz,hs,e⟩:=qa e
   obtain⟨v,hv,e⟩:=qa e
   obtain⟨⟨cs,off⟩,hb,e⟩:=qa e
   simp only at e
   split at e
   ·rename_i hc
    cases p with
    | lp dd i =>
     simp only[setBox] at e
     injection e with e;subst e
     simp only[boxOf] at hb
     obtain⟨cs0,hb0,hb⟩:=qa hb
     simp only[Option.some.injEq,Prod.mk.injEq] at hb
     obtain⟨rfl,rfl⟩:=hb
     exact qta h hp hu hpu hs hv hb0 hc.1 hc.2.2 rfl
    | gp dd i sh =>
     simp only[setBox] at e
     injection e with e;subst e
     simp only[boxOf] at hb
     obtain⟨cs0,hb0,hb⟩:=qa hb
     simp only[Option.some.injEq,Prod.mk.injEq] at hb
     obtain⟨rfl,rfl⟩:=hb
     exact qn8 h hp hu hpu hs hv hb0 hc.1 hc.2.2 hc.2.1 rfl
    | _=>cases e
   ·cases e
  ·cases e
 | _=>exact val e
end
end Go.AI
end
section
namespace Go.AI
open Go.RowKit
set_option linter.unusedVariables false
theorem qtd {α:Type} {l:List (Nat×α)} {ks:List Nat} {i:Nat} {v:α} (h:look (keep ks l) i=some v):mem ks i=true:=by
 induction l with
 | nil=>cases h
 | cons p r ih =>
  obtain⟨j,u⟩:=p
  simp only[keep] at h
  split at h
  ·rename_i hm
   simp only[look] at h
   split at h
   ·rename_i hj;subst hj;exact hm
   ·exact ih h
  ·exact ih h
theorem qgb {α:Type} {l:List (Nat×α)} {ks:List Nat} {i:Nat} {v:α} (h:look (keep ks l) i=some v):look l i=some v:=by
 induction l with
 | nil=>exact h
 | cons p r ih =>
  obtain⟨j,u⟩:=p
  simp only[keep] at h
  simp only[look]
  split at h
  ·simp only[look] at h
   split
   ·rename_i hj;rw[if_pos hj] at h;exact h
   ·rename_i hj;rw[if_neg hj] at h;exact ih h
  ·rename_i hm
   split
   ·rename_i hj;subst hj;exact absurd (qtd h) hm
   ·exact ih h
theorem qm5 {α:Type} (l:List (Nat×α)) (ks:List Nat):((keep ks l).map (·.1)).Sublist (l.map (·.1)):=by
 induction l with
 | nil=>exact List.Sublist.refl _
 | cons p r ih =>
  simp only[keep]
  split
  ·exact ih.cons_cons _
  ·exact ih.cons _
theorem qte {α:Type} (l:List (Nat×α)) (ks:List Nat):((drop ks l).map (·.1)).Sublist (l.map (·.1)):=by
 induction l with
 | nil=>exact List.Sublist.refl _
 | cons p r ih =>
  simp only[drop]
  split
  ·exact ih.cons _
  ·exact ih.cons_cons _
section
variable {P:Program} {B:Nat} {T0:Nat→Prop} {μ0:Gh} {w0:World} {N:Nat} {μ:Gh} {lx:Nat→Option Nat} {a:Act} {w:World} {st:St} {hh:Hint} {C:Oracle} {W0:World}
theorem Sim.sub {t':List (Nat×AV)} {l':List (Nat×List AV)} (h:Sim B T0 μ0 w0 N μ lx a w st) (h1:∀i v,look t' i=some v→look st.t i=some v)
  (h2:(t'.map (·.1)).Nodup) (h3:∀d cs,look l' d=some cs→look st.l d=some cs):Sim B T0 μ0 w0 N μ lx a w ⟨t',l',st.s⟩ :=
 h.le ⟨fun i v e=>⟨v,h1 i v e,.inl rfl⟩,fun d cs e=>⟨cs,h3 d cs e,CLe.refl _⟩,fun b cs e=>⟨cs,e,CLe.refl _⟩,Nat.le_refl _,fun _=>h2⟩
theorem Sim.clean0 (h:Sim B T0 μ0 w0 N μ lx a w st):Sim B T0 μ0 w0 N μ lx a w (clean0 hh st) :=
 h.sub (fun i v e=>qjo e) ((qte _ _).nodup h.nd) fun d cs e=>e
theorem Sim.clean1 (h:Sim B T0 μ0 w0 N μ lx a w st):Sim B T0 μ0 w0 N μ lx a w (clean1 hh st) :=
 h.sub (fun i v e=>qgb e) ((qm5 _ _).nodup h.nd) fun d cs e=>e
theorem qcc {d:Option Tmp} (h:Sim B T0 μ0 w0 N μ lx a w st) (hd:∀n,d=some n→n<N):Sim B T0 μ0 w0 N μ lx (a.put d undef) w (st.put d (.tup [])) :=
 qjp h (.mk' ⟨.tup #[] [] rfl (fun j c hc=>by simp at hc),fun j c hc=>by simp at hc⟩ fun j=>by cases j<;>simp[ownV,exBlk,comp]) hd
theorem qm6 (l:List Oper) (j:Nat):dstAt l j=(l[j]?).bind (·.dst):=by
 induction l generalizing j with
 | nil=>simp[dstAt]
 | cons o r ih=>cases j<;>simp[dstAt,ih]
theorem qae {ops:Array Oper} {o:Oper} {b:Bool} (h:Sim B T0 μ0 w0 N μ lx a w st) (e:wantedA ops.toList o.guard st=some b):Region.wanted o (yielded ops a.tmps)=b:=by
 unfold wantedA at e
 unfold Region.wanted
 cases hg:o.guard with
 | none=>rw[hg] at e;injection e
 | some p =>
  obtain⟨j,want⟩:=p
  rw[hg] at e
  simp only at e ⊢
  rw[qm6] at e
  have hq:ops.toList[j]? = ops[j]?:=by simp
  rw[hq] at e
  split at e
  ·rename_i d hd
   obtain⟨v,hv,e⟩:=qa e
   have hf:=h.tmp d v hv
   split at e
   ·rename_i c
    obtain⟨hr,_⟩:=hf
    have hd2:a.tmps[d]? = some (.bool c):=by
     generalize hx:a.tmps.getD d undef=u at hr
     cases hr
     rw[Array.getD_eq_getD_getElem?] at hx
     cases hy:a.tmps[d]? with
     | none=>rw[hy] at hx;cases hx
     | some z=>rw[hy] at hx;simpa using hx
    injection e with e
    have hyl:yielded ops a.tmps j=some c:=by simp[yielded,hd,hd2]
    rw[hyl,← e]
    cases c<;>cases want<;>rfl
   ·rename_i xs
    injection e with e;subst e
    obtain⟨hr,_⟩:=hf
    generalize hx:a.tmps.getD d undef=u at hr
    cases hr with
    | tup us _ _ _ =>
     have hy:yielded ops a.tmps j=none:=by
      simp only[yielded,hd,Option.bind_some]
      rw[Array.getD_eq_getD_getElem?] at hx
      cases hy:a.tmps[d]? with
      | none=>rfl
      | some z=>rw[hy] at hx;simp at hx;subst hx;rfl
     rw[hy];rfl
   ·cases e
  ·rename_i hd
   injection e with e;subst e
   have hy:yielded ops a.tmps j=none:=by simp[yielded,hd]
   rw[hy];rfl
theorem qj0 {ops:Array Oper} {Q:Exit→Act→World→Prop} (hW:Below B W0 w0) (hC:OracleOk P B W0 C):∀(r:List Oper) {st st':St} {μ:Gh} {lx:Nat→Option Nat} {a:Act} {w:World},
  Sim B T0 μ0 w0 N μ lx a w st→opsOk N r=true→runOps P hh C ops.toList r st=some st' →
  (∀μ' lx' a' w',Sim B T0 μ0 w0 N μ' lx' a' w' st'→Q .normal a' w')→wpList P ops Q r a w:=by
 intro r
 induction r with
 | nil=>intro st st' μ lx a w h _ e k;injection e with e;subst e;exact k _ _ _ _ h
 | cons o r ih =>
  intro st st' μ lx a w h hok e k
  simp only[opsOk,Bool.and_eq_true] at hok
  have hd:∀n,o.dst=some n→n<N:=fun n hn=>by have:=hok.1;rw[hn] at this;simpa using this
  simp only[runOps] at e
  simp only[wpList]
  cases hw:wantedA ops.toList o.guard st with
  | none=>rw[hw] at e;cases e
  | some b =>
   rw[hw] at e
   rw[qae h hw]
   cases b with
   | true =>
    simp only[sel] at e
    obtain⟨st1,h1,e⟩:=qa e
    refine .inl (qbo h hW hC hd h1 _ _ fun μ' lx' a' w' hs=>ih hs hok.2 e k)
   | false =>
    simp only[sel] at e
    simp only[Bool.false_eq_true,if_false]
    exact ih (qcc h hd) hok.2 e k
end
end Go.AI
end
section
namespace Go.AI
open Go.RowKit
set_option linter.unusedVariables false
section
variable {P:Program} {Q:Exit→Act→World→Prop} {a:Act} {w:World}
def LW (P:Program) (c:Code) (Q:Exit→Act→World→Prop) (a:Act) (w:World):Prop :=
 ∀(b:Frame) (k:List Item) (cs:List Frame),∃e a' w',Q e a' w'∧Arrives P (lone (b.at a (.code c::.inLoop c::k)) cs w) b k cs e a' w'
theorem LW.round {c:Code} (h:c.wp P (Exit.then (LW P c Q) Q) a w):LW P c Q a w:=by
 intro b k cs
 obtain⟨e,a₁,w₁,hq,harr⟩:=h b (.inLoop c::k) cs
 cases e with
 | normal =>
  obtain⟨e₂,a₂,w₂,hq₂,harr₂⟩:=hq b k cs
  exact⟨e₂,a₂,w₂,hq₂,.of_steps (Steps.trans harr (.one step_inLoop)) harr₂⟩
 | exit id=>exact⟨_,a₁,w₁,hq,.pass (x:=.inLoop c) rfl (fun _ _=>.inl (by simp)) harr⟩
 | goto l=>exact⟨_,a₁,w₁,hq,.pass (x:=.inLoop c) rfl (fun _ _=>.inl (by simp)) harr⟩
 | ret=>exact⟨_,a₁,w₁,hq,.pass (x:=.inLoop c) rfl (fun _ _=>.inl (by simp)) harr⟩
 | panic ch=>exact⟨_,a₁,w₁,hq,.pass (x:=.inLoop c) rfl (fun _ _=>.inl (by simp)) harr⟩
 | outgrown=>exact⟨_,a₁,w₁,hq,.pass (x:=.inLoop c) rfl (fun _ _=>.inl (by simp)) harr⟩
theorem LW.wp {c:Code} (h:LW P c Q a w):(Code.loop c).wp P Q a w:=by
 intro b k cs
 obtain⟨e,a',w',hq,harr⟩:=h b k cs
 exact⟨e,a',w',hq,.of_steps (.one step_loop) harr⟩
end
def Ex.out:Ex→Exit
 | .normal=>.normal
 | .exit id=>.exit id
 | .ret=>.ret
section
variable {P:Program} {B:Nat} {T0:Nat→Prop} {μ0:Gh} {w0:World} {N:Nat} {μ:Gh} {lx:Nat→Option Nat} {a:Act} {w:World} {st:St} {hh:Hint} {C:Oracle} {W0:World}
theorem Sim.head {id:Nat} (h:Sim B T0 μ0 w0 N μ lx a w st):Sim B T0 μ0 w0 N μ lx a w (head hh id st) :=
 h.sub (fun i v e=>qgb e) ((qm5 _ _).nodup h.nd) fun d cs e=>qgb e
theorem thenE_eq {x:Option (Ex×St)} {k:St→Option (Ex×St)} {r:Ex×St} (h:thenE x k=some r) :
  (∃st,x=some (.normal,st)∧k st=some r)∨(x=some r∧r.1≠.normal):=by
 unfold thenE at h
 split at h
 ·exact .inl ⟨_,rfl,h⟩
 ·refine .inr ⟨h,fun e=>?_⟩
  subst h
  rename_i hn
  obtain⟨e1,s⟩:=r
  subst e
  exact hn s rfl
def PostX (B:Nat) (T0:Nat→Prop) (μ0:Gh) (w0:World) (N:Nat) (r:Ex×St) (Q:Exit→Act→World→Prop):Prop :=
 ∀μ' lx' a' w',Sim B T0 μ0 w0 N μ' lx' a' w' r.2→Q r.1.out a' w'
def DrawOk (P:Program) (B:Nat) (W0:World) (hh:Hint) (C:Oracle):Prop :=
 ∀(T0:Nat→Prop) (μ0:Gh) (w0:World) (N:Nat) (id:Nat) (ops:Array Oper) (st st':St) (μ:Gh) (lx:Nat→Option Nat) (a:Act) (w:World) (Q:Exit→Act→World→Prop),Below B W0 w0→OracleOk P B W0 C →
  Sim B T0 μ0 w0 N μ lx a w st→drawOk hh ops=true→opsOk N ops.toList=true →
  regionA P hh C ops.toList true st=some st'→(∀μ' lx' a' w',Sim B T0 μ0 w0 N μ' lx' a' w' st'→Q .normal a' w')→(Code.region id ops true).wp P Q a w
theorem qas (hW:Below B W0 w0) (hC:OracleOk P B W0 C) (hdraw:DrawOk P B W0 hh C) (m:Nat) (c:Code) (st:St):∀{r:Ex×St} {μ:Gh} {lx:Nat→Option Nat} {a:Act} {w:World} {Q:Exit→Act→World→Prop},
  Sim B T0 μ0 w0 N μ lx a w st→codeOk hh N c=true→exec P hh C m c st=some r→PostX B T0 μ0 w0 N r Q→c.wp P Q a w∧(∀c',c=.loop c'→LW P c' Q a w):=by
 induction m,c,st using exec.induct (h:=hh) with
 | case1 m st=>intro r μ lx a w Q h hok e k;rw[exec] at e;injection e with e;subst e;exact⟨wp_skip (k _ _ _ _ h),fun c' e=>by cases e⟩
 | case2 m st=>intro r μ lx a w Q h hok e k;rw[exec] at e;injection e with e;subst e;exact⟨wp_ret (k _ _ _ _ h),fun c' e=>by cases e⟩
 | case3 m id st=>intro r μ lx a w Q h hok e k;rw[exec] at e;injection e with e;subst e;exact⟨wp_exit (k _ _ _ _ h),fun c' e=>by cases e⟩
 | case4 m id ops draw st =>
  intro r μ lx a w Q h hok e k
  rw[exec] at e
  obtain⟨st1,h1,e⟩:=qa e
  injection e with e;subst e
  simp only[codeOk,Bool.and_eq_true,Bool.or_eq_true,Bool.not_eq_true'] at hok
  have kk:∀μ' lx' a' w',Sim B T0 μ0 w0 N μ' lx' a' w' st1→Q .normal a' w':=fun _ _ _ _ hs=>k _ _ _ _ hs.clean1
  refine⟨?_,fun c' e=>by cases e⟩
  cases draw with
  | false=>exact wp_region_list (qj0 hW hC _ h.clean0 hok.1 h1 kk)
  | true=>exact hdraw T0 μ0 w0 N id ops _ st1 μ lx a w Q hW hC h.clean0 (hok.2.resolve_left (by simp)) hok.1 h1 kk
 | case5 m x y st ih1 ih2 =>
  intro r μ lx a w Q h hok e k
  rw[exec] at e
  simp only[codeOk,Bool.and_eq_true] at hok
  refine⟨wp_seq ?_,fun c' e=>by cases e⟩
  rcases thenE_eq e with ⟨st1,h1,h2⟩|⟨h1,hn⟩
  ·exact (ih1 h hok.1 h1 fun μ' lx' a' w' hs=>(ih2 st1 hs hok.2 h2 k).1).1
  ·refine (ih1 h hok.1 h1 fun μ' lx' a' w' hs=>?_).1
   have:=k μ' lx' a' w' hs
   obtain⟨x,s⟩:=r
   cases x with
   | normal=>exact absurd rfl hn
   | _=>exact this
 | case6 m c x y st ih1 ih2 =>
  intro r μ lx a w Q h hok e k
  rw[exec] at e
  simp only[codeOk,Bool.and_eq_true] at hok
  refine⟨?_,fun c' e=>by cases e⟩
  unfold condE at e
  have hb:∀t,aeval st c=some (.bool t)→a.eval c=.bool t:=fun t ht=>by
   have:=(ql h ht).1
   generalize a.eval c=u at this
   cases this;rfl
  split at e
  ·rename_i ht;exact wp_cond_true (hb _ ht) (ih1 h hok.1 e k).1
  ·rename_i ht;exact wp_cond_false (hb _ ht) (ih2 h hok.2 e k).1
  ·cases e
 | case7 m id c st ih =>
  intro r μ lx a w Q h hok e k
  rw[exec] at e
  simp only[codeOk] at hok
  refine⟨wp_block ?_,fun c' e=>by cases e⟩
  unfold blkE at e
  split at e
  ·rename_i id' st1 h1
   refine (ih h hok h1 fun μ' lx' a' w' hs=>?_).1
   show (if id'=id then _ else _)
   split at e
   ·rename_i hid;rw[if_pos hid];injection e with e;subst e;exact k _ _ _ _ hs
   ·rename_i hid;rw[if_neg hid];injection e with e;subst e;exact k _ _ _ _ hs
  ·rename_i hn
   refine (ih h hok e fun μ' lx' a' w' hs=>?_).1
   obtain⟨x,s⟩:=r
   have:=k _ _ _ _ hs
   cases x with
   | exit id'=>exact absurd e (hn id' s)
   | _=>exact this
 | case8 c st=>intro r μ lx a w Q h hok e k;rw[exec] at e;cases e
 | case9 m c st ih1 ih2 =>
  intro r μ lx a w Q h hok e k
  rw[exec] at e
  have hok':codeOk hh N c=true:=hok
  have hl:LW P c Q a w:=by
   refine LW.round ?_
   rcases thenE_eq e with ⟨st1,h1,h2⟩|⟨h1,hn⟩
   ·exact (ih1 h.head hok' h1 fun μ' lx' a' w' hs=>(ih2 st1 hs hok h2 k).2 c rfl).1
   ·refine (ih1 h.head hok' h1 fun μ' lx' a' w' hs=>?_).1
    have:=k μ' lx' a' w' hs
    obtain⟨x,s⟩:=r
    cases x with
    | normal=>exact absurd rfl hn
    | _=>exact this
  exact⟨hl.wp,fun c' e=>by injection e with e;subst e;exact hl⟩
 | case10 m c st h1 h2 h3 h4 h5 h6 h7 h8 h9=>intro r μ lx a w Q h hok e k;cases c<;>cases m<;>first|(simp[exec] at e;done)|(simp_all;done)
end
end Go.AI
end
section
namespace Go.AI
open Go.RowKit
set_option linter.unusedVariables false
section
variable {P:Program} {B:Nat} {T0:Nat→Prop} {μ0:Gh} {w0:World} {N:Nat} {μ:Gh} {lx:Nat→Option Nat} {a:Act} {w:World} {st:St} {hh:Hint} {C:Oracle} {W0:World}
theorem Sim.out {v:Value} {r:AV} (h:Sim B T0 μ0 w0 N μ lx a w st) (hr:Res B T0 w0 μ lx a w st v r) (hp:∀d i,r≠.lp d i) (h0:μ0.df=[]:=by first|assumption|exact Sim.mdf (by assumption)) :
  Sim B T0 μ0 w0 1 μ (fun _=>none) ⟨#[v],[]⟩ w ⟨[(0,r)],[],st.s⟩:=by
 have o0:∀i j,own ⟨#[v],[]⟩ (fun _=>none) μ w ⟨[(0,r)],[],st.s⟩ (.t i j)=if i=0 then ownV v r j else none:=by
  intro i j
  by_cases hi:i=0
  ·subst hi;simp[own,look]
  ·simp[own,look,hi,show ¬0=i from fun e=>hi e.symm]
 have og:∀b,own ⟨#[v],[]⟩ (fun _=>none) μ w ⟨[(0,r)],[],st.s⟩ (.g b)=own a lx μ w st (.g b):=fun b=>rfl
 have ogc:∀b j,own ⟨#[v],[]⟩ (fun _=>none) μ w ⟨[(0,r)],[],st.s⟩ (.gc b j)=own a lx μ w st (.gc b j):=fun b j=>rfl
 have ol:∀d,own ⟨#[v],[]⟩ (fun _=>none) μ w ⟨[(0,r)],[],st.s⟩ (.l d)=none:=fun d=>by simp[own,look]
 have olc:∀d j,own ⟨#[v],[]⟩ (fun _=>none) μ w ⟨[(0,r)],[],st.s⟩ (.lc d j)=none:=fun d j=>by simp[own,look,ownB]
 constructor
 ·exact h0.symm
 ·rfl
 ·exact h.ext
 ·intro i u hu
  simp only[look] at hu
  split at hu
  ·rename_i hi;subst hi;injection hu with hu;subst hu
   have:=hr.full
   cases r with
   | lp d i=>exact absurd rfl (hp d i)
   | _=>exact this
  ·cases hu
 ·intro d cs e;simp[look] at e
 ·exact h.glb
 ·exact h.gdom
 ·intro l l' k e e'
  cases l with
  | t i j =>
   rw[o0] at e
   split at e
   ·rename_i hi;subst hi
    cases l' with
    | t i' j' =>
     rw[o0] at e'
     split at e'
     ·rename_i hi;subst hi;rw[hr.inj j j' k e e']
     ·cases e'
    | l d=>rw[ol] at e';cases e'
    | lc d j=>rw[olc] at e';cases e'
    | g b=>rw[og] at e';exact absurd e' ((hr.tok j k e).2.2.2 _)
    | gc b j'=>rw[ogc] at e';exact absurd e' ((hr.tok j k e).2.2.2 _)
   ·cases e
  | l d=>rw[ol] at e;cases e
  | lc d j=>rw[olc] at e;cases e
  | g b =>
   cases l' with
   | t i' j' =>
    rw[o0] at e'
    split at e'
    ·rw[og] at e;exact absurd e ((hr.tok j' k e').2.2.2 _)
    ·cases e'
   | l d=>rw[ol] at e';cases e'
   | lc d j=>rw[olc] at e';cases e'
   | g b'=>rw[og] at e e';exact h.inj _ _ k e e'
   | gc b' j'=>rw[og] at e;rw[ogc] at e';exact h.inj _ _ k e e'
  | gc b j =>
   cases l' with
   | t i' j' =>
    rw[o0] at e'
    split at e'
    ·rw[ogc] at e;exact absurd e ((hr.tok j' k e').2.2.2 _)
    ·cases e'
   | l d=>rw[ol] at e';cases e'
   | lc d j=>rw[olc] at e';cases e'
   | g b'=>rw[ogc] at e;rw[og] at e';exact h.inj _ _ k e e'
   | gc b' j'=>rw[ogc] at e e';exact h.inj _ _ k e e'
 ·intro l k e
  cases l with
  | t i j =>
   rw[o0] at e
   split at e
   ·have:=hr.tok j k e;exact⟨this.1,this.2.1,this.2.2.1⟩
   ·cases e
  | l d=>rw[ol] at e;cases e
  | lc d j=>rw[olc] at e;cases e
  | g b=>rw[og] at e;exact h.rng _ k e
  | gc b j=>rw[ogc] at e;exact h.rng _ k e
 ·exact h.fr0
 ·exact h.hB
 ·simp
 ·exact h.gbx
 ·exact h.mdf
def rstep (tmps:Array Value):ResultVar→Sem Value
 | .tmp t=>pure (tmps.getD t undef)
 | .cell a t=>do loadVar t (← asAddr (tmps.getD a undef))
theorem qik (h:Sim B T0 μ0 w0 N μ lx a w st) {x:ResultVar} {v:AV} (e:resultA P st x=some v) (hp:pers v=true) :
  ∃u,(rstep a.tmps x).run P w=.ok u w∧Rep B μ w u (dem v):=by
 cases x with
 | tmp t =>
  have hf:=h.tmp t v e
  exact⟨_,rfl,(hf.rep fun d i q=>by subst q;cases hp).dem⟩
 | cell p t =>
  simp only[resultA] at e
  obtain⟨q,hq,e⟩:=qa e
  obtain⟨⟨cs,off⟩,hb,e⟩:=qa e
  obtain⟨r,hr,e⟩:=qa e
  injection e with e;subst e
  obtain⟨b,base,f,hv,hc⟩:=qjq h (h.tmp p q hq) hb
  obtain⟨u,hrun,hrep,_⟩:=qhv hc hr
  exact⟨u,by simp only[rstep,hv,asAddr,Sem.run_bind,Sem.run_pure,Result.andThen_ok,hrun],hrep.dem.dem⟩
theorem resultsA_sound (h:Sim B T0 μ0 w0 N μ lx a w st):∀(l:List ResultVar) {rs:List AV},resultsA P st l=some rs →
  ∃us:List Value,(l.mapM (rstep a.tmps)).run P w=.ok us w∧us.length=rs.length∧∀(j:Nat) (c:AV),rs[j]? = some c→Rep B μ w (us.getD j undef) c∧quiet c=true∧pers c=true:=by
 intro l
 induction l with
 | nil=>intro rs e;injection e with e;subst e;exact⟨[],rfl,rfl,fun j c hc=>by simp at hc⟩
 | cons x r ih =>
  intro rs e
  simp only[resultsA] at e
  obtain⟨v,hv,e⟩:=qa e
  split at e
  ·rename_i hp
   obtain⟨l',hl,e⟩:=qa e
   injection e with e;subst e
   obtain⟨u,hu,hu2⟩:=qik h hv hp
   obtain⟨us,hus,h1,h2⟩:=ih hl
   refine⟨u::us,?_,by simp[h1],fun j c hc=>?_⟩
   ·rw[List.mapM_cons,Sem.run_bind,hu,Result.andThen_ok,Sem.run_bind,hus,Result.andThen_ok];rfl
   ·cases j with
    | zero=>simp at hc;subst hc;exact⟨hu2,qf1 _,by cases v<;>first|rfl|cases hp⟩
    | succ j=>simp at hc;simpa using h2 j c hc
  ·cases e
theorem results_run {fn:Func} {tmps:Array Value} {us:List Value} (h:(fn.results.toList.mapM (rstep tmps)).run P w=.ok us w) :
  (results fn tmps).run P w=.ok (if h:us.toArray.size=1 then us.toArray[0] else .tuple us.toArray) w:=by
 have he:results fn tmps=(do let vs ← fn.results.mapM (rstep tmps);pure (if h:vs.size=1 then vs[0] else .tuple vs)):=by
  unfold results
  congr 2
 rw[he]
 rw[Array.mapM_eq_mapM_toList,Sem.run_bind,map_eq_pure_bind,Sem.run_bind,h]
 rfl
theorem Le.take {st:St} {t:Nat} {v:AV} (hv:look st.t t=some v):Le {st with t:=ins st.t t (dem v)} st :=
 ⟨fun i v' e=>by
   simp only[qu] at e
   split at e
   ·rename_i hi;subst hi;injection e with e;subst e;exact⟨v,hv,.inr rfl⟩
   ·exact⟨v',e,.inl rfl⟩,fun d cs' e=>⟨cs',e,CLe.refl _⟩,fun b cs' e=>⟨cs',e,CLe.refl _⟩,Nat.le_refl _,fun h=>qbc _ _ _ h⟩
theorem resultsT_sound:∀(l:List ResultVar) {st st':St} {rs:List AV},Sim B T0 μ0 w0 N μ lx a w st→resultsT st l=some (rs,st') →
  ∃us:List Value,(l.mapM (rstep a.tmps)).run P w=.ok us w∧us.length=rs.length∧Sim B T0 μ0 w0 N μ lx a w st'∧(∀l k,own a lx μ w st' l=some k→own a lx μ w st l=some k) ∧
   (∀(j:Nat) (c:AV),rs[j]? = some c→Rep B μ w (us.getD j undef) c∧Tk1 B μ w (us.getD j undef) c) ∧
   (∀(j:Nat) (c:AV) k,rs[j]? = some c→exBlk (us.getD j undef) c=some k→(∃l,own a lx μ w st l=some k)∧∀l,own a lx μ w st' l≠some k) ∧
   ∀(j j':Nat) (c c':AV) k,rs[j]? = some c→rs[j']? = some c'→exBlk (us.getD j undef) c=some k→exBlk (us.getD j' undef) c'=some k→j=j':=by
 intro l
 induction l with
 | nil =>
  intro st st' rs h e
  simp only[resultsT,Option.some.injEq,Prod.mk.injEq] at e
  obtain⟨rfl,rfl⟩:=e
  exact⟨[],rfl,rfl,h,fun _ _ h=>h,fun j c hc=>by simp at hc,fun j c k hc=>by simp at hc,fun j j' c c' k hc=>by simp at hc⟩
 | cons x r ih =>
  intro st st' rs h e
  cases x with
  | cell p t=>simp[resultsT] at e
  | tmp t =>
   simp only[resultsT] at e
   obtain⟨v,hv,e⟩:=qa e
   split at e
   ·rename_i hp
    obtain⟨⟨l',st2⟩,hl,e⟩:=qa e
    simp only[Option.some.injEq,Prod.mk.injEq] at e
    obtain⟨rfl,rfl⟩:=e
    obtain⟨k1,k2,k3,k4⟩:=take_sound (x:=.tmp t) (v:=v) (st':={st with t:=ins st.t t (dem v)}) h (by simp[takeOp,bnd,hv])
    obtain⟨us,i1,i2,i3,i4,i5,i6,i7⟩:=ih k1 hl
    have hle:=Le.take hv
    have hev:a.eval (.tmp t)=a.tmps.getD t undef:=rfl
    rw[hev] at k2
    have hfull:Rep B μ w (a.tmps.getD t undef) v∧Tk1 B μ w (a.tmps.getD t undef) v:=by
     have:=k2.full
     cases v with
     | lp d i=>simp[pers] at hp
     | tup xs=>simp[pers] at hp
     | _=>exact this
    have ht0:∀k,exBlk (a.tmps.getD t undef) v=some k→own a lx μ w st (.t t none)=some k:=fun k hk=>by
     simp only[own,hv,Option.bind_some];exact hk
    refine⟨a.tmps.getD t undef::us,?_,by simp[i2],i3,fun l k e=>own_le hle (i4 l k e),fun j c hc=>?_,fun j c k hc hk=>?_,fun j j' c c' k hc hc' hk hk'=>?_⟩
    ·rw[List.mapM_cons,Sem.run_bind]
     have:(rstep a.tmps (.tmp t)).run P w=.ok (a.tmps.getD t undef) w:=rfl
     rw[this,Result.andThen_ok,Sem.run_bind,i1,Result.andThen_ok];rfl
    ·cases j with
     | zero=>simp at hc;subst hc;simpa using hfull
     | succ j=>simp at hc;simpa using i5 j c hc
    ·cases j with
     | zero =>
      simp at hc;subst hc
      have hk:exBlk (a.tmps.getD t undef) v=some k:=hk
      exact⟨⟨_,ht0 k hk⟩,fun l e=>(k2.tok none k hk).2.2.2 l (i4 l k e)⟩
     | succ j =>
      simp at hc hk
      obtain⟨⟨l,hl⟩,q⟩:=i6 j c k hc hk
      exact⟨⟨l,own_le hle hl⟩,q⟩
    ·cases j with
     | zero =>
      cases j' with
      | zero=>rfl
      | succ j' =>
       have hk:exBlk (a.tmps.getD t undef) c=some k:=hk
       simp at hc hc' hk'
       subst hc
       obtain⟨⟨l,hl⟩,q⟩:=i6 j' c' k hc' hk'
       exact absurd hl ((k2.tok none k hk).2.2.2 l)
     | succ j =>
      cases j' with
      | zero =>
       have hk':exBlk (a.tmps.getD t undef) c'=some k:=hk'
       simp at hc hc' hk
       subst hc'
       obtain⟨⟨l,hl⟩,q⟩:=i6 j c k hc hk
       exact absurd hl ((k2.tok none k hk').2.2.2 l)
      | succ j' =>
       simp at hc hc' hk hk'
       rw[i7 j j' c c' k hc hc' hk hk']
   ·cases e
theorem qe0 {fn:Func} {r:AV} {s':List (List AV)} (h:Sim B T0 μ0 w0 N μ lx a w st) (h0:μ0.df=[]) (e:outA P hh fn st=some (r,s')) :
  ∃v,(results fn a.tmps).run P w=.ok v w∧Sim B T0 μ0 w0 1 μ (fun _=>none) ⟨#[v],[]⟩ w ⟨[(0,r)],[],s'⟩:=by
 unfold outA at e
 split at e
 ·rename_i t ht
  have hfr:fn.results=#[.tmp t]:=by apply Array.ext';simpa using ht
  obtain⟨v,hv,e⟩:=qa e
  split at e
  ·rename_i hp
   simp only[Option.some.injEq,Prod.mk.injEq] at e
   obtain⟨e1,rfl⟩:=e
   refine⟨a.tmps.getD t undef,results_tmp hfr _ _ _,?_⟩
   split at e1
   ·subst e1
    obtain⟨k1,k2,k3,k4⟩:=take_sound (x:=.tmp t) (v:=v) (st':={st with t:=ins st.t t (dem v)}) h (by simp[takeOp,bnd,hv])
    have:=k1.out k2 fun d i q=>by subst q;cases hp
    exact this
   ·subst e1
    exact h.out (qd9 (x:=.tmp t) h hv) fun d i q=>by cases v<;>simp[dem] at q;cases hp
  ·cases e
 ·split at e
  ·obtain⟨⟨l,st2⟩,hl,e⟩:=qa e
   obtain⟨us,i1,i2,i3,i4,i5,i6,i7⟩:=resultsT_sound (P:=P) _ h hl
   simp only at e
   split at e
   ·cases e
   ·cases e
   ·rename_i hn0 hn1
    simp only[Option.some.injEq,Prod.mk.injEq] at e
    obtain⟨rfl,rfl⟩:=e
    refine⟨_,results_run i1,?_⟩
    have hne:¬us.toArray.size=1:=by
     intro h3
     simp[i2] at h3
     match l,hn1,h3 with
     | [v],hn,_=>exact hn v rfl
    rw[dif_neg hne]
    refine i3.out ⟨⟨.tup _ _ (by simp[i2]) (fun j c hc=>by simpa using (i5 j c hc).1),fun j c hc=>by have:=(i5 j c hc).2;simpa[comp] using this⟩,fun j k hk=>?_,fun j j' k e e'=>?_⟩ fun d i q=>by cases q
    ·cases j with
     | none=>cases hk
     | some j =>
      simp only[ownV] at hk
      cases hc:l[j]? with
      | none=>rw[hc] at hk;cases hk
      | some c =>
       rw[hc] at hk
       simp only[Option.bind_some,comp] at hk
       obtain⟨⟨l0,hl0⟩,q⟩:=i6 j c k hc (by simpa using hk)
       have:=h.rng l0 k hl0
       exact⟨this.1,this.2.1,this.2.2,q⟩
    ·cases j with
     | none=>cases e
     | some j=>cases j' with
      | none=>cases e'
      | some j' =>
       simp only[ownV] at e e'
       cases hc:l[j]? with
       | none=>rw[hc] at e;cases e
       | some c=>cases hc':l[j']? with
        | none=>rw[hc'] at e';cases e'
        | some c' =>
         rw[hc] at e;rw[hc'] at e'
         simp only[Option.bind_some,comp] at e e'
         rw[i7 j j' c c' k hc hc' (by simpa using e) (by simpa using e')]
  obtain⟨l,hl,e⟩:=qa e
  obtain⟨us,hus,h1,h2⟩:=resultsA_sound h _ hl
  refine⟨_,results_run hus,?_⟩
  have tupc:∀l':List AV,l'=l→l'.length≠1→Sim B T0 μ0 w0 1 μ (fun _=>none) ⟨#[if h:us.toArray.size=1 then us.toArray[0] else .tuple us.toArray],[]⟩ w ⟨[(0,.tup l')],[],st.s⟩:=by
   intro l' hl' hn
   subst hl'
   have hne:¬us.toArray.size=1:=by simpa[h1] using hn
   rw[dif_neg hne]
   refine h.out (.mk' ⟨.tup _ _ (by simp[h1]) (fun j c hc=>by simpa using (h2 j c hc).1),fun j c hc=>qaf (h2 j c hc).2.1⟩ fun j=>?_) fun d i q=>by cases q
   cases j with
   | none=>rfl
   | some j =>
    simp only[ownV]
    cases hc:l'[j]? with
    | none=>rfl
    | some c=>simp only[Option.bind_some];exact qq (h2 j c hc).2.1
  split at e
  ·rename_i v
   simp only[Option.some.injEq,Prod.mk.injEq] at e
   obtain⟨rfl,rfl⟩:=e
   obtain⟨u,rfl⟩:∃u,us=[u]:=by
    match us,h1 with
    | [u],_=>exact⟨u,rfl⟩
   have hv:=h2 0 v (by simp)
   refine h.out (.mk' ?_ fun j=>?_) fun d i q=>by subst q;simp[pers] at hv
   ·have hT:Tk1 B μ w u v:=qaf hv.2.1
    cases v with
    | lp d i=>simp[pers] at hv
    | tup xs=>simp[pers] at hv
    | _=>exact⟨by simpa using hv.1,hT⟩
   ·cases j with
    | none=>exact qq hv.2.1
    | some j=>cases v<;>first|rfl|simp[pers] at hv
  ·rename_i hn
   simp only[Option.some.injEq,Prod.mk.injEq] at e
   obtain⟨rfl,rfl⟩:=e
   refine tupc l rfl fun h3=>?_
   match l,hn,h3 with
   | [v],hn,_=>exact hn v rfl
theorem Sim.wide {vs:Array Value} {as:List AV} {s:List (List AV)} {n:Nat} (h:Sim B T0 μ0 w0 vs.size μ lx ⟨vs,[]⟩ w ⟨params 0 as,[],s⟩) (hl:vs.size=as.length) (hn:vs.size≤n) :
  Sim B T0 μ0 w0 n μ lx ⟨vs++Array.replicate (n-vs.size) undef,[]⟩ w ⟨params 0 as,[],s⟩:=by
 have hg:∀i u,look (params 0 as) i=some u→(vs++Array.replicate (n-vs.size) undef).getD i undef=vs.getD i undef:=by
  intro i u hu
  rw[qa2] at hu
  simp at hu
  have:i<vs.size:=by rw[hl];exact (List.getElem?_eq_some_iff.1 hu).1
  simp only[Array.getD_eq_getD_getElem?,Array.getElem?_append_left this]
 have hown:∀l,own ⟨vs++Array.replicate (n-vs.size) undef,[]⟩ lx μ w ⟨params 0 as,[],s⟩ l=own ⟨vs,[]⟩ lx μ w ⟨params 0 as,[],s⟩ l:=by
  intro l
  cases l with
  | t i j =>
   simp only[own]
   cases hq:look (params 0 as) i with
   | none=>rfl
   | some u=>simp only[Option.bind_some,hg i u hq]
  | _=>rfl
 constructor
 ·exact h.defs
 ·simp;omega
 ·exact h.ext
 ·intro i u hu;rw[show (⟨vs++Array.replicate (n-vs.size) undef,[]⟩:Act).tmps=_ from rfl,hg i u hu];exact h.tmp i u hu
 ·exact h.loc
 ·exact h.glb
 ·exact h.gdom
 ·intro l l' k e e';rw[hown] at e e';exact h.inj l l' k e e'
 ·intro l k e;rw[hown] at e;exact h.rng l k e
 ·exact h.fr0
 ·exact h.hB
 ·exact h.nd
 ·exact h.gbx
 ·exact h.mdf
abbrev Table:=FuncId→Option (List AV→List (List AV)→Option (AV×List (List AV)))
def TableOk (P:Program) (B:Nat) (W0:World) (T:Table):Prop :=
 ∀f p,T f=some p→∀as s r s',p as s=some (r,s')→Enters P (AI.base f)∧ACalls P B W0 (AI.base f) as s r s'
end
end Go.AI
end
section
namespace Go.AI
open Go.RowKit
set_option linter.unusedVariables false
section
variable {P:Program} {B:Nat} {T0:Nat→Prop} {μ0:Gh} {w0:World} {N:Nat} {μ:Gh} {lx:Nat→Option Nat} {a:Act} {w:World} {st:St}
theorem Sim.freezeBox (h:Sim B T0 μ0 w0 N μ lx a w st) {v:Value} {ty sz b off n:Nat} {cs els:List AV} (hr:Rep B μ w v (.ms ty sz b off n)) (hs:st.s[b]? = some cs) (e:readEls P ty sz cs off n=some els) :
  ∃μ',Sim B T0 μ0 w0 N μ' lx a w {st with s:=st.s.set b []}∧Ext B (fun k=>∀l,own a lx μ w {st with s:=st.s.set b []} l≠some k) μ w μ' w∧Rep B μ' w v (.sl .sh els) ∧
   (off=0→(0<n∨cs≠[])→∃blk,exBlk v (.sl (.ex ty sz) els)=some blk∧Rep B μ' w v (.sl (.ex ty sz) els)∧Tk1 B μ' w v (.sl (.ex ty sz) els)∧B≤blk∧blk<w.heap.size∧(T0 blk∨w0.heap.size≤blk)∧∀l,own a lx μ' w {st with s:=st.s.set b []} l≠some blk):=by
 by_cases hne:cs=[]
 ·subst hne
  obtain⟨hn0,hel⟩:n=0∧els=[]:=by
   unfold readEls at e
   obtain⟨g,hg,e⟩:=qa e
   obtain⟨m,hm,e⟩:=qa e
   split at e
   ·rename_i hq
    obtain⟨_,h0,_,h2⟩:=hq
    have hn0:n=0:=by
     rcases Nat.eq_zero_or_pos n with h|h
     ·exact h
     ·have:0<n*sz:=Nat.mul_pos h h0
      simp at h2;omega
    subst hn0
    injection e with e;subst e;exact⟨rfl,rfl⟩
   ·cases e
  subst hn0 hel
  cases hr with
  | ms _ _ _ _ _ blk cap hb hsh hc hm hsz =>
   exact⟨μ,h.kill b,(Ext.refl _ _ _ _).mono (T:=fun _=>False) (fun _ _ h=>h.elim),.sl0 _ _ _ (by simp) hm,fun _ h=>by rcases h with h|h;omega;exact absurd rfl h⟩
 ·have hne:cs≠[]:=hne
  obtain⟨blk,cap,cur,ho⟩:=h.open (els:=els) hr hs hne
  obtain⟨r1,r2,r3,r4,r5,r6⟩:=qcm e fun c hc=>by
   obtain⟨j,hj⟩:=List.mem_iff_getElem?.1 hc
   exact (ho.cell j c hj).1
  have hlc:=ho.len
  have hol:own a lx μ w st (.g b)=some blk:=by cases cs with|nil=>exact absurd rfl hne|cons c r=>simp[own,hs,ho.bx]
  have hrng:=h.rng _ _ hol
  have hkfree:∀l,own a lx μ w {st with s:=st.s.set b []} l≠some blk:=fun l e=>(own_kill e).2.1 (h.inj _ _ _ (own_kill e).1 hol)
  obtain⟨h2,hown2,x⟩:=(h.kill b).extend (q:=off+n*sz) (cur':=cur) hkfree hrng.1 hrng.2.2 ho.heap rfl (fun j hj=>rfl) (by rw[ho.fr];exact Nat.zero_le _)
  obtain⟨fz,hb',hok⟩:=ho.heap
  rw[setRow_self _ _ _ _ fz hb'] at h2 hown2 x
  have hfr:(mark μ blk (off+n*sz)).fr blk=off+n*sz:=by simp[mark]
  have hcell:∀k,k<els.length*sz→w.cell? ⟨blk,off+k,none⟩=some (cur.getD (off+k) undef)∧settled B (mark μ blk (off+n*sz)) blk (off+k):=by
   intro k hk
   rw[r1] at hk
   refine⟨?_,.inr (by rw[hfr];omega)⟩
   rw[ho.heap.cell];exact qcb (by omega)
  have hrep:∀(i j:Nat) (c:AV),(els[i]?.bind fun e=>e.cells[j]?)=some c→Rep B (mark μ blk (off+n*sz)) w (cur.getD (off+(i*sz+j)) undef) c:=by
   intro i j c hc
   have hlt:=qc3 r5 hc
   rw[r1] at hlt
   obtain⟨c0,hc0,hc1⟩:=r6 i j hlt.1 hlt.2.1
   rw[hc] at hc1;injection hc1 with hc1;subst hc1
   rw[← Nat.add_assoc]
   exact (((ho.cell _ c0 hc0).2.1).dem).mono x
  have hv:=ho.v
  have mk:∀o:Own,o≠.nil→Rep B (mark μ blk (off+n*sz)) w v (.sl o els):=by
   intro o hno
   have:=Rep.sl (B:=B) (μ:=mark μ blk (off+n*sz)) (w:=w) blk off cap sz o els (fun k=>cur.getD (off+k) undef) hno r2 (by rw[r1];exact ho.nc) ho.cm r5 hcell hrep
   rw[r1] at this
   rw[hv];exact this
  refine⟨_,h2,x.mono (fun k hk hkb=>by subst hkb;exact hkfree),mk .sh (by simp),fun h0 hn=>?_⟩
  subst h0
  refine⟨blk,by rw[hv];rfl,mk _ (by simp),.inr ⟨blk,cap,cur,by rw[r1];exact hv,hrng.1,⟨fz,hb',hok⟩,by rw[r1];exact ho.nc,ho.cm,by have:=ho.size;omega,by rw[hfr,r1];omega,r5,r2⟩,hrng.1,hrng.2.1,hrng.2.2,fun l=>by rw[hown2];exact hkfree l⟩
theorem Sim.reslot {v:Value} {r r':AV} {s:List (List AV)} (h:Sim B T0 μ0 w0 1 μ lx ⟨#[v],[]⟩ w ⟨[(0,r)],[],s⟩) (hr:Rep B μ w v r') (hnl:∀d i,r'≠.lp d i) (ht:Tk B μ w v r')
  (htok:∀j k,ownV v r' j=some k→B≤k∧k<w.heap.size∧(T0 k∨w0.heap.size≤k)∧∀l,(∀j',l≠.t 0 j')→own ⟨#[v],[]⟩ lx μ w ⟨[(0,r)],[],s⟩ l≠some k)
  (hinj:∀j j' k,ownV v r' j=some k→ownV v r' j'=some k→j=j'):Sim B T0 μ0 w0 1 μ lx ⟨#[v],[]⟩ w ⟨[(0,r')],[],s⟩ :=
 h.put (d:=0) (v:=v) (by omega) (by cases r'<;>first|exact⟨hr,ht⟩|exact absurd rfl (hnl _ _)) htok hinj
theorem qb0 {v:Value} {r:AV} {s:List (List AV)} (h:Sim B T0 μ0 w0 1 μ lx ⟨#[v],[]⟩ w ⟨[(0,r)],[],s⟩) (hnl:∀d i,r≠.lp d i):Rep B μ w v r∧Tk B μ w v r:=by
 have:=h.tmp 0 r (by simp[look])
 cases r<;>first|exact this|exact absurd rfl (hnl _ _)
theorem freezeC_sound {n0:Nat} {v:Value} {r:AV} (hnl:∀d i,r≠.lp d i):∀{xs xs':List AV} {us:Nat→Value} {s s':List (List AV)} {μ:Gh},Sim B T0 μ0 w0 1 μ lx ⟨#[v],[]⟩ w ⟨[(0,r)],[],s⟩ →
  (∀(j:Nat) (c:AV),xs[j]? = some c→Rep B μ w (us j) c∧plain c=true)→freezeC P n0 xs s=some (xs',s') →
  ∃μ',Sim B T0 μ0 w0 1 μ' lx ⟨#[v],[]⟩ w ⟨[(0,r)],[],s'⟩∧xs'.length=xs.length∧(∀{u:Value} {c:AV},Rep B μ w u c→Rep B μ' w u c)∧∀(j:Nat) (c:AV),xs'[j]? = some c→Rep B μ' w (us j) c∧plain c=true
 | [],xs',us,s,s',μ,h,hx,e=>by
  simp only[freezeC,Option.some.injEq,Prod.mk.injEq] at e
  obtain⟨rfl,rfl⟩:=e
  exact⟨μ,h,rfl,id,fun j c hc=>by simp at hc⟩
 | c::q,xs',us,s,s',μ,h,hx,e=>by
  have keep:∀{s1:List (List AV)} {c':AV} {μ1:Gh},Sim B T0 μ0 w0 1 μ1 lx ⟨#[v],[]⟩ w ⟨[(0,r)],[],s1⟩→(∀{u:Value} {c:AV},Rep B μ w u c→Rep B μ1 w u c)→Rep B μ1 w (us 0) c'→plain c'=true →
    (bnd (freezeC P n0 q s1) fun p=>some (c'::p.1,p.2))=some (xs',s') →
    ∃μ',Sim B T0 μ0 w0 1 μ' lx ⟨#[v],[]⟩ w ⟨[(0,r)],[],s'⟩∧xs'.length=(c::q).length∧(∀{u:Value} {c:AV},Rep B μ w u c→Rep B μ' w u c)∧∀(j:Nat) (c:AV),xs'[j]? = some c→Rep B μ' w (us j) c∧plain c=true:=by
   intro s1 c' μ1 h1 m1 r1 p1 e
   obtain⟨⟨ys,s2⟩,h2,e⟩:=qa e
   simp only[Option.some.injEq,Prod.mk.injEq] at e
   obtain⟨rfl,rfl⟩:=e
   obtain⟨μ2,k1,k2,k3,k4⟩:=freezeC_sound hnl (us:=fun j=>us (j+1)) h1 (fun j c hc=>⟨m1 (hx (j+1) c (by simpa using hc)).1,(hx (j+1) c (by simpa using hc)).2⟩) h2
   refine⟨μ2,k1,by simp[k2],fun z=>k3 (m1 z),fun j c hc=>?_⟩
   cases j with
   | zero=>simp at hc;subst hc;exact⟨k3 r1,p1⟩
   | succ j=>simp at hc;exact k4 j c hc
  have h0:=hx 0 c rfl
  simp only[freezeC] at e
  split at e
  ·rename_i ty sz b off n
   split at e
   ·obtain⟨cs,hcs,e⟩:=qa e
    obtain⟨els,hels,e⟩:=qa e
    obtain⟨μ',h2,x,r1,_⟩:=h.freezeBox h0.1 hcs hels
    exact keep h2 (fun z=>z.mono x) r1 rfl e
   ·exact keep h id h0.1 h0.2 e
  ·exact keep h id h0.1 h0.2 e
theorem Sim.recomp {v:Value} {c c':AV} {pre r:List AV} {s:List (List AV)} (h:Sim B T0 μ0 w0 1 μ lx ⟨#[v],[]⟩ w ⟨[(0,.tup (pre++c::r))],[],s⟩) (hr:Rep B μ w (comp v pre.length) c') (hq:quiet c'=true) :
  Sim B T0 μ0 w0 1 μ lx ⟨#[v],[]⟩ w ⟨[(0,.tup ((pre++[c'])++r))],[],s⟩:=by
 obtain⟨hr0,ht⟩:=qb0 h (fun d i q=>by cases q)
 have same:∀j,j≠pre.length→(pre++c::r)[j]? = ((pre++[c'])++r)[j]?:=by
  intro j hjp
  by_cases hlt:j<pre.length
  ·rw[List.getElem?_append_left hlt,List.append_assoc,List.getElem?_append_left hlt]
  ·rw[List.getElem?_append_right (by omega),List.append_assoc,List.getElem?_append_right (by omega)]
   obtain⟨q,hq⟩:∃q,j-pre.length=q+1:=⟨j-pre.length-1,by omega⟩
   rw[hq];rfl
 have at_:((pre++[c'])++r)[pre.length]? = some c':=by simp
 cases hr0 with
 | tup vs _ hl hh =>
  have conv:∀j k,ownV (Value.tuple vs) (.tup ((pre++[c'])++r)) j=some k→own ⟨#[Value.tuple vs],[]⟩ lx μ w ⟨[(0,.tup (pre++c::r))],[],s⟩ (.t 0 j)=some k:=by
   intro j k hk
   cases j with
   | none=>simp[ownV,exBlk] at hk
   | some j =>
    simp only[own,look,if_true,Option.bind_some,ownV] at hk ⊢
    by_cases hjp:j=pre.length
    ·subst hjp;rw[at_] at hk;simp[qq hq] at hk
    ·rw[same j hjp];exact hk
  refine h.reslot (.tup vs _ (by simpa using hl) fun j d hd=>?_) (fun d i q=>by cases q) (fun j d hd=>?_) (fun j k hk=>?_) fun j j' k hk hk'=>?_
  ·by_cases hjp:j=pre.length
   ·subst hjp;rw[at_] at hd;injection hd with hd;subst hd;exact hr
   ·exact hh j d (by rw[same j hjp];exact hd)
  ·by_cases hjp:j=pre.length
   ·subst hjp;rw[at_] at hd;injection hd with hd;subst hd;exact qaf hq
   ·exact ht j d (by rw[same j hjp];exact hd)
  ·have h5:=h.rng _ k (conv j k hk)
   exact⟨h5.1,h5.2.1,h5.2.2,fun l hl e2=>hl j (h.inj _ _ k e2 (conv j k hk))⟩
  ·have:=h.inj _ _ k (conv j k hk) (conv j' k hk')
   injection this
theorem freeze1_sound {ex:Bool} {n0:Nat} {v:Value} {r r':AV} {s s':List (List AV)} (h:Sim B T0 μ0 w0 1 μ lx ⟨#[v],[]⟩ w ⟨[(0,r)],[],s⟩) (hnl:∀d i,r≠.lp d i) (e:freeze1 P ex n0 r s=some (r',s')) :
  ∃μ',Sim B T0 μ0 w0 1 μ' lx ⟨#[v],[]⟩ w ⟨[(0,r')],[],s'⟩∧∀d i,r'≠.lp d i:=by
 unfold freeze1 at e
 split at e
 ·rename_i ty sz b off n
  split at e
  ·obtain⟨cs,hcs,e⟩:=qa e
   obtain⟨els,hels,e⟩:=qa e
   simp only[Option.some.injEq,Prod.mk.injEq] at e
   obtain⟨rfl,rfl⟩:=e
   obtain⟨μ',h2,x,r1,r2⟩:=h.freezeBox (qb0 h hnl).1 hcs hels
   refine⟨μ',?_,fun d i q=>by split at q<;>cases q⟩
   split
   ·rename_i hq
    obtain⟨blk,e1,e2,e3,e4,e5,e6,e7⟩:=r2 hq.2.1 hq.2.2
    refine h2.reslot e2 (fun d i q=>by cases q) e3 (fun j k hk=>?_) fun j j' k hk hk'=>?_
    ·cases j with
     | none=>simp only[ownV] at hk;rw[e1] at hk;injection hk with hk;subst hk;exact⟨e4,e5,e6,fun l _=>e7 l⟩
     | some j=>simp[ownV] at hk
    ·cases j with
     | some j=>simp[ownV] at hk
     | none=>cases j' with
      | some j=>simp[ownV] at hk'
      | none=>rfl
   ·exact h2.reslot r1 (fun d i q=>by cases q) trivial (fun j k hk=>by rw[ownV_sh] at hk;cases hk) (fun j j' k hk=>by rw[ownV_sh] at hk;cases hk)
  ·simp only[Option.some.injEq,Prod.mk.injEq] at e
   obtain⟨rfl,rfl⟩:=e
   exact⟨μ,h,hnl⟩
 ·rename_i xs
  obtain⟨⟨ys,s1⟩,hf,e⟩:=qa e
  simp only[Option.some.injEq,Prod.mk.injEq] at e
  obtain⟨rfl,rfl⟩:=e
  have hr0:=(qb0 h hnl).1
  cases hr0 with
  | agg vs _ hl hp hh =>
   obtain⟨μ',k1,k2,k3,k4⟩:=freezeC_sound hnl (us:=fun j=>vs.getD j undef) h (fun j c hc=>⟨hh j c hc,hp c (List.mem_of_getElem? hc)⟩) hf
   exact⟨μ',k1.reslot (.agg vs _ (by omega) (fun c hc=>by
    obtain⟨j,hj⟩:=List.mem_iff_getElem?.1 hc
    exact (k4 j c hj).2) fun j c hc=>(k4 j c hc).1) (fun d i q=>by cases q) trivial (fun j k hk=>by cases j<;>simp[ownV,exBlk] at hk) (fun j j' k hk=>by cases j<;>simp[ownV,exBlk] at hk),fun d i q=>by cases q⟩
 ·simp only[Option.some.injEq,Prod.mk.injEq] at e
  obtain⟨rfl,rfl⟩:=e
  exact⟨μ,h,hnl⟩
theorem Sim.recompX {v:Value} {c c':AV} {pre r:List AV} {s:List (List AV)} (h:Sim B T0 μ0 w0 1 μ lx ⟨#[v],[]⟩ w ⟨[(0,.tup (pre++c::r))],[],s⟩) (hr:Rep B μ w (comp v pre.length) c') (htk:Tk1 B μ w (comp v pre.length) c')
  (hx:∀k,exBlk (comp v pre.length) c'=some k→B≤k∧k<w.heap.size∧(T0 k∨w0.heap.size≤k)∧∀l,own ⟨#[v],[]⟩ lx μ w ⟨[(0,.tup (pre++c::r))],[],s⟩ l≠some k) :
  Sim B T0 μ0 w0 1 μ lx ⟨#[v],[]⟩ w ⟨[(0,.tup ((pre++[c'])++r))],[],s⟩:=by
 obtain⟨hr0,ht⟩:=qb0 h (fun d i q=>by cases q)
 have same:∀j,j≠pre.length→(pre++c::r)[j]? = ((pre++[c'])++r)[j]?:=by
  intro j hjp
  by_cases hlt:j<pre.length
  ·rw[List.getElem?_append_left hlt,List.append_assoc,List.getElem?_append_left hlt]
  ·rw[List.getElem?_append_right (by omega),List.append_assoc,List.getElem?_append_right (by omega)]
   obtain⟨q,hq⟩:∃q,j-pre.length=q+1:=⟨j-pre.length-1,by omega⟩
   rw[hq];rfl
 have at_:((pre++[c'])++r)[pre.length]? = some c':=by simp
 cases hr0 with
 | tup vs _ hl hh =>
  have conv:∀j k,ownV (Value.tuple vs) (.tup ((pre++[c'])++r)) j=some k→(j=some pre.length∧exBlk (comp (.tuple vs) pre.length) c'=some k)∨own ⟨#[Value.tuple vs],[]⟩ lx μ w ⟨[(0,.tup (pre++c::r))],[],s⟩ (.t 0 j)=some k:=by
   intro j k hk
   cases j with
   | none=>simp[ownV,exBlk] at hk
   | some j =>
    by_cases hjp:j=pre.length
    ·subst hjp;simp only[ownV] at hk;rw[at_] at hk;exact .inl ⟨rfl,hk⟩
    ·right
     simp only[own,look,if_true,Option.bind_some,ownV] at hk ⊢
     rw[same j hjp];exact hk
  refine h.reslot (.tup vs _ (by simpa using hl) fun j d hd=>?_) (fun d i q=>by cases q) (fun j d hd=>?_) (fun j k hk=>?_) fun j j' k hk hk'=>?_
  ·by_cases hjp:j=pre.length
   ·subst hjp;rw[at_] at hd;injection hd with hd;subst hd;exact hr
   ·exact hh j d (by rw[same j hjp];exact hd)
  ·by_cases hjp:j=pre.length
   ·subst hjp;rw[at_] at hd;injection hd with hd;subst hd;exact htk
   ·exact ht j d (by rw[same j hjp];exact hd)
  ·rcases conv j k hk with ⟨rfl,h1⟩|h1
   ·obtain⟨q1,q2,q3,q4⟩:=hx k h1
    exact⟨q1,q2,q3,fun l _=>q4 l⟩
   ·have h5:=h.rng _ k h1
    exact⟨h5.1,h5.2.1,h5.2.2,fun l hl e2=>hl j (h.inj _ _ k e2 h1)⟩
  ·rcases conv j k hk with ⟨rfl,h1⟩|h1<;>rcases conv j' k hk' with ⟨rfl,h2⟩|h2
   ·rfl
   ·exact absurd h2 ((hx k h1).2.2.2 _)
   ·exact absurd h1 ((hx k h2).2.2.2 _)
   ·have:=h.inj _ _ k h1 h2
    injection this
theorem freezeL_sound {ex:Bool} {n0:Nat} {v:Value}:∀{xs xs' pre:List AV} {s s':List (List AV)} {μ:Gh},Sim B T0 μ0 w0 1 μ lx ⟨#[v],[]⟩ w ⟨[(0,.tup (pre++xs))],[],s⟩→freezeL P ex n0 xs s=some (xs',s') →
  ∃μ',Sim B T0 μ0 w0 1 μ' lx ⟨#[v],[]⟩ w ⟨[(0,.tup (pre++xs'))],[],s'⟩
 | [],xs',pre,s,s',μ,h,e=>by
  simp only[freezeL,Option.some.injEq,Prod.mk.injEq] at e
  obtain⟨rfl,rfl⟩:=e
  exact⟨μ,h⟩
 | c::r,xs',pre,s,s',μ,h,e=>by
  simp only[freezeL] at e
  obtain⟨⟨c',s1⟩,h1,e⟩:=qa e
  obtain⟨⟨r',s2⟩,h2,e⟩:=qa e
  simp only[Option.some.injEq,Prod.mk.injEq] at e
  obtain⟨rfl,rfl⟩:=e
  have key:∃μ',Sim B T0 μ0 w0 1 μ' lx ⟨#[v],[]⟩ w ⟨[(0,.tup ((pre++[c'])++r))],[],s1⟩:=by
   unfold freeze1 at h1
   split at h1
   ·rename_i ty sz b off n
    split at h1
    ·obtain⟨cs,hcs,h1⟩:=qa h1
     obtain⟨els,hels,h1⟩:=qa h1
     simp only[Option.some.injEq,Prod.mk.injEq] at h1
     obtain⟨rfl,rfl⟩:=h1
     obtain⟨hr,ht⟩:=qb0 h (fun d i q=>by cases q)
     cases hr with
     | tup vs _ hl hh =>
      have hc:(pre++AV.ms ty sz b off n::r)[pre.length]? = some (.ms ty sz b off n):=by simp
      obtain⟨μ',h3,x,r1,r2⟩:=h.freezeBox (hh _ _ hc) hcs hels
      split
      ·rename_i hq
       obtain⟨blk,e1,e2,e3,e4,e5,e6,e7⟩:=r2 hq.2.1 hq.2.2
       exact⟨μ',h3.recompX e2 e3 fun k hk=>by rw[show exBlk (comp (Value.tuple vs) pre.length) _=_ from e1] at hk;injection hk with hk;subst hk;exact⟨e4,e5,e6,e7⟩⟩
      ·exact⟨μ',h3.recomp r1 rfl⟩
    ·simp only[Option.some.injEq,Prod.mk.injEq] at h1
     obtain⟨rfl,rfl⟩:=h1
     exact⟨μ,by simpa using h⟩
   ·rename_i xs
    obtain⟨⟨ys,sy⟩,hf,h1⟩:=qa h1
    simp only[Option.some.injEq,Prod.mk.injEq] at h1
    obtain⟨rfl,rfl⟩:=h1
    obtain⟨hr,ht⟩:=qb0 h (fun d i q=>by cases q)
    cases hr with
    | tup vs _ hl hh =>
     have hc:(pre++AV.agg xs::r)[pre.length]? = some (.agg xs):=by simp
     have hra:=hh _ _ hc
     generalize hva:vs.getD pre.length undef=va at hra
     cases hra with
     | agg ws _ hl2 hp2 hh2 =>
      obtain⟨μ',k1,k2,k3,k4⟩:=freezeC_sound (fun d i q=>by cases q) (us:=fun j=>ws.getD j undef) h (fun j c hc=>⟨hh2 j c hc,hp2 c (List.mem_of_getElem? hc)⟩) hf
      refine⟨μ',k1.recomp ?_ rfl⟩
      show Rep B μ' w (vs.getD pre.length undef) _
      rw[hva]
      exact .agg ws _ (by omega) (fun c hc=>by
       obtain⟨j,hj⟩:=List.mem_iff_getElem?.1 hc
       exact (k4 j c hj).2) fun j c hc=>(k4 j c hc).1
   ·simp only[Option.some.injEq,Prod.mk.injEq] at h1
    obtain⟨rfl,rfl⟩:=h1
    exact⟨μ,by simpa using h⟩
  obtain⟨μ1,h3⟩:=key
  obtain⟨μ2,h4⟩:=freezeL_sound h3 h2
  exact⟨μ2,by simpa using h4⟩
theorem freezeT_sound {hh:Hint} {n0:Nat} {v:Value} {r r':AV} {s s':List (List AV)} (h:Sim B T0 μ0 w0 1 μ lx ⟨#[v],[]⟩ w ⟨[(0,r)],[],s⟩) (hnl:∀d i,r≠.lp d i) (e:freezeT P hh n0 r s=some (r',s')) :
  ∃μ',Sim B T0 μ0 w0 1 μ' lx ⟨#[v],[]⟩ w ⟨[(0,r')],[],s'⟩∧∀d i,r'≠.lp d i:=by
 unfold freezeT at e
 split at e
 ·obtain⟨⟨xs',s1⟩,h1,e⟩:=qa e
  simp only[Option.some.injEq,Prod.mk.injEq] at e
  obtain⟨rfl,rfl⟩:=e
  obtain⟨μ',h2⟩:=freezeL_sound (pre:=[]) h h1
  exact⟨μ',h2,fun d i q=>by cases q⟩
 ·exact freeze1_sound h hnl e
theorem Rep.weak {v:Value} {c:AV} (h:Rep B μ w v c):Rep B μ w v (weak c):=by
 cases h with
 | ifc t v a h=>exact .ifx t v
 | slnil o=>exact .slnil o
 | sl0 a cap o ho hm=>exact .sl0 a cap o ho hm
 | sl b off cap sz o els f ho hsz hc hm hu hcell hrep=>exact .sl b off cap sz o els f ho hsz hc hm hu hcell hrep
 | bool b=>exact .bool b
 | int k n=>exact .int k n
 | str s=>exact .str s
 | agg vs cs hl hp h=>exact .agg vs cs hl hp h
 | tup vs cs hl h=>exact .tup vs cs hl h
 | vp b off i xs f hp hcell hrep=>exact .vp b off i xs f hp hcell hrep
 | gp b i blk sh h hs=>exact .gp b i blk sh h hs
 | ms ty sz b off n blk cap h hs hc hm hsz=>exact .ms ty sz b off n blk cap h hs hc hm hsz
 | nilp=>exact .nilp
 | mp r clock es ks vs f h hl hv hk hp hr=>exact .mp r clock es ks vs f h hl hv hk hp hr
 | fn f vs cs hl hp h=>exact .fn f vs cs hl hp h
 | fb f vs cs hl hp h=>exact .fb f vs cs hl hp h
 | nilf=>exact .nilf
 | ifx t v=>exact .ifx t v
 | any v h=>exact .any v h
 | nili=>exact .nili
theorem qhx (v:Value) (c:AV):exBlk v (weak c)=exBlk v c:=by cases c<;>first|rfl|(cases v<;>first|rfl|(rename_i ad _ _;cases ad<;>rfl))
theorem qtf {v:Value} {c:AV} (h:Tk1 B μ w v c):Tk1 B μ w v (weak c):=by cases c<;>exact h
theorem qli {v:Value} {r:AV} {s:List (List AV)} (h:Sim B T0 μ0 w0 1 μ lx ⟨#[v],[]⟩ w ⟨[(0,r)],[],s⟩) (hnl:∀d i,r≠.lp d i) :
  Sim B T0 μ0 w0 1 μ lx ⟨#[v],[]⟩ w ⟨[(0,weakT r)],[],s⟩∧∀d i,weakT r≠.lp d i:=by
 obtain⟨hr,ht⟩:=qb0 h hnl
 have hown:∀j,ownV v (weakT r) j=ownV v r j:=by
  intro j
  cases r with
  | tup xs =>
   cases j with
   | none=>cases v<;>first|rfl|(rename_i ad _ _;cases ad<;>rfl)
   | some j =>
    simp only[weakT,ownV,List.getElem?_map]
    cases xs[j]? with
    | none=>rfl
    | some c=>simp[qhx]
  | _=>cases j<;>first|rfl|(simp only[weakT,ownV];first|exact qhx _ _|rfl)
 have tok:∀j k,ownV v (weakT r) j=some k→own ⟨#[v],[]⟩ lx μ w ⟨[(0,r)],[],s⟩ (.t 0 j)=some k:=by
  intro j k hk
  rw[hown] at hk
  simp only[own,look,if_true,Option.bind_some]
  exact hk
 have hn:∀d i,weakT r≠.lp d i:=by
  intro d i q
  cases r<;>simp[weakT,weak] at q
  exact hnl _ _ (by rw[q.1,q.2])
 refine⟨h.reslot ?_ hn ?_ (fun j k hk=>?_) fun j j' k hk hk'=>?_,hn⟩
 ·cases r with
  | tup xs =>
   cases hr with
   | tup vs cs hl hh =>
    refine .tup vs _ (by simpa using hl) fun j c hc=>?_
    rw[List.getElem?_map] at hc
    cases hx:xs[j]? with
    | none=>simp[hx] at hc
    | some x=>simp[hx] at hc;subst hc;exact (hh j x hx).weak
  | _=>exact hr.weak
 ·cases r with
  | tup xs =>
   intro j c hc
   rw[List.getElem?_map] at hc
   cases hx:xs[j]? with
   | none=>simp[hx] at hc
   | some x=>simp[hx] at hc;subst hc;exact qtf (ht j x hx)
  | _=>first|trivial|exact ht
 ·have:=h.rng _ k (tok j k hk)
  exact⟨this.1,this.2.1,this.2.2,fun l hl e=>hl j (h.inj _ _ k e (tok j k hk))⟩
 ·have:=h.inj _ _ k (tok j k hk) (tok j' k hk')
  injection this
theorem qah {n:Nat}:∀{xs:List AV},lowL n xs↔∀x∈xs,low n x
 | []=>by simp[lowL]
 | x::r=>by simp[lowL,qah (xs:=r)]
def cut (μ:Gh) (n:Nat):Gh:={μ with bx:=fun b=>if b<n then μ.bx b else none}
theorem qpy {n:Nat} {e c:AV} {j:Nat} (h:low n e) (hc:e.cells[j]? = some c):low n c:=by
 cases e with
 | agg xs=>simp only[low,qah] at h;exact h c (List.mem_of_getElem? hc)
 | _=>cases j<;>simp[AV.cells] at hc;subst hc;exact h
theorem Rep.cut {v:Value} {c:AV} {n:Nat} (h:Rep B μ w v c) (hl:low n c):Rep B (AI.cut μ n) w v c:=by
 induction h with
 | bool b=>exact .bool b
 | int k n=>exact .int k n
 | str s=>exact .str s
 | slnil o=>exact .slnil o
 | sl0 a cap o ho hm=>exact .sl0 a cap o ho hm
 | sl b off cap sz o els f ho hsz hc hm hu hcell hrep ih =>
  refine .sl b off cap sz o els f ho hsz hc hm hu hcell fun i j c hq=>ih i j c hq ?_
  simp only[low,qah] at hl
  cases hx:els[i]? with
  | none=>simp[hx] at hq
  | some e=>rw[hx] at hq;exact qpy (hl e (List.mem_of_getElem? hx)) hq
 | agg vs cs hl' hp h ih =>
  simp only[low,qah] at hl
  exact .agg vs cs hl' hp fun j c hc=>ih j c hc (hl c (List.mem_of_getElem? hc))
 | tup vs cs hl' h ih =>
  simp only[low,qah] at hl
  exact .tup vs cs hl' fun j c hc=>ih j c hc (hl c (List.mem_of_getElem? hc))
 | vp b off i xs f hp hcell hrep ih =>
  simp only[low,qah] at hl
  exact .vp b off i xs f hp hcell fun k c hc=>ih k c hc (hl c (List.mem_of_getElem? hc))
 | gp b i blk sh h hs=>exact .gp b i blk sh (by simp only[low] at hl;simp[AI.cut,hl,h]) hs
 | ms ty sz b off n' blk cap h hs hc hm hsz=>exact .ms ty sz b off n' blk cap (by simp only[low] at hl;simp[AI.cut,hl,h]) hs hc hm hsz
 | nilp=>exact .nilp
 | mp r clock es ks vs f h hl' hv hk hp hr ih =>
  simp only[low,qah] at hl
  exact .mp r clock es ks vs f h hl' hv hk hp fun i c hc=>ih i c hc (hl c (List.mem_of_getElem? hc))
 | fn f vs cs hl' hp h ih =>
  simp only[low,qah] at hl
  exact .fn f vs cs hl' hp fun j c hc=>ih j c hc (hl c (List.mem_of_getElem? hc))
 | fb f vs cs hl' hp h ih =>
  simp only[low,qah] at hl
  exact .fb f vs cs hl' hp fun j c hc=>ih j c hc (hl c (List.mem_of_getElem? hc))
 | nilf=>exact .nilf
 | ifc t v a h ih=>simp only[low] at hl;exact .ifc t v a (ih hl)
 | ifx t v=>exact .ifx t v
 | any v h=>exact .any v h
 | nili=>exact .nili
theorem Rep.low_of {v:Value} {c:AV} {n:Nat} (h:Rep B μ w v c) (hd:∀b,n≤b→μ.bx b=none):low n c:=by
 have lt:∀{b k},μ.bx b=some k→b<n:=fun {b k} e=>by
  rcases Nat.lt_or_ge b n with q|q
  ·exact q
  ·rw[hd b q] at e;cases e
 induction h with
 | sl b off cap sz o els f ho hsz hc hm hu hcell hrep ih =>
  simp only[low,qah]
  intro x hx
  obtain⟨i,hi⟩:=List.mem_iff_getElem?.1 hx
  cases x with
  | agg xs =>
   simp only[low,qah]
   intro c hc
   obtain⟨j,hj⟩:=List.mem_iff_getElem?.1 hc
   exact ih i j c (by rw[hi];exact hj)
  | _=>exact ih i 0 _ (by rw[hi];rfl)
 | slnil o=>simp[low,lowL]
 | sl0 a cap o ho hm=>simp[low,lowL]
 | agg vs cs hl' hp h ih =>
  simp only[low,qah];intro c hc
  obtain⟨j,hj⟩:=List.mem_iff_getElem?.1 hc
  exact ih j c hj
 | tup vs cs hl' h ih =>
  simp only[low,qah];intro c hc
  obtain⟨j,hj⟩:=List.mem_iff_getElem?.1 hc
  exact ih j c hj
 | vp b off i xs f hp hcell hrep ih =>
  simp only[low,qah];intro c hc
  obtain⟨j,hj⟩:=List.mem_iff_getElem?.1 hc
  exact ih j c hj
 | gp b i blk sh h hs=>simp only[low];exact lt h
 | ms ty sz b off n' blk cap h hs hc hm hsz=>simp only[low];exact lt h
 | fn f vs cs hl' hp h ih =>
  simp only[low,qah];intro c hc
  obtain⟨j,hj⟩:=List.mem_iff_getElem?.1 hc
  exact ih j c hj
 | fb f vs cs hl' hp h ih =>
  simp only[low,qah];intro c hc
  obtain⟨j,hj⟩:=List.mem_iff_getElem?.1 hc
  exact ih j c hj
 | mp r clock es ks vs f h hl' hv hk hp hr ih =>
  simp only[low,qah];intro c hc
  obtain⟨j,hj⟩:=List.mem_iff_getElem?.1 hc
  exact ih j c hj
 | ifc t v a h ih=>simp only[low];exact ih
 | _=>simp[low]
theorem Sim.gc {v:Value} {r:AV} {s s0:List (List AV)} {N0:Nat} {a0:Act} {st0:St} {lx0:Nat→Option Nat} (hE:Sim B T0 μ0 w0 N0 μ0 lx0 a0 w0 st0) (hs0:st0.s=s0)
  (h:Sim B T0 μ0 w0 1 μ lx ⟨#[v],[]⟩ w ⟨[(0,r)],[],s⟩) (hnl:∀d i,r≠.lp d i) (hr:low s0.length r) (hs:lowS s0 s):Sim B T0 μ0 w0 1 (AI.cut μ s0.length) lx ⟨#[v],[]⟩ w ⟨[(0,r)],[],s.take s0.length⟩:=by
 have hd0:∀b,s0.length≤b→μ0.bx b=none:=by rw[← hs0];exact hE.gdom
 have hx:Ext B T0 μ0 w0 (AI.cut μ s0.length) w:=by
  refine⟨h.ext.below,h.ext.same,h.ext.kept,h.ext.fr,fun b k e=>?_,h.ext.sh,h.ext.mp,fun e=>h.ext.df e⟩
  have hb:b<s0.length:=by
   rcases Nat.lt_or_ge b s0.length with q|q
   ·exact q
   ·rw[hd0 b q] at e;cases e
  simp[AI.cut,hb,h.ext.bx b k e]
 have hbx:∀b k,(AI.cut μ s0.length).bx b=some k→μ.bx b=some k∧b<s0.length:=by
  intro b k e
  simp only[AI.cut] at e
  split at e
  ·rename_i q;exact⟨e,q⟩
  ·cases e
 have hown:∀l k,own ⟨#[v],[]⟩ lx (AI.cut μ s0.length) w ⟨[(0,r)],[],s.take s0.length⟩ l=some k→own ⟨#[v],[]⟩ lx μ w ⟨[(0,r)],[],s⟩ l=some k:=by
  intro l k e
  cases l with
  | t i j=>exact e
  | l d=>exact e
  | lc d j=>exact e
  | g b =>
   simp only[own] at e ⊢
   rw[List.getElem?_take] at e
   split at e
   ·rename_i hb
    cases hq:s[b]? with
    | none=>rw[hq] at e;simp at e
    | some cs =>
     rw[hq] at e
     cases cs with
     | nil=>simp at e
     | cons c r=>simp at e ⊢;exact (hbx _ _ e).1
   ·simp at e
  | gc b j =>
   simp only[own] at e ⊢
   rw[List.getElem?_take] at e
   split at e
   ·rename_i hb
    have:(AI.cut μ s0.length).bx b=μ.bx b:=by simp[AI.cut,hb]
    rw[this] at e;exact e
   ·simp[ownB] at e
 have hslot:=qb0 h hnl
 constructor
 ·exact h.defs
 ·exact h.size
 ·exact hx
 ·intro i u hu
  simp only[look] at hu
  split at hu
  ·rename_i hi;subst hi;injection hu with hu;subst hu
   have hrc:=hslot.1.cut hr
   have htc:=hslot.2
   cases r with
   | lp d i=>exact absurd rfl (hnl _ _)
   | _=>exact⟨hrc,htc⟩
  ·cases hu
 ·intro d cs e;simp[look] at e
 ·intro b cs blk hc hb hne
  simp only at hc
  rw[List.getElem?_take] at hc
  split at hc
  ·rename_i hlt
   obtain⟨hb1,_⟩:=hbx _ _ hb
   obtain⟨vs,ty,g1,g2,g3,g4⟩:=h.glb b cs blk hc hb1 hne
   refine⟨vs,ty,g1,g2,g3,fun j c hj=>?_⟩
   obtain⟨p1,p2,p3⟩:=g4 j c hj
   have hlow:low s0.length c:=by
    rcases hs b hlt with q|⟨cs',q,hl⟩
    ·rw[hc] at q
     obtain⟨k0,hk0⟩:∃k0,μ0.bx b=some k0:=by
      cases hq:μ0.bx b with
      | some k0=>exact⟨k0,rfl⟩
      | none=>exact absurd hq (hE.gbx b (by rw[hs0];exact hlt))
     obtain⟨vs0,ty0,_,_,_,g40⟩:=hE.glb b cs k0 (by rw[hs0];exact q.symm) hk0 hne
     exact (g40 j c hj).2.1.low_of hd0
    ·rw[hc] at q;injection q with q;subst q
     exact qah.1 hl c (List.mem_of_getElem? hj)
   have hp2:=p2.cut hlow
   have hp3:Tk1 B (AI.cut μ s0.length) w (vs.getD j undef) c:=p3
   exact⟨p1,hp2,hp3⟩
  ·cases hc
 ·intro b hb
  simp only[List.length_take] at hb
  simp only[AI.cut]
  split
  ·rename_i hlt;exact h.gdom b (by simp;omega)
  ·rfl
 ·intro l l' k e e';exact h.inj l l' k (hown l k e) (hown l' k e')
 ·intro l k e;exact h.rng l k (hown l k e)
 ·exact h.fr0
 ·exact h.hB
 ·exact h.nd
 ·intro b hb
  simp only[List.length_take] at hb
  have hb1:b<s0.length:=by omega
  simp only[AI.cut,hb1,if_true]
  exact h.gbx b (by simp;omega)
 ·exact h.mdf
end
end Go.AI
end
section
namespace Go.AI
open Go.RowKit
set_option linter.unusedVariables false
section
variable {P:Program} {B:Nat} {T0:Nat→Prop} {μ0:Gh} {w0:World} {N:Nat} {μ:Gh} {lx:Nat→Option Nat} {a:Act} {w:World} {st:St}
theorem qdo {f:AV→Option AV}:∀{l l':List AV},mapO f l=some l'→l'.length=l.length:=by
 intro l
 induction l with
 | nil=>intro l' h;injection h with h;subst h;rfl
 | cons x r ih =>
  intro l' h
  simp only[mapO] at h
  obtain⟨y,_,h⟩:=qa h
  obtain⟨q,hq,h⟩:=qa h
  injection h with h;subst h
  simp[ih hq]
theorem qb1 {f:AV→Option AV}:∀{l l':List AV},mapO f l=some l'→∀(i:Nat) (y:AV),l'[i]? = some y→∃x,l[i]? = some x∧f x=some y:=by
 intro l
 induction l with
 | nil=>intro l' h i y hy;injection h with h;subst h;simp at hy
 | cons x r ih =>
  intro l' h i y hy
  simp only[mapO] at h
  obtain⟨z,hz,h⟩:=qa h
  obtain⟨q,hq,h⟩:=qa h
  injection h with h;subst h
  cases i with
  | zero=>simp at hy;subst hy;exact⟨x,rfl,hz⟩
  | succ i=>simp at hy;exact ih hq i y hy
def still (w:World):Gh:={fr:=fun b=>((w.shape? b).map (·.2)).getD 0,bx:=fun _=>none}
theorem qe1 {b j:Nat} {v:Value} (h:w.cell? ⟨b,j,none⟩=some v):settled B (still w) b j:=by
 right
 simp only[still,World.shape?]
 simp only[World.cell?] at h
 split at h
 ·rename_i c e f hc
  simp at h
  simp only[Option.map_some,Option.getD_some]
  exact (Array.getElem?_eq_some_iff.1 h).1
 ·cases h
theorem flatV_quiet {s:List (List AV)} {d:Nat} {x y:AV} (h:flatV s d x=some y):quiet y=true∧(∀d i,y≠.lp d i)∧pers y=true∧(qaa x=true→qaa y=true∧y.cells=[y])∧(x.cells=[x]→y.cells=[y]) ∧
  (∀cs,x=.agg cs→∃d' cs',d=d'+1∧y=.agg cs'∧mapO (flatV s d') cs=some cs'):=by
 cases d with
 | zero=>cases h
 | succ d =>
  cases x with
  | ms ty sz b off n =>
   simp only[flatV] at h
   obtain⟨cs,hc,h⟩:=qa h
   split at h
   ·obtain⟨els,he,h⟩:=qa h
    injection h with h;subst h
    simp[quiet,pers,qaa,AV.cells]
   ·split at h
    ·obtain⟨els,he,h⟩:=qa h
     injection h with h;subst h
     simp[quiet,pers,qaa,AV.cells]
    ·cases h
  | sl o xs =>
   cases o<;>simp only[flatV] at h
   ·obtain⟨els,he,h⟩:=qa h
    injection h with h;subst h
    simp[quiet,pers,qaa,AV.cells]
   ·split at h
    ·injection h with h;subst h
     simp[quiet,pers,qaa,AV.cells]
    ·cases h
   ·obtain⟨els,he,h⟩:=qa h
    injection h with h;subst h
    simp[quiet,pers,qaa,AV.cells]
  | agg xs =>
   simp only[flatV] at h
   obtain⟨els,he,h⟩:=qa h
   injection h with h;subst h
   refine⟨rfl,by simp,rfl,by simp[qaa],fun hx=>?_,fun cs hcs=>⟨d,els,rfl,rfl,by injection hcs with hcs;subst hcs;exact he⟩⟩
   simp only[AV.cells] at hx
   have h2:SizeOf.sizeOf xs=SizeOf.sizeOf ([AV.agg xs]:List AV):=by conv=>lhs;rw[hx]
   simp at h2
   omega
  | bool|int|str|nilp|nilf|nili=>simp only[flatV] at h;injection h with h;subst h;simp[quiet,pers,qaa,AV.cells]
  | tup|vp|lp|gp|mp|fn|fb|ifc|ifx|any=>simp[flatV] at h
theorem qc5 {f g:AV→Option AV} (h:∀x y,f x=some y→g x=some y):∀{l l':List AV},mapO f l=some l'→mapO g l=some l':=by
 intro l
 induction l with
 | nil=>intro l' e;exact e
 | cons x r ih =>
  intro l' e
  simp only[mapO] at e ⊢
  obtain⟨y,hy,e⟩:=qa e
  obtain⟨q,hq,e⟩:=qa e
  rw[h x y hy,ih hq];exact e
theorem flatV_up {s:List (List AV)} {d:Nat}:∀{x y:AV},flatV s d x=some y→flatV s (d+1) x=some y:=by
 induction d with
 | zero=>intro x y h;cases h
 | succ d ih =>
  intro x y h
  cases x with
  | ms ty sz b off n =>
   rw[flatV] at h ⊢
   obtain⟨cs,hc,h⟩:=qa h
   rw[hc]
   simp only[bnd]
   split at h
   ·rename_i hz
    rw[if_pos hz]
    obtain⟨els,he,h⟩:=qa h
    rw[qc5 (fun x y=>ih) he];exact h
   ·rename_i hz
    rw[if_neg hz]
    split at h
    ·rename_i hz2
     rw[if_pos hz2]
     obtain⟨els,he,h⟩:=qa h
     rw[qc5 (fun x y=>ih) he];exact h
    ·cases h
  | sl o xs =>
   cases o
   ·rw[flatV] at h ⊢
    obtain⟨els,he,h⟩:=qa h
    rw[qc5 (fun x y=>ih) he];exact h
   ·exact h
   ·rw[flatV] at h ⊢
    obtain⟨els,he,h⟩:=qa h
    rw[qc5 (fun x y=>ih) he];exact h
  | agg xs =>
   rw[flatV] at h ⊢
   obtain⟨els,he,h⟩:=qa h
   rw[qc5 (fun x y=>ih) he];exact h
  | bool|int|str|nilp|nilf|nili=>exact h
  | tup|vp|lp|gp|mp|fn|fb|ifc|ifx|any=>simp[flatV] at h
theorem flatV_rep {s : List (List AV)} (hg : ∀ (b : Nat) (cs : List AV) (blk : Nat), s[b]? = some cs → μ.bx b = some blk → cs ≠ [] → Box B μ w blk cs) (d : Nat) :
    ∀ {v : Value} {x y : AV}, flatV s d x = some y → Rep B μ w v x → Rep B (still w) w v y := by
  induction d with
  | zero => intro v x y h; cases h
  | succ d ih =>
    intro v x y h hr
    cases x with
    | ms ty sz b off n =>
      simp only [flatV] at h
      obtain ⟨cs, hc, h⟩ := qa h
      split at h
      · rename_i hsz
        obtain ⟨els, he, h⟩ := qa h
        injection h with h; subst h
        obtain ⟨hz, hn⟩ := hsz
        subst hz
        have hel := qdo he
        simp only [List.length_take, List.length_drop] at hel
        cases hr with
        | ms ty sz b off n blk cap hb hs hcap hm hsz =>
          have hen : els.length = n := by omega
          by_cases h0 : n = 0
          · subst h0
            have : els = [] := List.eq_nil_of_length_eq_zero hen
            subst this
            exact .sl0 _ _ _ (by simp) hm
          · have hbox := hg b cs blk hc hb (by intro e; subst e; simp at hn; omega)
            obtain ⟨vs, ty', h1, h2, h3, h4⟩ := hbox
            have hcells : ∀ (k : Nat) (y : AV), els[k]? = some y → ∃ x, cs[off + k]? = some x ∧ flatV s d x = some y ∧ qaa x = true ∧ Rep B μ w (vs.getD (off + k) undef) x := by
              intro k y hy
              obtain ⟨x, hx, hf⟩ := qb1 he k y hy
              rw [List.getElem?_take] at hx
              split at hx
              · rw [List.getElem?_drop] at hx
                have := h4 _ _ hx
                exact ⟨x, hx, hf, this.1, this.2.1⟩
              · cases hx
            subst hen
            refine .sl blk off cap 1 .sh els (fun k => vs.getD (off + k) undef) (by simp) (by omega) hcap hm (fun y hy => ?_) (fun k hk => ?_) (fun i j c hc => ?_)
            · obtain ⟨k, hk⟩ := List.mem_iff_getElem?.1 hy
              obtain ⟨x, hx, hf, hc1, _⟩ := hcells k y hk
              obtain ⟨q1, q2, q3, q4, _⟩ := flatV_quiet hf
              obtain ⟨q5, q6⟩ := q4 hc1
              rw [q6]
              exact ⟨rfl, fun c hc => by simp at hc; subst hc; simp [plain, q5, q1]⟩
            · have hlt : off + k < vs.size := by omega
              have : w.cell? ⟨blk, off + k, none⟩ = some (vs.getD (off + k) undef) := by rw [h1.cell]; simp [Array.getD, hlt]
              exact ⟨this, qe1 this⟩
            · cases hy : els[i]? with
              | none => rw [hy] at hc; cases hc
              | some y =>
                rw [hy] at hc
                simp only [Option.bind_some] at hc
                obtain ⟨x, hx, hf, hc1, hrep⟩ := hcells i y hy
                obtain ⟨q1, q2, q3, q4, _⟩ := flatV_quiet hf
                rw [(q4 hc1).2] at hc
                cases j with
                | zero => simp at hc; subst hc; simpa using ih hf hrep
                | succ j => simp at hc
      · split at h
        · rename_i hsz
          obtain ⟨els, he, h⟩ := qa h
          injection h with h; subst h
          obtain ⟨hz, hn⟩ := hsz
          have hel := qdo he
          simp only [List.length_take, List.length_drop] at hel
          have hel : els.length = n * sz := by omega
          have hal : (aggs sz n els).length = n := by simp [aggs]
          cases hr with
          | ms ty sz b off n blk cap hb hs hcap hm hsz =>
            by_cases h0 : n = 0
            · subst h0
              exact .sl0 _ _ _ (by simp) hm
            · have hns : 0 < n * sz := Nat.mul_pos (by omega) (by omega)
              have hbox := hg b cs blk hc hb (by intro e; subst e; simp at hn; omega)
              obtain ⟨vs, ty', h1, h2, h3, h4⟩ := hbox
              have hcells : ∀ (k : Nat) (y : AV), els[k]? = some y → ∃ x, cs[off + k]? = some x ∧ flatV s d x = some y ∧ qaa x = true ∧ Rep B μ w (vs.getD (off + k) undef) x := by
                intro k y hy
                obtain ⟨x, hx, hf⟩ := qb1 he k y hy
                rw [List.getElem?_take] at hx
                split at hx
                · rw [List.getElem?_drop] at hx
                  have := h4 _ _ hx
                  exact ⟨x, hx, hf, this.1, this.2.1⟩
                · cases hx
              have hget : ∀ (i : Nat) (y : AV), (aggs sz n els)[i]? = some y → i < n ∧ y = .agg ((els.drop (i * sz)).take sz) := by
                intro i y hy
                obtain ⟨hi, rfl⟩ := List.getElem?_eq_some_iff.1 hy
                rw [hal] at hi
                exact ⟨hi, by simp [aggs]⟩
              have hroom : ∀ i, i < n → i * sz + sz ≤ n * sz := fun i hi => by
                have := Nat.mul_le_mul_right sz (show i + 1 ≤ n by omega)
                rw [Nat.add_mul, Nat.one_mul] at this; exact this
              have hsl : ∀ i, i < n → ((els.drop (i * sz)).take sz).length = sz := fun i hi => by
                have := hroom i hi
                simp; omega
              have hcell2 : ∀ (i : Nat), i < n → ∀ (j : Nat) (c : AV), ((els.drop (i * sz)).take sz)[j]? = some c → els[i * sz + j]? = some c := by
                intro i hi j c hc
                rw [List.getElem?_take] at hc
                split at hc
                · rw [List.getElem?_drop] at hc; exact hc
                · cases hc
              have hfin := Rep.sl (B := B) (μ := still w) (w := w) blk off cap sz .sh (aggs sz n els) (fun k => vs.getD (off + k) undef) (by simp) (by omega) (by rw [hal]; exact hcap) hm (fun y hy => ?_) (fun k hk => ?_) (fun i j c hc => ?_)
              · rw [hal] at hfin; exact hfin
              · obtain ⟨i, hiy⟩ := List.mem_iff_getElem?.1 hy
                obtain ⟨hi, rfl⟩ := hget i y hiy
                refine ⟨hsl i hi, fun c hc => ?_⟩
                obtain ⟨j, hj⟩ := List.mem_iff_getElem?.1 hc
                obtain ⟨x, hx, hf, hc1, _⟩ := hcells _ _ (hcell2 i hi j c hj)
                obtain ⟨q1, q2, q3, q4, _⟩ := flatV_quiet hf
                simp [plain, (q4 hc1).1, q1]
              · rw [hal] at hk
                have hlt : off + k < vs.size := by omega
                have : w.cell? ⟨blk, off + k, none⟩ = some (vs.getD (off + k) undef) := by rw [h1.cell]; simp [Array.getD, hlt]
                exact ⟨this, qe1 this⟩
              · cases hy : (aggs sz n els)[i]? with
                | none => rw [hy] at hc; cases hc
                | some y =>
                  rw [hy] at hc
                  obtain ⟨hi, rfl⟩ := hget i y hy
                  simp only [Option.bind_some, AV.cells] at hc
                  obtain ⟨x, hx, hf, hc1, hrep⟩ := hcells _ _ (hcell2 i hi j c hc)
                  exact ih hf hrep
        · cases h
    | sl o xs =>
      have main : ∀ ys, mapO (flatV s d) xs = some ys → o ≠ .nil → Rep B (still w) w v (.sl .sh ys) := by
        intro ys he ho
        have hel := qdo he
        cases hr with
        | slnil o => have : ys = [] := List.eq_nil_of_length_eq_zero (by simpa using hel)
                     subst this; exact .slnil _
        | sl0 p cap o ho hm => have : ys = [] := List.eq_nil_of_length_eq_zero (by simpa using hel)
                               subst this; exact .sl0 _ _ _ (by simp) hm
        | sl b off cap sz o els f ho hsz hc hm hu hcell hrep =>
          have hkey : ∀ (i : Nat) (y : AV), ys[i]? = some y → y.cells.length = sz ∧ (∀ c ∈ y.cells, plain c = true) ∧ ∀ (j : Nat) c, y.cells[j]? = some c → Rep B (still w) w (f (i * sz + j)) c := by
            intro i y hy
            obtain ⟨x, hx, hf⟩ := qb1 he i y hy
            obtain ⟨hxl, hxp⟩ := hu x (List.mem_of_getElem? hx)
            obtain ⟨q1, q2, q3, q4, q5, q6⟩ := flatV_quiet hf
            have hrx : ∀ (j : Nat) c, x.cells[j]? = some c → Rep B μ w (f (i * sz + j)) c := fun j c hj => hrep i j c (by rw [hx]; exact hj)
            cases x with
            | agg cs =>
              obtain ⟨d', cs', rfl, rfl, hm'⟩ := q6 cs rfl
              have hl' := qdo hm'
              simp only [AV.cells] at hxl hxp hrx ⊢
              refine ⟨by omega, fun c hc => ?_, fun j c hj => ?_⟩
              · obtain ⟨k, hk⟩ := List.mem_iff_getElem?.1 hc
                obtain ⟨z, hz, hzf⟩ := qb1 hm' k c hk
                have hp := hxp z (List.mem_of_getElem? hz)
                simp [plain] at hp
                obtain ⟨r1, _, _, r4, _⟩ := flatV_quiet hzf
                simp [plain, (r4 hp.1).1, r1]
              · obtain ⟨z, hz, hzf⟩ := qb1 hm' j c hj
                have hup : flatV s (d' + 1) z = some c := flatV_up hzf
                exact ih hup (hrx j z hz)
            | _ =>
              first
              | (simp [flatV] at hf; done)
              | (have hc1 : qaa _ = true := (by have := hxp _ (by simp only [AV.cells]; exact List.mem_singleton.2 rfl); simp [plain] at this; exact this.1)
                 rw [(q4 hc1).2]
                 simp only [AV.cells] at hxl hrx
                 refine ⟨hxl, fun c hc => by simp at hc; subst hc; simp [plain, (q4 hc1).1, q1], fun j c hj => ?_⟩
                 cases j with
                 | zero => simp at hj; subst hj; exact ih hf (hrx 0 _ rfl)
                 | succ j => simp at hj)
              | (cases d <;> simp [flatV] at hf; done)
          rw [← hel] at hc ⊢
          refine .sl b off cap sz .sh ys f (by simp) hsz hc hm (fun y hy => ?_) (fun k hk => ?_) (fun i j c hc => ?_)
          · obtain ⟨k, hk⟩ := List.mem_iff_getElem?.1 hy
            exact ⟨(hkey k y hk).1, (hkey k y hk).2.1⟩
          · have := hcell k (by rw [← hel]; exact hk)
            exact ⟨this.1, qe1 this.1⟩
          · cases hy : ys[i]? with
            | none => rw [hy] at hc; cases hc
            | some y => rw [hy] at hc; exact (hkey i y hy).2.2 j c hc
      cases o <;> simp only [flatV] at h
      · obtain ⟨els, he, h⟩ := qa h
        injection h with h; subst h
        exact main els he (by simp)
      · split at h
        · injection h with h; subst h
          cases hr with
          | slnil o => exact .slnil _
          | sl0 p cap o ho hm => exact absurd rfl ho
          | sl b off cap sz o els f ho => exact absurd rfl ho
        · cases h
      · obtain ⟨els, he, h⟩ := qa h
        injection h with h; subst h
        exact main els he (by simp)
    | agg xs =>
      simp only [flatV] at h
      obtain ⟨els, he, h⟩ := qa h
      injection h with h; subst h
      have hel := qdo he
      cases hr with
      | agg vs cs hl hp hh =>
        refine .agg vs els (by omega) (fun c hc => ?_) (fun j c hj => ?_)
        · obtain ⟨k, hk⟩ := List.mem_iff_getElem?.1 hc
          obtain ⟨z, hz, hzf⟩ := qb1 he k c hk
          have hpz := hp z (List.mem_of_getElem? hz)
          simp [plain] at hpz
          obtain ⟨r1, _, _, r4, _⟩ := flatV_quiet hzf
          simp [plain, (r4 hpz.1).1, r1]
        · obtain ⟨z, hz, hzf⟩ := qb1 he j c hj
          exact ih hzf (hh j z hz)
    | bool b => simp only [flatV] at h; injection h with h; subst h; cases hr; exact .bool _
    | int k n => simp only [flatV] at h; injection h with h; subst h; cases hr; exact .int _ _
    | str b => simp only [flatV] at h; injection h with h; subst h; cases hr; exact .str _
    | nilp => simp only [flatV] at h; injection h with h; subst h; cases hr; exact .nilp
    | nilf => simp only [flatV] at h; injection h with h; subst h; cases hr; exact .nilf
    | nili => simp only [flatV] at h; injection h with h; subst h; cases hr; exact .nili
    | tup | vp | lp | gp | mp | fn | fb | ifc | ifx | any => simp [flatV] at h
theorem qil {B':Nat} {μ':Gh} {w':World} {v:Value} {x:AV} (h:scal x=true) (r:Rep B μ w v x):Rep B' μ' w' v x:=by
 cases x with
 | bool|int|str|nilp|nilf|nili=>cases r<;>constructor
 | _=>simp[scal] at h
theorem qec {B':Nat} {μ':Gh} {w':World} {v:Value} {x:AV} (h:qjn x=true) (r:Rep B μ w v x):Rep B' μ' w' v x∧quiet x=true∧(∀d i,x≠.lp d i)∧∀l,x≠.tup l:=by
 cases x with
 | agg xs =>
  simp only[qjn,List.all_eq_true] at h
  cases r with
  | agg vs cs hl hp hh=>exact⟨.agg vs _ hl hp fun j c hc=>qil (h c (List.mem_of_getElem? hc)) (hh j c hc),rfl,by simp,by simp⟩
 | bool|int|str|nilp|nilf|nili=>exact⟨qil h r,rfl,by simp,by simp⟩
 | _=>simp[qjn,scal] at h
theorem qpz {W0:World} {f:FuncId} {as bs:List AV} {s s':List (List AV)} {r:AV} (hb:mapO (flatV s 8) as=some bs) (hr:outOk r=true) (hC:ACalls P B W0 f bs [] r s'):ACalls P B W0 f as s r s:=by
 intro T μ w vs hsz hW hs
 have hlook:∀i v,as[i]? = some v→look (params 0 as) i=some v:=fun i v e=>by rw[qa2];simpa using e
 have hlookb:∀i v,look (params 0 bs) i=some v→bs[i]? = some v:=fun i v e=>by rw[qa2] at e;simpa using e
 have hbl:=qdo hb
 have hval:∀(j:Nat) (c:AV),bs[j]? = some c→Rep B (still w) w (vs.getD j undef) c∧pers c=true∧quiet c=true:=by
  intro j c hc
  obtain⟨x,hx,hf⟩:=qb1 hb j c hc
  obtain⟨q1,q2,q3,_⟩:=flatV_quiet hf
  have hfull:=hs.tmp j x (hlook j x hx)
  have hnl:∀d i,x≠.lp d i:=by intro d i e;subst e;simp[flatV] at hf
  exact⟨flatV_rep hs.glb 8 hf (hfull.rep hnl),q3,q1⟩
 have hno:∀l k,own ⟨vs,[]⟩ (fun _=>none) (still w) w ⟨params 0 bs,[],[]⟩ l≠some k:=by
  intro l k e
  cases l with
  | t i j =>
   simp only[own] at e
   cases hq:look (params 0 bs) i with
   | none=>rw[hq] at e;cases e
   | some v =>
    rw[hq] at e
    have:=hval i v (hlookb i v hq)
    cases j with
    | none=>simp only[Option.bind_some,ownV] at e;rw[qq this.2.2] at e;cases e
    | some j=>cases v<;>first|(simp[ownV] at e;done)|simp[pers] at this
  | l d=>simp[own,look] at e
  | lc d j=>simp[own,look,ownB] at e
  | g b=>simp[own] at e
  | gc b j=>simp[own,ownB] at e
 have hs2:Sim B (fun _=>False) (still w) w vs.size (still w) (fun _=>none) ⟨vs,[]⟩ w ⟨params 0 bs,[],[]⟩:=by
  constructor
  ·rfl
  ·rfl
  ·exact Ext.refl _ _ _ _
  ·intro i v e
   have:=hval i v (hlookb i v e)
   have ht:Tk1 B (still w) w (vs.getD i undef) v:=qaf this.2.2
   cases v with
   | lp d i=>simp[pers] at this
   | tup xs=>simp[pers] at this
   | _=>exact⟨this.1,ht⟩
  ·intro d cs e;simp[look] at e
  ·intro b cs blk e;simp at e
  ·intro b _;rfl
  ·intro l l' k e;exact absurd e (hno l k)
  ·intro l k e;exact absurd e (hno l k)
  ·intro b hb;simp[still,World.shape?,Array.getElem?_eq_none hb]
  ·exact hs.hB
  ·rw[qd5];exact List.nodup_range'
  ·intro b hb;simp at hb
  ·rfl
 refine (hC (fun _=>False) (still w) w vs (by omega) hW hs2).mono fun e w' hx=>?_
 obtain⟨v,μ',rfl,hq⟩:=hx
 have x:=hq.ext
 obtain⟨μ3,hμ3⟩:∃μ3:Gh,μ3={fr:=fun b=>if b<w.heap.size then μ.fr b else μ'.fr b,bx:=μ.bx}:=⟨_,rfl⟩
 have x3:Ext B (fun _=>False) μ w μ3 w':=by
  subst hμ3
  refine⟨x.below,fun b hb _=>⟨(x.same b hb (fun h=>h)).1,by simp[hb]⟩,fun b j hb hj=>qbd (x.same b hb (fun h=>h)).1,fun b hb=>by simp[hb],fun b k h=>h,x.sh,x.mp,fun _=>rfl⟩
 have hsz':=x.below.size
 obtain⟨k1,k2⟩:=hs.grow x3 (fun _ _ _ h=>h) (fun _ _ h=>h.elim) (fun b hb=>by subst hμ3;exact hs.gdom b hb)
  (fun b hb=>by subst hμ3;simp only;rw[if_neg (by omega)];exact hq.fr0 b hb) (fun b _=>by subst hμ3;rfl)
 have hfull:=hq.tmp 0 r (by simp[look])
 have hv0:(⟨#[v],[]⟩:Act).tmps.getD 0 undef=v:=rfl
 rw[hv0] at hfull
 have hrep:Rep B μ' w' v r∧Tk B μ' w' v r:=by
  cases r with
  | lp d i=>obtain⟨blk,hb,_⟩:=hfull;cases hb
  | _=>exact hfull
 have hout:Res B T w μ3 (fun _=>none) ⟨vs,[]⟩ w' ⟨params 0 as,[],s⟩ v r∧∀d i,r≠.lp d i:=by
  cases r with
  | tup xs =>
   simp only[outOk,List.all_eq_true] at hr
   refine⟨.mk' ⟨?_,fun j c hc=>?_⟩ fun j=>?_,by simp⟩
   ·cases hrep.1 with
    | tup vs' cs hl hh=>exact .tup vs' _ hl fun j c hc=>(qec (hr c (List.mem_of_getElem? hc)) (hh j c hc)).1
   ·cases hrep.1 with
    | tup vs' cs hl hh=>exact qaf (qec (B':=B) (μ':=μ3) (w':=w') (hr c (List.mem_of_getElem? hc)) (hh j c hc)).2.1
   ·cases j with
    | none=>exact qq rfl
    | some j =>
     simp only[ownV]
     cases hc:xs[j]? with
     | none=>rfl
     | some c =>
      simp only[Option.bind_some]
      cases hrep.1 with
      | tup vs' cs hl hh=>exact qq (qec (B':=B) (μ':=μ3) (w':=w') (hr c (List.mem_of_getElem? hc)) (hh j c hc)).2.1
  | sl o xs =>
   cases o with
   | sh=>simp[outOk,qjn,scal] at hr
   | nil=>simp[outOk,qjn,scal] at hr
   | ex ty sz =>
    simp only[outOk,List.all_eq_true] at hr
    have hfr:∀g,w.heap.size≤g→μ3.fr g=μ'.fr g:=fun g hg=>by subst hμ3;simp only;rw[if_neg (by omega)]
    have hrng:∀k,exBlk v (.sl (.ex ty sz) xs)=some k→B≤k∧k<w'.heap.size∧w.heap.size≤k:=fun k hk=>by
     have:=hq.rng (.t 0 none) k (by simp only[own,look,if_true,Option.bind_some];exact hk)
     exact⟨this.1,this.2.1,this.2.2.resolve_left (fun h=>h)⟩
    refine⟨⟨⟨?_,?_⟩,fun j k hk=>?_,fun j j' k e e'=>?_⟩,by simp⟩
    ·have hR:=hrep.1
     cases hR with
     | slnil o=>exact .slnil _
     | sl0 p cap o ho hm=>exact .sl0 _ _ _ ho hm
     | sl b off cap sz' o els f ho hsz hc hm hu hcell hrep' =>
      have hg:=hrng b rfl
      refine .sl b off cap sz' _ xs f ho hsz hc hm hu (fun k hk=>⟨(hcell k hk).1,?_⟩) (fun i j c hc=>?_)
      ·rcases (hcell k hk).2 with h|h
       ·exact .inl h
       ·exact .inr (by rw[hfr b hg.2.2];exact h)
      ·refine qil ?_ (hrep' i j c hc)
       cases hi:xs[i]? with
       | none=>rw[hi] at hc;cases hc
       | some y =>
        rw[hi] at hc
        simp only[Option.bind_some] at hc
        have hy:=hr y (List.mem_of_getElem? hi)
        have hyc:y.cells=[y]:=by cases y<;>first|rfl|simp[scal] at hy
        rw[hyc] at hc
        have:=List.mem_of_getElem? hc
        simp at this;subst this;exact hy
    ·have hT:=hrep.2
     simp only[Tk,Tk1] at hT ⊢
     rcases hT with h|⟨g,cap,cur,e,q1,q2,q3,q4,q5,q6,q7⟩
     ·exact .inl h
     ·have hg:=hrng g (by rw[e];rfl)
      exact .inr ⟨g,cap,cur,e,q1,q2,q3,q4,q5,by rw[hfr g hg.2.2];exact q6,q7⟩
    ·cases j with
     | none =>
      have hg:=hrng k hk
      refine⟨hg.1,hg.2.1,.inr hg.2.2,fun l e=>?_⟩
      rw[k2] at e
      have:=(hs.rng l k e).2.1
      omega
     | some j=>cases hk
    ·cases j<;>cases j'<;>first|rfl|(cases e;done)|(cases e';done)
  | lp d i=>simp[outOk,qjn,scal] at hr
  | _ =>
   have hr':=qec (B':=B) (μ':=μ3) (w':=w') (by simpa only[outOk] using hr) hrep.1
   refine⟨.mk' ⟨hr'.1,?_⟩ fun j=>?_,hr'.2.2.1⟩
   ·simp only[Tk];exact qaf hr'.2.1
   ·cases j with
    | none=>exact qq hr'.2.1
    | some j=>rfl
 exact⟨v,μ3,rfl,k1.out hout.1 hout.2⟩
end
end Go.AI
end
section
namespace Go.AI
open Go.RowKit
set_option linter.unusedVariables false
section
variable {P:Program} {B:Nat} {T0:Nat→Prop} {μ0:Gh} {w0:World} {N:Nat} {μ:Gh} {lx:Nat→Option Nat} {a:Act} {w:World} {st:St} {hh:Hint} {C:Oracle} {W0:World}
theorem qhy {v:Value} {q r:AV} {s s0 s':List (List AV)} {N0:Nat} {a0:Act} {st0:St} {lx0:Nat→Option Nat} (hE:Sim B T0 μ0 w0 N0 μ0 lx0 a0 w0 st0) (hs0:st0.s=s0)
  (h:Sim B T0 μ0 w0 1 μ (fun _=>none) ⟨#[v],[]⟩ w ⟨[(0,q)],[],s⟩) (e:endA P hh s0 (q,s)=some (r,s')):∃μ',Sim B T0 μ0 w0 1 μ' (fun _=>none) ⟨#[v],[]⟩ w ⟨[(0,r)],[],s'⟩:=by
 have hnl:∀d i,q≠.lp d i:=by
  intro d i hq;subst hq
  obtain⟨blk,hb,_⟩:=h.tmp 0 (.lp d i) (by simp[look])
  cases hb
 unfold endA at e
 obtain⟨⟨q1,s1⟩,h1,e⟩:=qa e
 obtain⟨μ1,k1,n1⟩:∃μ',Sim B T0 μ0 w0 1 μ' (fun _=>none) ⟨#[v],[]⟩ w ⟨[(0,q1)],[],s1⟩∧∀d i,q1≠.lp d i:=by
  split at h1
  ·simp only[Option.some.injEq,Prod.mk.injEq] at h1
   obtain⟨rfl,rfl⟩:=h1
   exact⟨μ,h,hnl⟩
  ·exact freezeT_sound h hnl h1
 simp only at e
 obtain⟨q2,hq2,k2,n2⟩:∃q2,q2=(if hh.wk then weakT q1 else q1)∧Sim B T0 μ0 w0 1 μ1 (fun _=>none) ⟨#[v],[]⟩ w ⟨[(0,q2)],[],s1⟩∧∀d i,q2≠.lp d i:=by
  split
  ·exact⟨_,rfl,qli k1 n1⟩
  ·exact⟨_,rfl,k1,n1⟩
 rw[← hq2] at e
 split at e
 ·obtain⟨⟨p1,p2⟩,e⟩:=qn e
  simp only[Option.some.injEq,Prod.mk.injEq] at e
  obtain⟨rfl,rfl⟩:=e
  exact⟨_,hE.gc hs0 k2 n2 p1 p2⟩
 ·simp only[Option.some.injEq,Prod.mk.injEq] at e
  obtain⟨rfl,rfl⟩:=e
  exact⟨_,k2⟩
theorem finE_eq {fn:Func} {s0:List (List AV)} {x:Option (Ex×St)} {r:AV×List (List AV)} (h:finE P hh s0 fn x=some r):∃e st,x=some (e,st)∧(e=.normal∨e=.ret)∧bnd (outA P hh fn st) (endA P hh s0)=some r:=by
 unfold finE at h
 split at h
 ·exact⟨_,_,rfl,.inl rfl,h⟩
 ·exact⟨_,_,rfl,.inr rfl,h⟩
 ·cases h
theorem qtg (f:Nat) (h:900000≤f):(f-900000)%100000=f%100000:=by omega
theorem qth {H:FuncId→Hint} {T:Table} (hT:TableOk P B W0 T) (hD:∀n f,DrawOk P B W0 (H f) (ev P H T n)):∀n,OracleOk P B W0 (ev P H T n):=by
 intro n
 induction n with
 | zero=>intro f as s r s' e;cases e
 | succ n ih =>
  intro f as s r s' e
  simp only[ev] at e
  split at e
  ·rename_i p hp;exact hT f p hp as s r s' e
  split at e
  ·rename_i h9
   unfold brwE at e
   obtain⟨bs,hb,e⟩:=qa e
   obtain⟨⟨r1,s1⟩,hc,e⟩:=qa e
   split at e
   ·rename_i ho
    simp only[Option.some.injEq,Prod.mk.injEq] at e
    obtain⟨rfl,rfl⟩:=e
    have hbase:AI.base (f-900000)=AI.base f:=qtg f h9
    obtain⟨h1,h2⟩:=ih _ _ _ _ _ hc
    rw[hbase] at h1 h2
    exact⟨h1,qpz hb ho h2⟩
   ·cases e
  ·obtain⟨fn,hf,e⟩:=qa e
   obtain⟨c,hc,e⟩:=qa e
   split at e
   ·rename_i hok
    obtain⟨h1,h2,h3⟩:=hok
    refine⟨⟨fn,hf,by rw[hc];rfl,h3⟩,?_⟩
    obtain⟨x,st,hx,hxe,ho⟩:=finE_eq e
    obtain⟨⟨q,sq⟩,ho,he⟩:=qa ho
    intro T0 μ w vs hsz hW hs
    refine calls_of_wp hf hc ?_
    have hw:=hs.wide hsz (n:=fn.ntmps) (by omega)
    refine (qas (T0:=T0) (μ0:=μ) (w0:=w) hW ih (hD n f) n c _ hw h2 hx ?_).1
    intro μ' lx' a' w' hs'
    obtain⟨v,hv,ho⟩:=qe0 hs' hs.mdf ho
    obtain⟨μ2,ho2⟩:=qhy hs rfl ho he
    rcases hxe with rfl|rfl
    ·exact⟨hs'.defs.trans hs.mdf,v,hv,v,μ2,rfl,ho2⟩
    ·exact⟨hs'.defs.trans hs.mdf,v,hv,v,μ2,rfl,ho2⟩
   ·cases e
end
end Go.AI
end
section
namespace Go.AI
set_option linter.unusedVariables false
def Cle (C C':Oracle):Prop:=∀f as s r,C f as s=some r→C' f as s=some r
section
variable {P:Program} {hh:Hint} {C C':Oracle}
theorem qcn (hC:Cle C C') {o:Oper} {st st':St} (e:stepOp P hh C o st=some st'):stepOp P hh C' o st=some st':=by
 obtain⟨d,op,T,pos,af,g⟩:=o
 cases op with
 | call c =>
  obtain⟨callee,xs,ts⟩:=c
  cases callee with
  | value f =>
   simp only[stepOp] at e ⊢
   obtain⟨p,hp,e⟩:=qa e
   split at hp
   ·rename_i hm;rw[if_pos hm,hp];exact e
   ·rename_i hm
    rw[if_neg hm]
    simp only[opVal,callA] at hp ⊢
    obtain⟨gv,hg,hp⟩:=qa hp
    rw[hg]
    simp only[bnd]
    split at hp
    ·split at hp
     ·rename_i hlt
      rw[if_pos hlt]
      obtain⟨us,hu,hp⟩:=qa hp
      obtain⟨vs,hv,hp⟩:=qa hp
      obtain⟨q,hq,hp⟩:=qa hp
      obtain⟨r,hr,hp⟩:=qa hp
      simp only[hu,hv,hq,bnd,hC _ _ _ _ hr]
      injection hp with hp;subst hp
      exact e
     ·cases hp
    ·split at hp
     ·rename_i hlt
      rw[if_pos hlt]
      obtain⟨us,hu,hp⟩:=qa hp
      obtain⟨vs,hv,hp⟩:=qa hp
      obtain⟨r,hr,hp⟩:=qa hp
      simp only[hu,hv,bnd,hC _ _ _ _ hr]
      injection hp with hp;subst hp
      exact e
     ·cases hp
    ·cases hp
  | invoke rv m =>
   simp only[stepOp] at e ⊢
   obtain⟨p,hp,e⟩:=qa e
   split at hp
   ·rename_i hm;rw[if_pos hm,hp];exact e
   ·rename_i hm
    rw[if_neg hm]
    simp only[opVal,callA] at hp ⊢
    obtain⟨gv,hg,hp⟩:=qa hp
    rw[hg]
    simp only[bnd]
    split at hp
    ·obtain⟨gf,hi,hp⟩:=qa hp
     split at hp
     ·rename_i hlt
      obtain⟨hme,hp⟩:=qn hp
      obtain⟨us,hu,hp⟩:=qa hp
      obtain⟨vs,hv,hp⟩:=qa hp
      obtain⟨r,hr,hp⟩:=qa hp
      simp only[hi,if_pos hlt,need,if_pos hme,hu,hv,bnd,hC _ _ _ _ hr]
      injection hp with hp;subst hp
      exact e
     ·cases hp
    ·cases hp
  | builtin b=>cases b<;>exact e
 | makeFunc fn x y=>cases fn<;>exact e
 | _=>exact e
theorem qm7 {α:Type} {c:Option Bool} {x y:Option α} {r:α} (h:sel c x y=some r):(c=some true∧x=some r)∨(c=some false∧y=some r):=by
 unfold sel at h
 split at h
 ·exact .inl ⟨rfl,h⟩
 ·exact .inr ⟨rfl,h⟩
 ·cases h
theorem qgc (hC:Cle C C') (ops:List Oper):∀(r:List Oper) {st st':St},runOps P hh C ops r st=some st'→runOps P hh C' ops r st=some st':=by
 intro r
 induction r with
 | nil=>intro st st' e;exact e
 | cons o r ih =>
  intro st st' e
  simp only[runOps] at e ⊢
  rcases qm7 e with ⟨h1,e⟩|⟨h1,e⟩
  ·obtain⟨st1,h2,e⟩:=qa e
   rw[h1,qcn hC h2];exact ih e
  ·rw[h1];exact ih e
theorem qj1 (hC:Cle C C') (ds:List Nat) (ops:List Oper):∀(r:List Oper) {st st':St},runD P hh C ds ops r st=some st'→runD P hh C' ds ops r st=some st':=by
 intro r
 induction r with
 | nil=>intro st st' e;exact e
 | cons o r ih =>
  intro st st' e
  simp only[runD] at e ⊢
  rcases qm7 e with ⟨h1,e⟩|⟨h1,e⟩
  ·obtain⟨st1,h2,e⟩:=qa e
   obtain⟨h3,e⟩:=qn e
   split at h2
   ·rename_i hp
    split at e
    ·rename_i hq
     rw[h1,if_pos hp,qcn hC h2]
     simp only[sel,bnd,need]
     rw[if_pos h3,if_pos hq]
     exact ih e
    ·cases e
   ·cases h2
  ·rw[h1]
   split at e
   ·rename_i hq;simp only[sel,hq,if_true];exact ih e
   ·cases e
theorem qj2 (hC:Cle C C') {ops:List Oper} {draw:Bool} {st st':St} (e:regionA P hh C ops draw st=some st'):regionA P hh C' ops draw st=some st':=by
 unfold regionA at e ⊢
 split at e
 ·rename_i hd;rw[if_pos hd];exact qj1 hC _ _ _ e
 ·rename_i hd;rw[if_neg hd];exact qgc hC _ _ e
theorem qfp {α:Type} {c:Option AV} {x y:Option α} {r:α} (h:condE c x y=some r):(c=some (.bool true)∧x=some r)∨(c=some (.bool false)∧y=some r):=by
 unfold condE at h
 split at h
 ·exact .inl ⟨rfl,h⟩
 ·exact .inr ⟨rfl,h⟩
 ·cases h
theorem qal (hC:Cle C C') (m:Nat) (c:Code) (st:St):∀{m':Nat} {r:Ex×St},m≤m'→exec P hh C m c st=some r→exec P hh C' m' c st=some r:=by
 induction m,c,st using exec.induct (h:=hh) with
 | case1 m st=>intro m' r hm e;rw[exec] at e ⊢;exact e
 | case2 m st=>intro m' r hm e;rw[exec] at e ⊢;exact e
 | case3 m id st=>intro m' r hm e;rw[exec] at e ⊢;exact e
 | case4 m id ops draw st =>
  intro m' r hm e;rw[exec] at e ⊢
  obtain⟨st1,h1,e⟩:=qa e
  rw[qj2 hC h1];exact e
 | case5 m x y st ih1 ih2 =>
  intro m' r hm e;rw[exec] at e ⊢
  rcases thenE_eq e with ⟨st1,h1,h2⟩|⟨h1,hn⟩
  ·rw[ih1 hm h1];exact ih2 st1 hm h2
  ·rw[ih1 hm h1];rw[h1] at e;exact (by obtain⟨x,s⟩:=r;cases x<;>first|rfl|exact absurd rfl hn)
 | case6 m c x y st ih1 ih2 =>
  intro m' r hm e;rw[exec] at e ⊢
  rcases qfp e with ⟨h1,h2⟩|⟨h1,h2⟩
  ·rw[h1];exact ih1 hm h2
  ·rw[h1];exact ih2 hm h2
 | case7 m id c st ih =>
  intro m' r hm e;rw[exec] at e ⊢
  cases hx:exec P hh C m c st with
  | none=>rw[hx] at e;cases e
  | some x=>rw[hx] at e;rw[ih hm hx];exact e
 | case8 c st=>intro m' r hm e;rw[exec] at e;cases e
 | case9 m c st ih1 ih2 =>
  intro m' r hm e
  obtain⟨m',rfl⟩:∃k,m'=k+1:=⟨m'-1,by omega⟩
  rw[exec] at e ⊢
  rcases thenE_eq e with ⟨st1,h1,h2⟩|⟨h1,hn⟩
  ·rw[ih1 (by omega) h1];exact ih2 st1 (by omega) h2
  ·rw[ih1 (by omega) h1];exact (by obtain⟨x,s⟩:=r;cases x<;>first|rfl|exact absurd rfl hn)
 | case10 m c st h1 h2 h3 h4 h5 h6 h7 h8 h9=>intro m' r hm e;cases c<;>cases m<;>first|(simp[exec] at e;done)|(simp_all;done)
open Classical in
noncomputable def lim {α:Type} (g:Nat→Option α):Option α:=if h:∃r n,g n=some r then some h.choose else none
theorem qp0 {α:Type} {g:Nat→Option α} (hg:∀n m r,n≤m→g n=some r→g m=some r) (r:α):lim g=some r↔∃n,g n=some r:=by
 unfold lim
 constructor
 ·intro h
  split at h
  ·rename_i hx
   injection h with h
   rw[← h];exact hx.choose_spec
  ·cases h
 ·rintro⟨n,hn⟩
  have hx:∃r n,g n=some r:=⟨r,n,hn⟩
  rw[dif_pos hx]
  obtain⟨k,hk⟩:=hx.choose_spec
  have h1:=hg k (max k n) _ (by omega) hk
  have h2:=hg n (max k n) _ (by omega) hn
  rw[h1] at h2
  exact h2
noncomputable def EXEC (P:Program) (h:Hint) (C:Oracle) (c:Code) (st:St):Option (Ex×St):=lim fun m=>exec P h C m c st
theorem qt {c:Code} {st:St} (r:Ex×St):EXEC P hh C c st=some r↔∃m,exec P hh C m c st=some r :=
 qp0 (fun n m r hn e=>qal (fun _ _ _ _ h=>h) n c st hn e) r
theorem qd6 {α:Type} {x y:Option α} (h:∀r,x=some r↔y=some r):x=y:=by
 cases x with
 | some r=>exact ((h r).1 rfl).symm
 | none=>cases y with
  | none=>rfl
  | some r=>exact (h r).2 rfl
theorem qp1 (st:St):EXEC P hh C .skip st=some (.normal,st):=(qt _).2 ⟨0,by rw[exec]⟩
theorem qti (st:St):EXEC P hh C .ret st=some (.ret,st):=(qt _).2 ⟨0,by rw[exec]⟩
theorem qp2 (id:Nat) (st:St):EXEC P hh C (.exit id) st=some (.exit id,st):=(qt _).2 ⟨0,by rw[exec]⟩
theorem qlj (id:Nat) (ops:Array Oper) (draw:Bool) (st:St) :
  EXEC P hh C (.region id ops draw) st=bnd (regionA P hh C ops.toList draw (clean0 hh st)) fun st=>some (.normal,clean1 hh st) :=
 qd6 fun r=>by
  rw[qt]
  exact⟨fun ⟨m,e⟩=>by rwa [exec] at e,fun e=>⟨0,by rwa [exec]⟩⟩
theorem thenE_mk {x:Option (Ex×St)} {k:St→Option (Ex×St)} {r:Ex×St} (h:(∃st,x=some (.normal,st)∧k st=some r)∨(x=some r∧r.1≠.normal)):thenE x k=some r:=by
 rcases h with ⟨st,rfl,h⟩|⟨rfl,hn⟩
 ·exact h
 ·obtain⟨x,s⟩:=r;cases x<;>first|rfl|exact absurd rfl hn
theorem qtj (a b:Code) (st:St):EXEC P hh C (.seq a b) st=thenE (EXEC P hh C a st) (EXEC P hh C b) :=
 qd6 fun r=>by
  rw[qt]
  constructor
  ·rintro⟨m,e⟩
   rw[exec] at e
   rcases thenE_eq e with ⟨st1,h1,h2⟩|⟨h1,hn⟩
   ·exact thenE_mk (.inl ⟨st1,(qt _).2 ⟨m,h1⟩,(qt _).2 ⟨m,h2⟩⟩)
   ·exact thenE_mk (.inr ⟨(qt _).2 ⟨m,h1⟩,hn⟩)
  ·intro e
   rcases thenE_eq e with ⟨st1,h1,h2⟩|⟨h1,hn⟩
   ·obtain⟨m,h1⟩:=(qt _).1 h1
    obtain⟨n,h2⟩:=(qt _).1 h2
    refine⟨max m n,?_⟩
    rw[exec]
    exact thenE_mk (.inl ⟨st1,qal (fun _ _ _ _ h=>h) _ _ _ (by omega) h1,qal (fun _ _ _ _ h=>h) _ _ _ (by omega) h2⟩)
   ·obtain⟨m,h1⟩:=(qt _).1 h1
    exact⟨m,by rw[exec];exact thenE_mk (.inr ⟨h1,hn⟩)⟩
theorem qp3 (c:Operand) (x y:Code) (st:St):EXEC P hh C (.cond c x y) st=condE (aeval st c) (EXEC P hh C x st) (EXEC P hh C y st) :=
 qd6 fun r=>by
  rw[qt]
  constructor
  ·rintro⟨m,e⟩
   rw[exec] at e
   rcases qfp e with ⟨h1,h2⟩|⟨h1,h2⟩
   ·rw[h1];exact (qt _).2 ⟨m,h2⟩
   ·rw[h1];exact (qt _).2 ⟨m,h2⟩
  ·intro e
   rcases qfp e with ⟨h1,h2⟩|⟨h1,h2⟩
   ·obtain⟨m,h2⟩:=(qt _).1 h2;exact⟨m,by rw[exec,h1];exact h2⟩
   ·obtain⟨m,h2⟩:=(qt _).1 h2;exact⟨m,by rw[exec,h1];exact h2⟩
theorem qog (id:Nat) (c:Code) (st:St):EXEC P hh C (.block id c) st=blkE id (EXEC P hh C c st) :=
 qd6 fun r=>by
  rw[qt]
  constructor
  ·rintro⟨m,e⟩
   rw[exec] at e
   cases hx:exec P hh C m c st with
   | none=>rw[hx] at e;cases e
   | some x=>rw[(qt x).2 ⟨m,hx⟩,← hx];exact e
  ·intro e
   cases hx:EXEC P hh C c st with
   | none=>rw[hx] at e;cases e
   | some x=>obtain⟨m,h1⟩:=(qt x).1 hx;exact⟨m,by rw[exec,h1,← hx];exact e⟩
theorem qp4 (c:Code) (st:St):EXEC P hh C (.loop c) st=thenE (EXEC P hh C c (head hh (rid c) st)) (EXEC P hh C (.loop c)) :=
 qd6 fun r=>by
  rw[qt]
  constructor
  ·rintro⟨m,e⟩
   cases m with
   | zero=>rw[exec] at e;cases e
   | succ m =>
    rw[exec] at e
    rcases thenE_eq e with ⟨st1,h1,h2⟩|⟨h1,hn⟩
    ·exact thenE_mk (.inl ⟨st1,(qt _).2 ⟨m,h1⟩,(qt _).2 ⟨m,h2⟩⟩)
    ·exact thenE_mk (.inr ⟨(qt _).2 ⟨m,h1⟩,hn⟩)
  ·intro e
   rcases thenE_eq e with ⟨st1,h1,h2⟩|⟨h1,hn⟩
   ·obtain⟨m,h1⟩:=(qt _).1 h1
    obtain⟨n,h2⟩:=(qt _).1 h2
    refine⟨max m n+1,?_⟩
    rw[exec]
    exact thenE_mk (.inl ⟨st1,qal (fun _ _ _ _ h=>h) _ _ _ (by omega) h1,qal (fun _ _ _ _ h=>h) _ _ _ (by omega) h2⟩)
   ·obtain⟨m,h1⟩:=(qt _).1 h1
    exact⟨m+1,by rw[exec];exact thenE_mk (.inr ⟨h1,hn⟩)⟩
variable {H:FuncId→Hint} {T:Table}
theorem qtk:∀n,Cle (ev P H T n) (ev P H T (n+1)):=by
 intro n
 induction n with
 | zero=>intro f as s r e;cases e
 | succ n ih =>
  intro f as s r e
  rw[ev] at e ⊢
  split at e
  ·exact e
  split at e
  ·rename_i h9
   rw[if_pos h9]
   unfold brwE at e ⊢
   obtain⟨bs,hb,e⟩:=qa e
   obtain⟨r1,hc,e⟩:=qa e
   rw[hb,bnd,ih _ _ _ _ hc];exact e
  ·rename_i h9
   rw[if_neg h9]
   obtain⟨fn,hf,e⟩:=qa e
   obtain⟨c,hc,e⟩:=qa e
   simp only[hf,hc,bnd]
   split at e
   ·rename_i hok
    rw[if_pos hok]
    obtain⟨x,st,hx,hxe,ho⟩:=finE_eq e
    rw[qal ih n c _ (Nat.le_succ n) hx]
    rcases hxe with rfl|rfl<;>exact ho
   ·cases e
theorem qb7 {n m : Nat} (h : n ≤ m) : Cle (ev P H T n) (ev P H T m) := by
  induction m with
  | zero => obtain rfl : n = 0 := by omega
            exact fun _ _ _ _ h => h
  | succ m ih =>
    by_cases hn : n = m + 1
    · subst hn; exact fun _ _ _ _ h => h
    · exact fun f as s r e => qtk m f as s r (ih (by omega) f as s r e)
noncomputable def EV (P:Program) (H:FuncId→Hint) (T:Table):Oracle:=fun f as s=>lim fun n=>ev P H T n f as s
theorem qc6 {f:FuncId} {as:List AV} {s:List (List AV)} (r:AV×List (List AV)):EV P H T f as s=some r↔∃n,ev P H T n f as s=some r :=
 qp0 (fun n m r hn e=>qb7 hn f as s r e) r
theorem EV_le (n:Nat):Cle (ev P H T n) (EV P H T):=fun f as s r e=>(qc6 r).2 ⟨n,e⟩
theorem qgd {o:Oper} {st st':St} (e:stepOp P hh (EV P H T) o st=some st'):∃n,stepOp P hh (ev P H T n) o st=some st':=by
 obtain⟨d,op,t,pos,af,g⟩:=o
 cases op with
 | call c =>
  obtain⟨callee,xs,ts⟩:=c
  cases callee with
  | value f =>
   simp only[stepOp] at e ⊢
   obtain⟨p,hp,e⟩:=qa e
   split at hp
   ·rename_i hm;refine⟨0,?_⟩;rw[if_pos hm,hp];exact e
   ·rename_i hm
    simp only[if_neg hm]
    simp only[opVal,callA] at hp ⊢
    obtain⟨gv,hg,hp⟩:=qa hp
    rw[hg]
    simp only[bnd]
    split at hp
    ·split at hp
     ·rename_i hlt
      obtain⟨us,hu,hp⟩:=qa hp
      obtain⟨vs,hv,hp⟩:=qa hp
      obtain⟨q,hq,hp⟩:=qa hp
      obtain⟨r,hr,hp⟩:=qa hp
      obtain⟨n,hr⟩:=(qc6 _).1 hr
      refine⟨n,?_⟩
      rw[if_pos hlt]
      simp only[hu,hv,hq,bnd,hr]
      injection hp with hp;subst hp
      exact e
     ·cases hp
    ·split at hp
     ·rename_i hlt
      obtain⟨us,hu,hp⟩:=qa hp
      obtain⟨vs,hv,hp⟩:=qa hp
      obtain⟨r,hr,hp⟩:=qa hp
      obtain⟨n,hr⟩:=(qc6 _).1 hr
      refine⟨n,?_⟩
      rw[if_pos hlt]
      simp only[hu,hv,bnd,hr]
      injection hp with hp;subst hp
      exact e
     ·cases hp
    ·cases hp
  | invoke rv m =>
   simp only[stepOp] at e ⊢
   obtain⟨p,hp,e⟩:=qa e
   split at hp
   ·rename_i hm;refine⟨0,?_⟩;rw[if_pos hm,hp];exact e
   ·rename_i hm
    simp only[if_neg hm]
    simp only[opVal,callA] at hp ⊢
    obtain⟨gv,hg,hp⟩:=qa hp
    rw[hg]
    simp only[bnd]
    split at hp
    ·obtain⟨gf,hi,hp⟩:=qa hp
     split at hp
     ·rename_i hlt
      obtain⟨hme,hp⟩:=qn hp
      obtain⟨us,hu,hp⟩:=qa hp
      obtain⟨vs,hv,hp⟩:=qa hp
      obtain⟨r,hr,hp⟩:=qa hp
      obtain⟨n,hr⟩:=(qc6 _).1 hr
      refine⟨n,?_⟩
      simp only[hi,if_pos hlt,need,if_pos hme,hu,hv,bnd,hr]
      injection hp with hp;subst hp
      exact e
     ·cases hp
    ·cases hp
  | builtin b=>cases b<;>exact⟨0,e⟩
 | makeFunc fn x y=>cases fn<;>exact⟨0,e⟩
 | _=>exact⟨0,e⟩
theorem qlk (ops:List Oper):∀(r:List Oper) {st st':St},runOps P hh (EV P H T) ops r st=some st'→∃n,runOps P hh (ev P H T n) ops r st=some st':=by
 intro r
 induction r with
 | nil=>intro st st' e;exact⟨0,e⟩
 | cons o r ih =>
  intro st st' e
  simp only[runOps] at e
  rcases qm7 e with ⟨h1,e⟩|⟨h1,e⟩
  ·obtain⟨st1,h2,e⟩:=qa e
   obtain⟨n,h2⟩:=qgd h2
   obtain⟨m,e⟩:=ih e
   refine⟨max n m,?_⟩
   simp only[runOps]
   rw[h1,qcn (qb7 (by omega)) h2]
   exact qgc (qb7 (by omega)) _ _ e
  ·obtain⟨m,e⟩:=ih e
   exact⟨m,by simp only[runOps];rw[h1];exact e⟩
theorem qp5 (ds:List Nat) (ops:List Oper):∀(r:List Oper) {st st':St},runD P hh (EV P H T) ds ops r st=some st'→∃n,runD P hh (ev P H T n) ds ops r st=some st':=by
 intro r
 induction r with
 | nil=>intro st st' e;exact⟨0,e⟩
 | cons o r ih =>
  intro st st' e
  simp only[runD] at e
  rcases qm7 e with ⟨h1,e⟩|⟨h1,e⟩
  ·obtain⟨st1,h2,e⟩:=qa e
   obtain⟨h3,e⟩:=qn e
   split at h2
   ·rename_i hp
    split at e
    ·rename_i hq
     obtain⟨n,h2⟩:=qgd h2
     obtain⟨m,e⟩:=ih e
     refine⟨max n m,?_⟩
     simp only[runD]
     rw[h1,if_pos hp,qcn (qb7 (by omega)) h2]
     simp only[sel,bnd,need]
     rw[if_pos h3,if_pos hq]
     exact qj1 (qb7 (by omega)) _ _ _ e
    ·cases e
   ·cases h2
  ·split at e
   ·rename_i hq
    obtain⟨m,e⟩:=ih e
    exact⟨m,by simp only[runD];rw[h1];simp only[sel,hq,if_true];exact e⟩
   ·cases e
theorem qj3 {ops:List Oper} {draw:Bool} {st st':St} (e:regionA P hh (EV P H T) ops draw st=some st'):∃n,regionA P hh (ev P H T n) ops draw st=some st':=by
 unfold regionA at e ⊢
 cases draw with
 | true=>exact qp5 _ _ _ e
 | false=>exact qlk _ _ e
theorem qp6 (m:Nat) (c:Code) (st:St):∀{r:Ex×St},exec P hh (EV P H T) m c st=some r→∃n,exec P hh (ev P H T n) m c st=some r:=by
 induction m,c,st using exec.induct (h:=hh) with
 | case1 m st=>intro r e;exact⟨0,by rw[exec] at e ⊢;exact e⟩
 | case2 m st=>intro r e;exact⟨0,by rw[exec] at e ⊢;exact e⟩
 | case3 m id st=>intro r e;exact⟨0,by rw[exec] at e ⊢;exact e⟩
 | case4 m id ops draw st =>
  intro r e;rw[exec] at e
  obtain⟨st1,h1,e⟩:=qa e
  obtain⟨n,h1⟩:=qj3 h1
  exact⟨n,by rw[exec,h1];exact e⟩
 | case5 m x y st ih1 ih2 =>
  intro r e;rw[exec] at e
  rcases thenE_eq e with ⟨st1,h1,h2⟩|⟨h1,hn⟩
  ·obtain⟨n,h1⟩:=ih1 h1
   obtain⟨k,h2⟩:=ih2 st1 h2
   exact⟨max n k,by rw[exec];exact thenE_mk (.inl ⟨st1,qal (qb7 (by omega)) _ _ _ (Nat.le_refl _) h1,qal (qb7 (by omega)) _ _ _ (Nat.le_refl _) h2⟩)⟩
  ·obtain⟨n,h1⟩:=ih1 h1
   exact⟨n,by rw[exec];exact thenE_mk (.inr ⟨h1,hn⟩)⟩
 | case6 m c x y st ih1 ih2 =>
  intro r e;rw[exec] at e
  rcases qfp e with ⟨h1,h2⟩|⟨h1,h2⟩
  ·obtain⟨n,h2⟩:=ih1 h2;exact⟨n,by rw[exec,h1];exact h2⟩
  ·obtain⟨n,h2⟩:=ih2 h2;exact⟨n,by rw[exec,h1];exact h2⟩
 | case7 m id c st ih =>
  intro r e;rw[exec] at e
  cases hx:exec P hh (EV P H T) m c st with
  | none=>rw[hx] at e;cases e
  | some x=>obtain⟨n,h1⟩:=ih hx;exact⟨n,by rw[exec,h1,← hx];exact e⟩
 | case8 c st=>intro r e;rw[exec] at e;cases e
 | case9 m c st ih1 ih2 =>
  intro r e;rw[exec] at e
  rcases thenE_eq e with ⟨st1,h1,h2⟩|⟨h1,hn⟩
  ·obtain⟨n,h1⟩:=ih1 h1
   obtain⟨k,h2⟩:=ih2 st1 h2
   exact⟨max n k,by rw[exec];exact thenE_mk (.inl ⟨st1,qal (qb7 (by omega)) _ _ _ (Nat.le_refl _) h1,qal (qb7 (by omega)) _ _ _ (Nat.le_refl _) h2⟩)⟩
  ·obtain⟨n,h1⟩:=ih1 h1
   exact⟨n,by rw[exec];exact thenE_mk (.inr ⟨h1,hn⟩)⟩
 | case10 m c st h1 h2 h3 h4 h5 h6 h7 h8 h9=>intro r e;cases c<;>cases m<;>first|(simp[exec] at e;done)|(simp_all;done)
noncomputable def body (P:Program) (H:FuncId→Hint) (C:Oracle) (fn:Func) (f:FuncId) (as:List AV) (s:List (List AV)):Option (AV×List (List AV)) :=
 bnd fn.body fun c=>if as.length≤fn.ntmps∧codeOk (H f) fn.ntmps c=true∧(fn.name== "runtime.NumGoroutine")=false then finE P (H f) s fn (EXEC P (H f) C c ⟨params 0 as,[],s⟩) else none
theorem qz4 {f:FuncId} {as bs:List AV} {s s':List (List AV)} {r:AV} (hT:T (900000+f)=none) (hb:mapO (flatV s 8) as=some bs) (h:EV P H T f bs []=some (r,s')) (ho:outOk r=true):EV P H T (900000+f) as s=some (r,s):=by
 obtain⟨n,e⟩:=(qc6 _).1 h
 refine (qc6 _).2 ⟨n+1,?_⟩
 rw[ev,hT]
 simp only
 rw[if_pos (Nat.le_add_right _ _),Nat.add_sub_cancel_left]
 unfold brwE
 rw[hb,bnd,e,bnd,if_pos ho]
theorem qwy {f:FuncId} {fn:Func} (hT:T f=none) (h9:f<900000) (hf:P.funcs[AI.base f]? = some fn) (as:List AV) (s:List (List AV)):EV P H T f as s=body P H (EV P H T) fn f as s :=
 qd6 fun r=>by
  rw[qc6]
  unfold body
  constructor
  ·rintro⟨n,e⟩
   cases n with
   | zero=>cases e
   | succ n =>
    rw[ev,hT] at e
    simp only[if_neg (Nat.not_le.2 h9)] at e
    simp only[hf,bnd] at e
    obtain⟨c,hc,e⟩:=qa (x:=fn.body) e
    rw[hc]
    simp only[bnd]
    split at e
    ·rename_i hok
     rw[if_pos hok]
     obtain⟨x,st,hx,hxe,ho⟩:=finE_eq e
     rw[(qt (x,st)).2 ⟨n,qal (EV_le n) n c _ (Nat.le_refl n) hx⟩]
     rcases hxe with rfl|rfl<;>exact ho
    ·cases e
  ·intro e
   obtain⟨c,hc,e⟩:=qa e
   split at e
   ·rename_i hok
    obtain⟨x,st,hx,hxe,ho⟩:=finE_eq e
    obtain⟨m,hx⟩:=(qt _).1 hx
    obtain⟨n,hx⟩:=qp6 _ _ _ hx
    refine⟨max m n+1,?_⟩
    rw[ev,hT]
    simp only[if_neg (Nat.not_le.2 h9)]
    simp only[hf,hc,bnd]
    rw[if_pos hok,qal (qb7 (by omega)) _ _ _ (by omega:m≤max m n) hx]
    rcases hxe with rfl|rfl<;>exact ho
   ·cases e
theorem qao {f:FuncId} {p} (hT:T f=some p) (as:List AV) (s:List (List AV)):EV P H T f as s=p as s :=
 qd6 fun r=>by
  rw[qc6]
  constructor
  ·rintro⟨n,e⟩
   cases n with
   | zero=>cases e
   | succ n=>rw[ev,hT] at e;exact e
  ·intro e;exact⟨1,by rw[ev,hT];exact e⟩
theorem qim {B:Nat} {W0:World} (hT:TableOk P B W0 T) (hD:∀n f,DrawOk P B W0 (H f) (ev P H T n)):OracleOk P B W0 (EV P H T):=by
 intro f as s r s' e
 obtain⟨n,e⟩:=(qc6 _).1 e
 exact qth hT hD n f as s r s' e
end
end Go.AI
end
section
namespace Go.AI
set_option linter.unusedVariables false
section
variable {P:Program} {hh:Hint} {C:Oracle}
theorem qc7 {st st2:St}:∀{l:List Operand},(∀x∈l,aeval st2 x=aeval st x)→aevals st2 l=aevals st l:=by
 intro l
 induction l with
 | nil=>intro _;rfl
 | cons x r ih=>intro h;simp only[aevals,h x (by simp),ih fun y hy=>h y (by simp[hy])]
theorem qin {st st2:St}:∀{l:List (Nat×Operand)},(∀x∈l.map (·.2),aeval st2 x=aeval st x)→parts st2 l=parts st l:=by
 intro l
 induction l with
 | nil=>intro _;rfl
 | cons x r ih=>intro h;obtain⟨i,x⟩:=x;simp only[parts,h x (by simp),ih fun y hy=>h y (List.mem_cons_of_mem _ hy)]
theorem qge {st st2:St} {x:Option Operand} (h:∀y,x=some y→aeval st2 y=aeval st y):aevalO st2 x=aevalO st x:=by
 cases x with
 | none=>rfl
 | some y=>simp only[aevalO,h y rfl]
theorem qp7 {st st2:St} {b:Builtin} {c:Call} (h:∀x∈c.args.toList,aeval st2 x=aeval st x):builtP P b c st2=builtP P b c st:=by
 cases b with
 | len =>
  simp only[builtP]
  split
  ·rename_i x t hx ht
   rw[h x (by rw[hx];simp)]
  ·rfl
 | min =>
  simp only[builtP]
  split
  ·rename_i x y hx
   rw[h x (by rw[hx];simp),h y (by rw[hx];simp)]
  ·rfl
 | max =>
  simp only[builtP]
  split
  ·rename_i x y hx
   rw[h x (by rw[hx];simp),h y (by rw[hx];simp)]
  ·rename_i x y z q hx
   rw[h x (by rw[hx];simp),h y (by rw[hx];simp),h z (by rw[hx];simp),h q (by rw[hx];simp)]
  ·rfl
 | _=>rfl
def boxAt (st:St) (o:Oper):Option Nat :=
 match o.op with
 | .load _ a=>match aeval st a with
  | some (.lp d _)=>some d
  | _=>none
 | .store _ a _=>match aeval st a with
  | some (.lp d _)=>some d
  | _=>none
 | _=>none
theorem qwz {o:Oper} {st st2:St} (h:∀x∈o.op.operands,aeval st2 x=aeval st x) (hs:∀t x,o.op=.load t x→∀b i sh,aeval st x=some (.gp b i sh)→st2.s=st.s) (hb:∀d,boxAt st o=some d→look st2.l d=look st.l d):opPure P hh o st2=opPure P hh o st:=by
 obtain⟨d,op,T,pos,af,g⟩:=o
 cases op with
 | pick c a b =>
  simp only[Op.operands] at h
  simp only[opPure,h c (by simp)]
  cases aeval st c with
  | none=>rfl
  | some v =>
   cases v with
   | bool t=>simp only[bnd];cases t<;>simp[h a (by simp),h b (by simp)]
   | _=>rfl
 | build t ps=>simp only[Op.operands] at h;simp only[opPure,qin (l:=ps.toList) (fun x hx=>h x (by simpa using hx))]
 | buildSlice t n ps=>simp only[Op.operands] at h;simp only[opPure,qin (l:=ps.toList) (fun x hx=>h x (by simpa using hx))]
 | load t x =>
  simp only[Op.operands] at h
  simp only[opPure,h x (by simp)]
  cases hx:aeval st x with
  | none=>rfl
  | some v =>
   simp only[bnd]
   have:boxOf st2 v=boxOf st v:=by
    cases v with
    | lp d i=>simp only[boxOf,hb d (by simp only[boxAt,hx])]
    | gp b i sh=>simp only[boxOf,hs t x rfl b i sh hx]
    | _=>rfl
   rw[this]
 | nilCheck x=>simp only[Op.operands] at h;simp only[opPure,h x (by simp)]
 | binOp op t x y t'=>simp only[Op.operands] at h;simp only[opPure,h x (by simp),h y (by simp)]
 | unOp op t x=>simp only[Op.operands] at h;simp only[opPure,h x (by simp)]
 | convert s t x=>simp only[Op.operands] at h;simp only[opPure,h x (by simp)]
 | makeInterface t x=>simp only[Op.operands] at h;simp only[opPure,h x (by simp)]
 | makeFunc fn first cap =>
  simp only[Op.operands] at h
  cases fn with
  | func f=>simp only[opPure,qc7 (l:=cap.toList) (fun x hx=>h x (by simp at hx;simp[hx])),qc7 (l:=first.toList) (fun x hx=>h x (by simp at hx;simp[hx]))]
  | _=>rfl
 | makeSlice t x y=>simp only[Op.operands] at h;simp only[opPure,h x (by simp),h y (by simp)]
 | slice t x lo hi mx =>
  simp only[Op.operands] at h
  simp only[opPure,h x (by simp),qge (x:=lo) (fun y hy=>h y (by simp[hy])),qge (x:=hi) (fun y hy=>h y (by simp[hy])),qge (x:=mx) (fun y hy=>h y (by simp[hy]))]
 | fieldAddr t x f=>simp only[Op.operands] at h;simp only[opPure,h x (by simp)]
 | field t x f=>simp only[Op.operands] at h;simp only[opPure,h x (by simp)]
 | indexAddr t x i=>simp only[Op.operands] at h;simp only[opPure,h x (by simp),h i (by simp)]
 | index t x i=>simp only[Op.operands] at h;simp only[opPure,h x (by simp),h i (by simp)]
 | lookup t x i ok =>
  cases ok with
  | true=>rfl
  | false=>simp only[Op.operands] at h;simp only[opPure,h x (by simp),h i (by simp)]
 | _=>rfl
structure Alike (ws:List Nat) (bw:Option Nat) (st1 st2 st2':St):Prop where
 t:∀x,look st2'.t x=if x∈ws then look st1.t x else look st2.t x
 l:∀d,look st2'.l d=if bw=some d then look st1.l d else look st2.l d
theorem Alike.same {st1 st2:St}:Alike [] none st1 st2 st2:=⟨fun x=>by simp,fun d=>by simp⟩
def tmpOf:Operand→List Nat
 | .tmp t=>[t]
 | _=>[]
theorem take_ag {st st2 st1:St} {x:Operand} {v:AV} (h:aeval st2 x=aeval st x) (e:takeOp st x=some (v,st1)) :
  ∃st2',takeOp st2 x=some (v,st2')∧Alike (tmpOf x) none st1 st2 st2'∧st2'.l=st2.l∧st1.s=st.s∧st1.l=st.l∧st2'.s=st2.s:=by
 cases x with
 | tmp t =>
  simp only[takeOp] at e ⊢
  obtain⟨u,hu,e⟩:=qa e
  simp only[Option.some.injEq,Prod.mk.injEq] at e
  obtain⟨rfl,rfl⟩:=e
  simp only[aeval] at h
  rw[h,hu]
  refine⟨_,rfl,⟨fun x=>?_,fun d=>by simp⟩,rfl,rfl,rfl,rfl⟩
  simp only[tmpOf,qu,List.mem_singleton]
  by_cases hx:x=t<;>simp[hx]
 | _ =>
  simp only[takeOp] at e ⊢
  obtain⟨u,hu,e⟩:=qa e
  simp only[Option.some.injEq,Prod.mk.injEq] at e
  obtain⟨rfl,rfl⟩:=e
  rw[h,hu]
  exact⟨_,rfl,Alike.same,rfl,rfl,rfl,rfl⟩
theorem qp8 {st st2 st1:St} {x:Operand} {v:AV} {b:Bool} (h:aeval st2 x=aeval st x) (e:lend st x b=some (v,st1)) :
  ∃st2',lend st2 x b=some (v,st2')∧Alike (if b then (tmpOf x) else []) none st1 st2 st2'∧st1.s=st.s∧st1.l=st.l∧st2'.s=st2.s:=by
 unfold lend at e ⊢
 cases b with
 | true =>
  simp only[if_true] at e ⊢
  obtain⟨s,h1,h2,h3,h4,h5,h6⟩:=take_ag h e
  exact⟨s,h1,h2,h4,h5,h6⟩
 | false =>
  simp only[Bool.false_eq_true,if_false] at e ⊢
  obtain⟨u,hu,e⟩:=qa e
  simp only[Option.some.injEq,Prod.mk.injEq] at e
  obtain⟨rfl,rfl⟩:=e
  rw[h,hu]
  exact⟨_,rfl,Alike.same,rfl,rfl,rfl⟩
def mvT (xs:List Operand):Option Nat→List Nat
 | none=>[]
 | some i=>match xs[i]? with
  | some x=>tmpOf x
  | none=>[]
theorem tk_mv {d:Option Tmp} {f:Operand} {xs:Array Operand} {ts T pos af g}:(tkT hh ⟨d,.call ⟨.value f,xs,ts⟩,T,pos,af,g⟩).toList=mvT xs.toList (mvI hh d):=by
 simp only[tkT,mvT]
 cases mvI hh d with
 | none=>rfl
 | some i =>
  simp only
  cases hx:xs.toList[i]? with
  | none=>rfl
  | some x=>cases x<;>rfl
theorem qz5 {st st2:St} {xs:List Operand} {i:Option Nat} {x:Nat} (h:∀x∈xs,aeval st2 x=aeval st x) (hx:x∈mvT xs i):look st2.t x=look st.t x:=by
 cases i with
 | none=>cases hx
 | some i =>
  simp only[mvT] at hx
  split at hx
  ·rename_i y hy
   cases y with
   | tmp t=>simp only[tmpOf,List.mem_singleton] at hx;subst hx;simpa[aeval] using h _ (List.mem_of_getElem? hy)
   | _=>cases hx
  ·cases hx
theorem qtl {st st2 st1:St} {xs:List Operand} {as bs:List AV} {i:Option Nat} (h:∀x∈xs,aeval st2 x=aeval st x) (e:moved st xs as i=some (bs,st1)) :
  ∃st2',moved st2 xs as i=some (bs,st2')∧Alike (mvT xs i) none st1 st2 st2'∧st1.s=st.s∧st1.l=st.l∧st2'.s=st2.s:=by
 cases i with
 | none =>
  simp only[moved,Option.some.injEq,Prod.mk.injEq] at e ⊢
  obtain⟨rfl,rfl⟩:=e
  exact⟨_,⟨rfl,rfl⟩,Alike.same,rfl,rfl,rfl⟩
 | some i =>
  simp only[moved] at e ⊢
  obtain⟨x,hx,e⟩:=qa e
  obtain⟨⟨v,s⟩,hv,e⟩:=qa e
  obtain⟨s2,h1,h2,h3,h4,h5,h6⟩:=take_ag (h x (List.mem_of_getElem? hx)) hv
  rw[hx]
  simp only[bnd,h1,mvT,hx]
  simp only at e
  split at e
  ·simp only[Option.some.injEq,Prod.mk.injEq] at e
   obtain⟨rfl,rfl⟩:=e
   exact⟨_,rfl,h2,h4,h5,h6⟩
  ·simp only[Option.some.injEq,Prod.mk.injEq] at e
   obtain⟨rfl,rfl⟩:=e
   refine⟨_,rfl,⟨fun y=>?_,fun d=>by simp⟩,rfl,rfl,rfl⟩
   split
   ·rename_i hy
    cases x with
    | tmp t =>
     simp only[tmpOf,List.mem_singleton] at hy;subst hy
     have:=h (.tmp y) (List.mem_of_getElem? hx)
     simpa[aeval] using this
    | _=>simp[tmpOf] at hy
   ·rfl
  ·cases e
def SRel (h:Hint) (o:Oper) (st st1 st2 st2':St):Prop:=(st1.s=st.s∧st2'.s=st2.s)∨(seesS h o=true∧st2'.s=st1.s)
theorem qp9 {o:Oper} {st st1 st2:St} {v:AV} (h:∀x∈o.op.operands,aeval st2 x=aeval st x) (hs:seesS hh o=true→st2.s=st.s) (hg:∀t x,o.op=.load t x→∀b i sh,aeval st x=some (.gp b i sh)→st2.s=st.s) (hb:∀d,boxAt st o=some d→look st2.l d=look st.l d)
  (e:opVal P hh C o st=some (v,st1)) :
  ∃st2',opVal P hh C o st2=some (v,st2')∧Alike (tkT hh o).toList none st1 st2 st2'∧st1.l=st.l∧SRel hh o st st1 st2 st2':=by
 have pure:∀{o:Oper},(∀x∈o.op.operands,aeval st2 x=aeval st x)→(∀t x,o.op=.load t x→∀b i sh,aeval st x=some (.gp b i sh)→st2.s=st.s)→(∀d,boxAt st o=some d→look st2.l d=look st.l d)→tkT hh o=none →
   (bnd (opPure P hh o st) fun v=>some (v,st))=some (v,st1)→∃st2',(bnd (opPure P hh o st2) fun v=>some (v,st2))=some (v,st2')∧Alike (tkT hh o).toList none st1 st2 st2'∧st1.l=st.l∧SRel hh o st st1 st2 st2':=by
  intro o h hg hb ht e
  obtain⟨u,hu,e⟩:=qa e
  simp only[Option.some.injEq,Prod.mk.injEq] at e
  obtain⟨rfl,rfl⟩:=e
  rw[qwz h hg hb,hu,ht]
  exact⟨_,rfl,Alike.same,rfl,.inl ⟨rfl,rfl⟩⟩
 obtain⟨d,op,T,pos,af,g⟩:=o
 cases op with
 | assign x =>
  simp only[Op.operands] at h
  simp only[opVal] at e ⊢
  obtain⟨⟨u,s⟩,hu,e⟩:=qa e
  obtain⟨r,hr,e⟩:=qa e
  simp only[Option.some.injEq,Prod.mk.injEq] at e
  obtain⟨rfl,rfl⟩:=e
  obtain⟨s',h1,h2,h3,h4,h5,h6⟩:=take_ag (h x (by simp)) hu
  rw[h1]
  simp only[bnd]
  simp only at hr
  rw[hr]
  refine⟨_,rfl,?_,h5,.inl ⟨h4,h6⟩⟩
  cases x<;>exact h2
 | move x =>
  simp only[Op.operands] at h
  simp only[opVal] at e ⊢
  obtain⟨s',h1,h2,h4,h5,h6⟩:=qp8 (h x (by simp)) e
  refine⟨s',h1,?_,h5,.inl ⟨h4,h6⟩⟩
  simp only[tkT]
  cases x with
  | tmp t=>simp only[tmpOf] at h2;cases hq:steals hh d<;>rw[hq] at h2<;>simpa using h2
  | _=>simp only[tmpOf,ite_self] at h2;exact h2
 | extract x i =>
  simp only[Op.operands] at h
  simp only[opVal] at e ⊢
  obtain⟨⟨u,s⟩,hu,e⟩:=qa e
  obtain⟨s',h1,h2,h4,h5,h6⟩:=qp8 (h x (by simp)) hu
  simp only at e
  split at e
  ·obtain⟨r,hr,e⟩:=qa e
   split at e
   ·rename_i hp
    simp only[Option.some.injEq,Prod.mk.injEq] at e
    obtain⟨rfl,rfl⟩:=e
    rw[h1]
    simp only[bnd,hr,hp,if_true]
    refine⟨s',rfl,?_,h5,.inl ⟨h4,h6⟩⟩
    simp only[tkT]
    cases x with
    | tmp t=>simp only[tmpOf] at h2;cases hq:steals hh d<;>rw[hq] at h2<;>simpa using h2
    | _=>simp only[tmpOf,ite_self] at h2;exact h2
   ·cases e
  ·cases e
 | call c =>
  obtain⟨callee,xs,ts⟩:=c
  simp only[Op.operands,Call.operands] at h
  have ha:∀x∈xs.toList,aeval st2 x=aeval st x:=fun x hx=>h x (by simp at hx;simp[hx])
  cases callee with
  | value f =>
   simp only[opVal,callA] at e ⊢
   rw[h f (by simp)]
   obtain⟨gv,hg,e⟩:=qa e
   rw[hg]
   simp only[bnd]
   split at e
   ·split at e
    ·rename_i hlt
     obtain⟨us,hu,e⟩:=qa e
     obtain⟨vs,hv,e⟩:=qa e
     obtain⟨⟨q,s1⟩,hq,e⟩:=qa e
     obtain⟨⟨r,s'⟩,hr,e⟩:=qa e
     simp only[Option.some.injEq,Prod.mk.injEq] at e
     obtain⟨rfl,rfl⟩:=e
     have hs':st2.s=st.s:=hs rfl
     rw[if_pos hlt]
     obtain⟨s2,m1,m2,m3,m4,m5⟩:=qtl ha hq
     simp only at hr
     rw[m3] at hr
     simp only[qc7 ha,hu,hv,m1,m5,hs',hr]
     refine⟨_,rfl,?_,m4,.inr ⟨rfl,rfl⟩⟩
     rw[tk_mv]
     exact⟨fun x=>m2.t x,fun d=>m2.l d⟩
    ·cases e
   ·split at e
    ·rename_i hlt
     obtain⟨us,hu,e⟩:=qa e
     obtain⟨vs,hv,e⟩:=qa e
     obtain⟨⟨r,s'⟩,hr,e⟩:=qa e
     simp only[Option.some.injEq,Prod.mk.injEq] at e
     obtain⟨rfl,rfl⟩:=e
     have hs':st2.s=st.s:=hs rfl
     rw[if_pos hlt]
     simp only[qc7 ha,hu,hv,hs',hr]
     refine⟨_,rfl,⟨fun x=>?_,fun d=>by simp⟩,trivial,.inr ⟨rfl,rfl⟩⟩
     rw[tk_mv]
     split
     ·rename_i hx
      exact qz5 ha hx
     ·rfl
    ·cases e
   ·cases e
  | invoke rv m =>
   simp only[opVal,callA] at e ⊢
   rw[h rv (by simp)]
   obtain⟨gv,hg,e⟩:=qa e
   rw[hg]
   simp only[bnd]
   split at e
   ·obtain⟨gf,hi,e⟩:=qa e
    split at e
    ·rename_i hlt
     obtain⟨hm,e⟩:=qn e
     obtain⟨us,hu,e⟩:=qa e
     obtain⟨vs,hv,e⟩:=qa e
     obtain⟨⟨r,s'⟩,hr,e⟩:=qa e
     simp only[Option.some.injEq,Prod.mk.injEq] at e
     obtain⟨rfl,rfl⟩:=e
     have hs':st2.s=st.s:=hs rfl
     simp only[hi,if_pos hlt,need,if_pos hm,qc7 ha,hu,hv,hs',hr]
     exact⟨_,rfl,⟨fun x=>by simp[tkT],fun d=>by simp⟩,trivial,.inr ⟨rfl,rfl⟩⟩
    ·cases e
   ·cases e
  | builtin b =>
   cases b with
   | append =>
    simp only[opVal,callA] at e ⊢
    split at e
    ·rename_i x y t t' hx ht
     simp only[tkT,hx]
     unfold appendA at e ⊢
     obtain⟨el,hel,e⟩:=qa e
     obtain⟨sz,hsz,e⟩:=qa e
     obtain⟨by_,hby,e⟩:=qa e
     obtain⟨z,hz,e⟩:=qa e
     split at e
     ·cases e
     ·rename_i hok
      obtain⟨⟨u,s⟩,hu,e⟩:=qa e
      obtain⟨b,hbv,e⟩:=qa e
      obtain⟨ys,hys,e⟩:=qa e
      obtain⟨s',h1,h2,h3,h4,h5,h6⟩:=take_ag (ha x (by rw[hx];simp)) hu
      have hbv2:aeval s' y=some b:=by
       have hy:=ha y (by rw[hx];simp)
       cases y with
       | tmp t =>
        simp only[aeval] at hbv hy ⊢
        rw[h2.t]
        cases x with
        | tmp t' =>
         simp only[tmpOf,List.mem_singleton]
         split
         ·exact hbv
         ·rename_i hn
          simp only[takeOp] at hu
          obtain⟨q,hq,hu⟩:=qa hu
          simp only[Option.some.injEq,Prod.mk.injEq] at hu
          obtain⟨rfl,rfl⟩:=hu
          simp only[qu,if_neg hn] at hbv
          rw[hy];exact hbv
        | _ =>
         simp only[takeOp] at hu
         obtain⟨q,hq,hu⟩:=qa hu
         simp only[Option.some.injEq,Prod.mk.injEq] at hu
         obtain⟨rfl,rfl⟩:=hu
         simp only[tmpOf,List.not_mem_nil,if_false]
         rw[hy];exact hbv
       | _=>exact hbv
      simp only[hel,hsz,hby,hz,bnd,if_neg hok,h1,hbv2,hys]
      have fin:∀(q:Prop) (r:AV),need q (some (r,s))=some (v,st1)→∃st2',need q (some (r,s'))=some (v,st2')∧Alike (tkT hh ⟨d,.call ⟨.builtin .append,xs,ts⟩,T,pos,af,g⟩).toList none st1 st2 st2'∧st1.l=st.l∧SRel hh ⟨d,.call ⟨.builtin .append,xs,ts⟩,T,pos,af,g⟩ st st1 st2 st2':=by
       intro q r e
       obtain⟨h7,e⟩:=qn e
       simp only[Option.some.injEq,Prod.mk.injEq] at e
       obtain⟨rfl,rfl⟩:=e
       refine⟨s',by simp[need,h7],?_,h5,.inl ⟨h4,h6⟩⟩
       simp only[tkT,hx]
       cases x<;>exact h2
      simp only[tkT,hx] at fin
      simp only at e
      split at e
      ·exact fin _ _ e
      ·split at e
       ·rename_i hn;rw[if_pos hn];exact fin _ _ e
       ·cases e
      ·cases e
    ·cases e
   | clear =>
    simp only[opVal,callA] at e ⊢
    split at e
    ·rename_i x t hx ht
     have hax:aeval st2 x=aeval st x:=ha x (by rw[hx];simp)
     unfold clearA at e ⊢
     obtain⟨p,hp,e⟩:=qa e
     split at e
     ·rename_i ty sz bb off n
      split at e
      ·rename_i hq
       obtain⟨z,hz,e⟩:=qa e
       obtain⟨cs,hcs,e⟩:=qa e
       obtain⟨hk,e⟩:=qn e
       simp only[Option.some.injEq,Prod.mk.injEq] at e
       obtain⟨rfl,rfl⟩:=e
       have hs':st2.s=st.s:=hs rfl
       refine⟨{st2 with s:=st2.s.set bb (writeCells cs off ((List.replicate n z).flatMap AV.cells))},?_,⟨fun x=>by simp[tkT],fun d=>by simp⟩,rfl,.inr ⟨rfl,by simp[hs']⟩⟩
       simp only[hax,hp,bnd,if_pos hq,hz,hs',hcs,need,if_pos hk]
      ·cases e
     ·cases e
    ·cases e
   | _ =>
    simp only[opVal,callA] at e ⊢
    obtain⟨u,hu,e⟩:=qa e
    simp only[Option.some.injEq,Prod.mk.injEq] at e
    obtain⟨rfl,rfl⟩:=e
    rw[qp7 (c:=⟨_,xs,ts⟩) ha,hu]
    exact⟨_,rfl,Alike.same,rfl,.inl ⟨rfl,rfl⟩⟩
 | makeFunc fn x y=>cases fn<;>exact pure h hg hb rfl e
 | box t x=>cases e
 | store t x y=>cases e
 | _=>exact pure h hg hb rfl e
theorem qqa {st st2:St} {t:TypeId} {v:AV} (hs:st2.s=st.s):srcM P t st2 v=srcM P t st v:=by
 cases v<;>first|rfl|(simp only[srcM,hs])
theorem qtm {o:Oper} {st st1 st2:St} {v:AV} (h:∀x∈o.op.operands,aeval st2 x=aeval st x) (hs:st2.s=st.s) (hse:seesS hh o=true)
  (e:msOp P hh o st=some (v,st1)) :
  ∃st2',msOp P hh o st2=some (v,st2')∧Alike (tkT hh o).toList none st1 st2 st2'∧st1.l=st.l∧SRel hh o st st1 st2 st2':=by
 obtain⟨d,op,T,pos,af,g⟩:=o
 have al:∀{s:List (List AV)} {ws:List Nat},ws=[]→Alike ws none {st with s:=s} st2 {st2 with s:=s}:=fun hw=>by subst hw;exact⟨fun x=>by simp,fun d=>by simp⟩
 cases op with
 | buildSlice t n ps =>
  simp only[Op.operands] at h
  simp only[msOp] at e ⊢
  rw[qin (l:=ps.toList) (fun x hx=>h x (by simpa using hx)),hs]
  obtain⟨el,hel,e⟩:=qa e
  obtain⟨sz,hsz,e⟩:=qa e
  obtain⟨z,hz,e⟩:=qa e
  obtain⟨l,hl,e⟩:=qa e
  simp only[hel,hsz,hz,hl,bnd]
  split at e
  ·cases e
  ·rename_i hok
   rw[if_neg hok]
   obtain⟨els,hels,e⟩:=qa e
   simp only[Option.some.injEq,Prod.mk.injEq] at e
   obtain⟨rfl,rfl⟩:=e
   simp only[hels]
   exact⟨_,rfl,al rfl,(by first|trivial|rfl),.inr ⟨hse,rfl⟩⟩
 | makeSlice t l c =>
  simp only[Op.operands] at h
  simp only[msOp] at e ⊢
  rw[h l (by simp),h c (by simp),hs]
  obtain⟨el,hel,e⟩:=qa e
  obtain⟨sz,hsz,e⟩:=qa e
  obtain⟨by_,hby,e⟩:=qa e
  obtain⟨z,hz,e⟩:=qa e
  obtain⟨lv,hlv,e⟩:=qa e
  obtain⟨ln,hln,e⟩:=qa e
  obtain⟨cv,hcv,e⟩:=qa e
  obtain⟨cn,hcn,e⟩:=qa e
  simp only[hel,hsz,hby,hz,hlv,hln,hcv,hcn,bnd]
  split at e
  ·cases e
  ·rename_i hok
   rw[if_neg hok]
   obtain⟨hq,e⟩:=qn e
   simp only[Option.some.injEq,Prod.mk.injEq] at e
   obtain⟨rfl,rfl⟩:=e
   refine⟨_,by simp[need,hq],al rfl,(by first|trivial|rfl),.inr ⟨hse,rfl⟩⟩
 | convert src dst x =>
  simp only[Op.operands] at h
  simp only[msOp,msConv] at e ⊢
  rw[h x (by simp),hs]
  obtain⟨u,hu,e⟩:=qa e
  simp only[hu,bnd]
  split at e
  ·obtain⟨el,hel,e⟩:=qa e
   obtain⟨hq,e⟩:=qn e
   simp only[hel,need,hq]
   split at e
   ·rename_i hg
    simp only[Option.some.injEq,Prod.mk.injEq] at e
    obtain⟨rfl,rfl⟩:=e
    exact⟨_,by simp[hg,hq],al rfl,(by first|trivial|rfl),.inr ⟨hse,rfl⟩⟩
   ·rename_i hg
    simp only[Option.some.injEq,Prod.mk.injEq] at e
    obtain⟨rfl,rfl⟩:=e
    exact⟨_,by simp[hg,hq],Alike.same,(by first|trivial|rfl),.inr ⟨hse,hs⟩⟩
  ·obtain⟨el,hel,e⟩:=qa e
   obtain⟨hq,e⟩:=qn e
   obtain⟨cs,hcs,e⟩:=qa e
   obtain⟨els,hels,e⟩:=qa e
   obtain⟨l,hl,e⟩:=qa e
   simp only[Option.some.injEq,Prod.mk.injEq] at e
   obtain⟨rfl,rfl⟩:=e
   simp only[hel,hcs,hels,hl]
   exact⟨_,by unfold need;rw[if_pos hq],Alike.same,(by first|trivial|rfl),.inr ⟨hse,hs⟩⟩
  ·rename_i hn1 hn2
   obtain⟨r,hr,e⟩:=qa e
   simp only[Option.some.injEq,Prod.mk.injEq] at e
   obtain⟨rfl,rfl⟩:=e
   cases u with
   | str s=>exact absurd rfl (hn1 s)
   | ms ty sz b off n=>exact absurd rfl (hn2 ty sz b off n)
   | _=>exact⟨_,by simp only[hr],Alike.same,(by first|trivial|rfl),.inr ⟨hse,hs⟩⟩
 | load t x =>
  simp only[Op.operands] at h
  simp only[msOp,msLoad] at e ⊢
  split at e
  ·cases e
  rename_i hr
  rw[if_neg hr,h x (by simp),hs]
  obtain⟨p,hp,e⟩:=qa e
  simp only[hp,bnd]
  split at e
  ·obtain⟨ag,hg,e⟩:=qa e
   obtain⟨cs,hl,e⟩:=qa e
   obtain⟨v,hc,e⟩:=qa e
   simp only[hg,hl,hc]
   split at e
   ·cases e
   ·rename_i hga
    rw[if_neg hga]
    simp only[Option.some.injEq,Prod.mk.injEq] at e
    obtain⟨rfl,rfl⟩:=e
    exact⟨_,rfl,al rfl,(by first|trivial|rfl),.inr ⟨hse,rfl⟩⟩
  ·cases e
 | slice t x lo hi mx =>
  have hx:aeval st2 x=aeval st x:=h x (by simp[Op.operands])
  have ho:∀y:Option Operand,(∀z,y=some z→z∈(Op.slice t x lo hi mx).operands)→aevalO st2 y=aevalO st y:=by
   intro y hy
   cases y with
   | none=>rfl
   | some z=>simp only[aevalO];rw[h z (hy z rfl)]
  have hlo:=ho lo (fun z e=>by subst e;simp[Op.operands])
  have hhi:=ho hi (fun z e=>by subst e;simp[Op.operands])
  simp only[msOp,msSlice] at e ⊢
  rw[hx,hlo,hhi,hs]
  split at e
  ·cases e
  obtain⟨u,hu,e⟩:=qa e
  simp only[hu,bnd]
  split at e
  ·obtain⟨el,hel,e⟩:=qa e
   obtain⟨sz,hsz,e⟩:=qa e
   obtain⟨h',hh',e⟩:=qa e
   obtain⟨hn,hhn,e⟩:=qa e
   obtain⟨l',hl',e⟩:=qa e
   obtain⟨ln,hln,e⟩:=qa e
   obtain⟨cs,hcs,e⟩:=qa e
   simp only[hel,hsz,hh',hhn,hl',hln,hcs]
   split at e
   ·rename_i hq
    rw[if_pos hq]
    simp only[Option.some.injEq,Prod.mk.injEq] at e
    obtain⟨rfl,rfl⟩:=e
    exact⟨_,rfl,Alike.same,rfl,.inr ⟨hse,hs⟩⟩
   ·cases e
  ·cases e
 | call c =>
  obtain⟨callee,xs,ts⟩:=c
  simp only[Op.operands,Call.operands] at h
  have ha:∀x∈xs.toList,aeval st2 x=aeval st x:=fun x hx=>h x (by simp at hx;simp[hx])
  simp only[msOp] at e ⊢
  split at e
  ·rename_i x y t t' hx ht
   simp only[tkT,hx]
   unfold msAppend at e ⊢
   obtain⟨el,hel,e⟩:=qa e
   obtain⟨sz,hsz,e⟩:=qa e
   obtain⟨by_,hby,e⟩:=qa e
   obtain⟨z,hz,e⟩:=qa e
   split at e
   ·cases e
   ·rename_i hok
    obtain⟨⟨u,s⟩,hu,e⟩:=qa e
    obtain⟨b,hbv,e⟩:=qa e
    obtain⟨ys,hys,e⟩:=qa e
    obtain⟨s',h1,h2,h3,h4,h5,h6⟩:=take_ag (ha x (by rw[hx];simp)) hu
    have hss:s'.s=s.s:=by rw[h6,hs,h4]
    have hbv2:aeval s' y=some b:=by
     have hy:=ha y (by rw[hx];simp)
     cases y with
     | tmp t =>
      simp only[aeval] at hbv hy ⊢
      rw[h2.t]
      cases x with
      | tmp t' =>
       simp only[tmpOf,List.mem_singleton]
       split
       ·exact hbv
       ·rename_i hn
        simp only[takeOp] at hu
        obtain⟨q,hq,hu⟩:=qa hu
        simp only[Option.some.injEq,Prod.mk.injEq] at hu
        obtain⟨rfl,rfl⟩:=hu
        simp only[qu,if_neg hn] at hbv
        rw[hy];exact hbv
      | _ =>
       simp only[takeOp] at hu
       obtain⟨q,hq,hu⟩:=qa hu
       simp only[Option.some.injEq,Prod.mk.injEq] at hu
       obtain⟨rfl,rfl⟩:=hu
       simp only[tmpOf,List.not_mem_nil,if_false]
       rw[hy];exact hbv
     | _=>exact hbv
    simp only[hel,hsz,hby,hz,bnd,if_neg hok,h1,hbv2,qqa hss,hys,hss]
    have fin1:∀(q:Prop) (r:AV) (ns:List (List AV)),need q (some (r,{s with s:=ns}))=some (v,st1)→∃st2',need q (some (r,{s' with s:=ns}))=some (v,st2')∧Alike (tkT hh ⟨d,.call ⟨.builtin .append,xs,ts⟩,T,pos,af,g⟩).toList none st1 st2 st2'∧st1.l=st.l∧SRel hh ⟨d,.call ⟨.builtin .append,xs,ts⟩,T,pos,af,g⟩ st st1 st2 st2':=by
     intro q r ns e
     obtain⟨h7,e⟩:=qn e
     simp only[Option.some.injEq,Prod.mk.injEq] at e
     obtain⟨rfl,rfl⟩:=e
     refine⟨{s' with s:=ns},by simp[need,h7],?_,h5,.inr ⟨hse,rfl⟩⟩
     have h8:Alike (tmpOf x) none {s with s:=ns} st2 {s' with s:=ns}:=⟨h2.t,h2.l⟩
     simp only[tkT,hx]
     cases x<;>exact h8
    have fin2:∀(q:Prop) (r:AV),need q (some (r,s))=some (v,st1)→∃st2',need q (some (r,s'))=some (v,st2')∧Alike (tkT hh ⟨d,.call ⟨.builtin .append,xs,ts⟩,T,pos,af,g⟩).toList none st1 st2 st2'∧st1.l=st.l∧SRel hh ⟨d,.call ⟨.builtin .append,xs,ts⟩,T,pos,af,g⟩ st st1 st2 st2':=by
     intro q r e
     obtain⟨h7,e⟩:=qn e
     simp only[Option.some.injEq,Prod.mk.injEq] at e
     obtain⟨rfl,rfl⟩:=e
     refine⟨s',by simp[need,h7],?_,h5,.inr ⟨hse,hss⟩⟩
     simp only[tkT,hx]
     cases x<;>exact h2
    simp only[tkT,hx] at fin1 fin2
    simp only at e
    split at e
    ·split at e
     ·rename_i hn
      rw[if_pos hn]
      obtain⟨cs,hcs,e⟩:=qa e
      simp only[hcs]
      exact fin1 _ _ _ e
     ·cases e
    ·split at e
     ·rename_i hg
      rw[if_pos hg]
      exact fin1 _ _ _ e
     ·rename_i hg
      rw[if_neg hg]
      exact fin2 _ _ e
    ·split at e
     ·rename_i hn
      rw[if_pos hn]
      split at e
      ·rename_i hg
       rw[if_pos hg]
       exact fin1 _ _ _ e
      ·rename_i hg
       rw[if_neg hg]
       exact fin2 _ _ e
     ·cases e
    ·cases e
  ·rename_i x y t t' hx ht
   unfold msCopy at e ⊢
   rw[ha x (by rw[hx];simp),ha y (by rw[hx];simp)]
   obtain⟨p,hp,e⟩:=qa e
   obtain⟨b,hb,e⟩:=qa e
   obtain⟨ys,hys,e⟩:=qa e
   simp only[hp,hb,qqa hs,hys,bnd,hs]
   split at e
   ·split at e
    ·rename_i hq
     rw[if_pos hq]
     obtain⟨cs,hcs,e⟩:=qa e
     obtain⟨h7,e⟩:=qn e
     simp only[Option.some.injEq,Prod.mk.injEq] at e
     obtain⟨rfl,rfl⟩:=e
     simp only[hcs]
     exact⟨_,by simp only[need,h7];rfl,al rfl,(by first|trivial|rfl),.inr ⟨hse,rfl⟩⟩
    ·cases e
   ·cases e
  ·cases e
 | _=>cases e
theorem qm8 {d:Nat} {t:List (Nat×AV)} (h:noLp d t=true):dropLp d t=t:=by
 induction t with
 | nil=>rfl
 | cons p r ih =>
  obtain⟨j,u⟩:=p
  simp only[noLp] at h
  simp only[dropLp]
  split at h
  ·cases h
  ·rename_i hn;rw[if_neg hn,ih h]
theorem qqb {d:Nat} {t:List (Nat×AV)} (hn:(t.map (·.1)).Nodup) (h:∀i v,look t i=some v→isLp d v=false):noLp d t=true:=by
 induction t with
 | nil=>rfl
 | cons p r ih =>
  obtain⟨j,u⟩:=p
  simp only[List.map_cons,List.nodup_cons] at hn
  have h0:=h j u (by simp[look])
  simp only[noLp,h0,Bool.false_eq_true,if_false]
  refine ih hn.2 fun i v hv=>h i v ?_
  simp only[look]
  split
  ·rename_i hj;subst hj;exact absurd (qmw hv) hn.1
  ·exact hv
structure Ahead (h:Hint) (o:Oper) (st st2:St):Prop where
 t:∀x∈o.op.operands,aeval st2 x=aeval st x
 s:seesS h o=true→st2.s=st.s
 b:∀d,boxR h o=some d∨boxW h o=some d→look st2.l d=look st.l d
 n:∀d,isAlloc o=true→o.dst=some d→noLp d st2.t=true
theorem qhz {o:Oper} {st st' st2:St} (hp:preD hh o st=true) (h:Ahead hh o st st2) (e:stepOp P hh C o st=some st') :
  ∃st2',stepOp P hh C o st2=some st2'∧Alike (wrT hh o) (boxW hh o) st' st2 st2'∧SRel hh o st st' st2 st2':=by
 have val:(isMs hh o.dst=true→seesS hh o=true∨∀s,msOp P hh o s=none)→(∀t x,o.op=.load t x→∀b i sh,aeval st x=some (.gp b i sh)→st2.s=st.s)→(∀d,boxAt st o=some d→look st2.l d=look st.l d)→boxW hh o=none→(bnd (if isMs hh o.dst then msOp P hh o st else opVal P hh C o st) fun p=>some (p.2.put o.dst p.1))=some st' →
   ∃st2',(bnd (if isMs hh o.dst then msOp P hh o st2 else opVal P hh C o st2) fun p=>some (p.2.put o.dst p.1))=some st2'∧Alike (wrT hh o) (boxW hh o) st' st2 st2'∧SRel hh o st st' st2 st2':=by
  intro hms hg hb hbw e
  obtain⟨⟨v,s⟩,hv,e⟩:=qa e
  injection e with e
  obtain⟨s',h1,h2,h3,h4⟩:∃st2',(if isMs hh o.dst then msOp P hh o st2 else opVal P hh C o st2)=some (v,st2')∧Alike (tkT hh o).toList none s st2 st2'∧s.l=st.l∧SRel hh o st s st2 st2':=by
   split at hv
   ·rename_i hm
    rw[if_pos hm]
    rcases hms hm with hq|hq
    ·exact qtm h.t (h.s hq) hq hv
    ·rw[hq] at hv;cases hv
   ·rename_i hm
    rw[if_neg hm]
    exact qp9 h.t h.s hg hb hv
  rw[h1]
  refine⟨_,rfl,⟨fun x=>?_,fun d=>?_⟩,?_⟩
  ·rw[← e]
   unfold wrT
   cases hd:o.dst with
   | none=>simp only[St.put,Option.toList_none,List.nil_append];exact h2.t x
   | some d =>
    simp only[St.put,qu,Option.toList_some,List.cons_append,List.nil_append,List.mem_cons]
    by_cases hx:x=d
    ·simp[hx]
    ·simp only[hx,if_false,false_or];exact h2.t x
  ·rw[hbw]
   have:=h2.l d
   simp only[reduceCtorEq,if_false] at this ⊢
   rw[← this]
   cases hd:o.dst<;>rfl
  ·have e1:st'.s=s.s:=by rw[← e];cases hd:o.dst<;>rfl
   have e2:(s'.put o.dst v).s=s'.s:=by cases hd:o.dst<;>rfl
   unfold SRel
   rw[e1,e2]
   exact h4
 have al:∀{ty:TypeId} {cs:List AV} {s s2:St} {ws:List Nat} {d:Option Nat},d=o.dst→isAlloc o=true→seesS hh o=true→boxW hh o=o.dst→s.l=st.l→s2.s=s.s→Alike ws none s st2 s2→(∀d,noLp d st2.t=true→noLp d s2.t=true)→(∀d,noLp d st.t=true→noLp d s.t=true) →
   (∀d,o.dst=some d→noLp d st.t=true) →
   newBox hh d ty cs s=some st'→∃st2',newBox hh d ty cs s2=some st2'∧Alike (o.dst.toList++ws) (boxW hh o) st' st2 st2'∧SRel hh o st st' st2 st2':=by
  intro ty cs s s2 ws d hd ha hse hbw hsl hss hal hn hn1 hn2 e
  subst hd
  rw[hbw]
  cases hd:o.dst with
  | none=>rw[hd] at e;cases e
  | some d =>
   rw[hd] at e
   simp only[newBox] at e ⊢
   split at e
   ·rename_i hm
    rw[if_pos hm]
    injection e with e
    refine⟨_,rfl,⟨fun x=>?_,fun d'=>?_⟩,.inr ⟨hse,?_⟩⟩
    ·rw[← e]
     simp only[qu,Option.toList_some,List.cons_append,List.nil_append,List.mem_cons]
     by_cases hx:x=d
     ·simp[hx,hss]
     ·simp only[hx,if_false,false_or];exact hal.t x
    ·rw[← e]
     have h1:=hal.l d'
     simp only[reduceCtorEq,if_false] at h1
     by_cases hx:d'=d
     ·subst hx
      simp only[if_true,h1,hsl]
      exact h.b d' (.inr (by rw[hbw,hd]))
     ·rw[if_neg (by simpa using fun e=>hx e.symm)]
      exact h1
    ·rw[← e];simp only[hss]
   ·rename_i hm
    rw[if_neg hm]
    injection e with e
    refine⟨_,rfl,⟨fun x=>?_,fun d'=>?_⟩,.inr ⟨hse,?_⟩⟩
    ·rw[← e]
     simp only[qu,Option.toList_some,List.cons_append,List.nil_append,List.mem_cons]
     rw[qm8 (hn d (h.n d ha hd)),qm8 (hn1 d (hn2 d hd))]
     by_cases hx:x=d
     ·simp[hx]
     ·simp only[hx,if_false,false_or];exact hal.t x
    ·rw[← e]
     simp only[qu]
     by_cases hx:d'=d
     ·subst hx;simp
     ·rw[if_neg hx,if_neg (by simpa using fun e=>hx e.symm)]
      have:=hal.l d'
      simpa using this
    ·rw[← e];exact hss
 have dems:∀{s s1:St} {x:Operand} {v:AV},takeOp s x=some (v,s1)→∀d,noLp d s.t=true→noLp d s1.t=true:=by
  intro s s1 x v e d hd
  cases x with
  | tmp t =>
   simp only[takeOp] at e
   obtain⟨u,hu,e⟩:=qa e
   simp only[Option.some.injEq,Prod.mk.injEq] at e
   obtain⟨rfl,rfl⟩:=e
   simp only
   have key:∀(l:List (Nat×AV)),look l t=some u→noLp d l=true→noLp d (ins l t (dem u))=true:=by
    intro l
    induction l with
    | nil=>intro e;cases e
    | cons p r ih =>
     obtain⟨j,w⟩:=p
     intro e hn
     simp only[look] at e
     simp only[noLp] at hn
     split at hn
     ·cases hn
     ·rename_i hw
      simp only[ins]
      split at e
      ·rename_i hj
       injection e with e;subst e
       rw[if_pos hj]
       simp only[noLp]
       have:isLp d (dem w)=false:=by cases w<;>first|rfl|simpa[isLp,dem] using hw
       simp[this,hn]
      ·rename_i hj
       rw[if_neg hj]
       simp only[noLp,if_neg hw]
       exact ih e hn
   exact key s.t hu hd
  | _ =>
   simp only[takeOp] at e
   obtain⟨u,hu,e⟩:=qa e
   simp only[Option.some.injEq,Prod.mk.injEq] at e
   obtain⟨rfl,rfl⟩:=e
   exact hd
 obtain⟨d,op,T,pos,af,g⟩:=o
 cases op with
 | alloc t =>
  simp only[stepOp] at e ⊢
  obtain⟨z,hz,e⟩:=qa e
  rw[hz]
  simp only[bnd]
  have h2:∀d',d=some d'→noLp d' st.t=true:=fun d' hd=>by subst hd;exact hp
  obtain⟨s',h1,h3,h4⟩:=al (ws:=[]) rfl rfl rfl rfl rfl (h.s rfl) Alike.same (fun _ h=>h) (fun _ h=>h) h2 e
  refine⟨s',h1,?_,h4⟩
  simpa[wrT,tkT,boxW] using h3
 | box t x =>
  have ht:=h.t
  simp only[Op.operands] at ht
  simp only[stepOp] at e ⊢
  obtain⟨⟨u,s⟩,hu,e⟩:=qa e
  obtain⟨s',h1,h2,h3,h4,h5,h8⟩:=take_ag (ht x (by simp)) hu
  rw[h1]
  simp only[bnd]
  simp only at e
  split at e
  ·rename_i hpp
   rw[if_pos hpp]
   obtain⟨v,hv,e⟩:=qa e
   rw[hv]
   simp only
   have hn2:∀d',d=some d'→noLp d' st.t=true:=fun d' hd=>by subst hd;exact hp
   obtain⟨s2,h6,h7,h9⟩:=al rfl rfl rfl rfl h5 (h8.trans ((h.s rfl).trans h4.symm)) h2 (dems h1) (dems hu) hn2 e
   refine⟨s2,h6,?_,h9⟩
   have:wrT hh ⟨d,.box t x,T,pos,af,g⟩=d.toList++tmpOf x:=by cases x<;>rfl
   rw[this];exact h7
  ·cases e
 | store t y x =>
  have ht:=h.t
  simp only[Op.operands] at ht
  cases d with
  | some _=>simp only[stepOp] at e;cases e
  | none =>
  simp only[stepOp] at e ⊢
  unfold storeA at e ⊢
  obtain⟨p,hpa,e⟩:=qa e
  obtain⟨⟨u,s⟩,hu,e⟩:=qa e
  obtain⟨s',h1,h2,h3,h4,h5,h8⟩:=take_ag (ht x (by simp)) hu
  have hwr:wrT hh ⟨none,.store t y x,T,pos,af,g⟩=tmpOf x:=by cases x<;>rfl
  rw[ht y (by simp),hpa]
  simp only[bnd,h1]
  simp only at e
  split at e
  ·rename_i hpu
   rw[if_pos hpu]
   obtain⟨sz,hsz,e⟩:=qa e
   obtain⟨v,hv,e⟩:=qa e
   obtain⟨⟨cs,off⟩,hbx,e⟩:=qa e
   simp only[hsz,hv]
   simp only at e
   split at e
   ·rename_i hc
    cases p with
    | lp dd i =>
     simp only[setBox] at e
     injection e with e
     simp only[preD,hpa,beq_iff_eq] at hp
     have hbw:boxW hh ⟨none,.store t y x,T,pos,af,g⟩=some dd:=hp
     have hl:look s'.l dd=look s.l dd:=by
      rw[h3,h5];exact h.b dd (.inr hbw)
     simp only[boxOf] at hbx ⊢
     rw[hl]
     obtain⟨cs0,hb0,hbx⟩:=qa hbx
     simp only[Option.some.injEq,Prod.mk.injEq] at hbx
     obtain⟨rfl,rfl⟩:=hbx
     rw[hb0]
     simp only[bnd,setBox]
     rw[if_pos hc]
     refine⟨_,rfl,⟨fun x=>?_,fun d'=>?_⟩,.inl ⟨by rw[← e];exact h4,h8⟩⟩
     ·rw[← e,hwr];exact h2.t x
     ·rw[← e,hbw]
      simp only[qu]
      by_cases hx:d'=dd
      ·subst hx;simp
      ·rw[if_neg hx,if_neg (by simpa using fun e=>hx e.symm)]
       have:=h2.l d'
       simpa using this
    | gp dd i sh =>
     simp only[setBox] at e
     injection e with e
     simp only[preD,hpa] at hp
     have hse:st2.s=st.s:=h.s hp
     have hbw:boxW hh ⟨none,.store t y x,T,pos,af,g⟩=none:=by
      have hn:(rootT hh y).isNone=true:=hp
      exact Option.isNone_iff_eq_none.1 hn
     simp only[boxOf] at hbx ⊢
     rw[h8,hse,← h4]
     obtain⟨cs0,hb0,hbx⟩:=qa hbx
     simp only[Option.some.injEq,Prod.mk.injEq] at hbx
     obtain⟨rfl,rfl⟩:=hbx
     rw[hb0]
     simp only[bnd,setBox]
     rw[if_pos hc]
     refine⟨_,rfl,⟨fun x=>?_,fun d'=>?_⟩,.inr ⟨hp,?_⟩⟩
     ·rw[← e,hwr];exact h2.t x
     ·rw[hbw]
      have:=h2.l d'
      simpa using this
     ·rw[← e];simp only[h8,hse,h4]
    | _=>cases e
   ·cases e
  ·cases e
 | load t x =>
  have hms:seesS hh ⟨d,.load t x,T,pos,af,g⟩=true∨∀s,msOp P hh ⟨d,.load t x,T,pos,af,g⟩ s=none:=by
   cases hr:rootT hh x with
   | none=>left;show (rootT hh x).isNone=true;rw[hr];rfl
   | some r=>right;intro s;simp[msOp,msLoad,hr]
  refine val (fun _=>hms) (fun t' x' hx b i sh hq=>h.s ?_) (fun d' hd=>h.b d' (.inl ?_)) rfl e
  ·injection hx with _ hx;subst hx
   simp only[preD,hq] at hp;exact hp
  simp only[boxAt] at hd
  simp only[preD] at hp
  split at hd
  ·rename_i q i hq
   rw[hq] at hp
   injection hd with hd;subst hd
   simpa using hp
  ·cases hd
 | call c =>
  refine val (fun hm=>.inl ?_) (fun t x hx=>by cases hx) (fun d' hd=>by cases hd) rfl e
  simp only[seesS]
  split
  ·rfl
  ·rfl
  ·rfl
  ·exact hm
 | _=>exact val (fun hm=>.inl hm) (fun t x hx=>by cases hx) (fun d' hd=>by cases hd) rfl e
end
end Go.AI
end
section
namespace Go.AI
set_option linter.unusedVariables false
section
variable {P:Program} {hh:Hint} {C:Oracle}
def StepD (P:Program) (hh:Hint) (C:Oracle) (ds:List Nat) (ops:List Oper) (o:Oper) (st st':St):Prop :=
 (wantedA ops o.guard st=some true∧preD hh o st=true∧stepOp P hh C o st=some st'∧((allowS hh o=true∨st'.s=st.s)∧(adS hh o=true→st'.s.take st.s.length=st.s))∧postD hh ds o st'.t=true) ∨
 (wantedA ops o.guard st=some false∧st'=st.put o.dst (.tup [])∧okAll ds st.t (tkT hh o).toList=true)
theorem qh0 {ds:List Nat} {ops:List Oper}:∀(r:List Oper) {st st':St},runD P hh C ds ops r st=some st' →
  ∃f:Nat→St,f 0=st∧f r.length=st'∧∀(i:Nat) (o:Oper),r[i]? = some o→StepD P hh C ds ops o (f i) (f (i+1)):=by
 intro r
 induction r with
 | nil=>intro st st' e;injection e with e;exact⟨fun _=>st,rfl,e,fun i o h=>by simp at h⟩
 | cons o r ih =>
  intro st st' e
  simp only[runD] at e
  have go:∀st1,StepD P hh C ds ops o st st1→runD P hh C ds ops r st1=some st'→∃f:Nat→St,f 0=st∧f (o::r).length=st'∧∀(i:Nat) (o':Oper),(o::r)[i]? = some o'→StepD P hh C ds ops o' (f i) (f (i+1)):=by
   intro st1 h1 e
   obtain⟨f,h2,h3,h4⟩:=ih e
   refine⟨fun i=>match i with|0=>st|i+1=>f i,rfl,h3,fun i o' ho=>?_⟩
   cases i with
   | zero=>simp at ho;subst ho;show StepD P hh C ds ops o st (f 0);rw[h2];exact h1
   | succ i=>simp at ho;exact h4 i o' ho
  unfold sel at e
  split at e
  ·rename_i hw
   obtain⟨st1,h2,e⟩:=qa e
   obtain⟨h3,e⟩:=qn e
   split at h2
   ·rename_i hp
    split at e
    ·rename_i hq;exact go st1 (.inl ⟨hw,hp,h2,h3,hq⟩) e
    ·cases e
   ·cases h2
  ·rename_i hw
   split at e
   ·rename_i hq;exact go _ (.inr ⟨hw,rfl,hq⟩) e
   ·cases e
  ·cases e
theorem qa0 {st st':St} {x:Operand} {v:AV} (h:(st.t.map (·.1)).Nodup) (e:takeOp st x=some (v,st')):(st'.t.map (·.1)).Nodup:=by
 cases x with
 | tmp t =>
  simp only[takeOp] at e
  obtain⟨u,hu,e⟩:=qa e
  simp only[Option.some.injEq,Prod.mk.injEq] at e
  obtain⟨rfl,rfl⟩:=e
  exact qbc _ _ _ h
 | _ =>
  simp only[takeOp] at e
  obtain⟨u,hu,e⟩:=qa e
  simp only[Option.some.injEq,Prod.mk.injEq] at e
  obtain⟨rfl,rfl⟩:=e
  exact h
theorem qll {st st':St} {xs:List Operand} {as bs:List AV} {i:Option Nat} (h:(st.t.map (·.1)).Nodup) (e:moved st xs as i=some (bs,st')):(st'.t.map (·.1)).Nodup:=by
 cases i with
 | none=>simp only[moved,Option.some.injEq,Prod.mk.injEq] at e;obtain⟨rfl,rfl⟩:=e;exact h
 | some i =>
  simp only[moved] at e
  obtain⟨x,hx,e⟩:=qa e
  obtain⟨⟨v,s⟩,hv,e⟩:=qa e
  simp only at e
  split at e
  ·simp only[Option.some.injEq,Prod.mk.injEq] at e;obtain⟨rfl,rfl⟩:=e;exact qa0 h hv
  ·simp only[Option.some.injEq,Prod.mk.injEq] at e;obtain⟨rfl,rfl⟩:=e;exact h
  ·cases e
theorem qh1 {st st':St} {x:Operand} {v:AV} {b:Bool} (h:(st.t.map (·.1)).Nodup) (e:lend st x b=some (v,st')):(st'.t.map (·.1)).Nodup:=by
 unfold lend at e
 split at e
 ·exact qa0 h e
 ·obtain⟨u,hu,e⟩:=qa e
  simp only[Option.some.injEq,Prod.mk.injEq] at e
  obtain⟨rfl,rfl⟩:=e
  exact h
theorem qj4 {st:St} {d:Option Tmp} {v:AV} (h:(st.t.map (·.1)).Nodup):((st.put d v).t.map (·.1)).Nodup:=by
 cases d with
 | none=>exact h
 | some d=>exact qbc _ _ _ h
theorem qqc {o:Oper} {st st':St} {v:AV} (h:(st.t.map (·.1)).Nodup) (e:opVal P hh C o st=some (v,st')):(st'.t.map (·.1)).Nodup:=by
 have pure:(bnd (opPure P hh o st) fun v=>some (v,st))=some (v,st')→(st'.t.map (·.1)).Nodup:=by
  intro e
  obtain⟨u,hu,e⟩:=qa e
  simp only[Option.some.injEq,Prod.mk.injEq] at e
  obtain⟨rfl,rfl⟩:=e
  exact h
 obtain⟨d,op,T,pos,af,g⟩:=o
 cases op with
 | assign x =>
  simp only[opVal] at e
  obtain⟨⟨u,s⟩,hu,e⟩:=qa e
  obtain⟨r,hr,e⟩:=qa e
  simp only[Option.some.injEq,Prod.mk.injEq] at e
  obtain⟨rfl,rfl⟩:=e
  exact qa0 h hu
 | move x=>exact qh1 h e
 | extract x i =>
  simp only[opVal] at e
  obtain⟨⟨u,s⟩,hu,e⟩:=qa e
  simp only at e
  split at e
  ·obtain⟨r,hr,e⟩:=qa e
   split at e
   ·simp only[Option.some.injEq,Prod.mk.injEq] at e
    obtain⟨rfl,rfl⟩:=e
    exact qh1 h hu
   ·cases e
  ·cases e
 | call c =>
  obtain⟨callee,xs,ts⟩:=c
  cases callee with
  | value f =>
   simp only[opVal,callA] at e
   obtain⟨gv,hg,e⟩:=qa e
   split at e
   ·split at e
    ·obtain⟨us,hu,e⟩:=qa e
     obtain⟨vs,hv,e⟩:=qa e
     obtain⟨⟨q,s⟩,hq,e⟩:=qa e
     obtain⟨r,hr,e⟩:=qa e
     simp only[Option.some.injEq,Prod.mk.injEq] at e
     obtain⟨rfl,rfl⟩:=e
     have:=qll h hq
     exact this
    ·cases e
   ·split at e
    ·obtain⟨us,hu,e⟩:=qa e
     obtain⟨vs,hv,e⟩:=qa e
     obtain⟨r,hr,e⟩:=qa e
     simp only[Option.some.injEq,Prod.mk.injEq] at e
     obtain⟨rfl,rfl⟩:=e
     exact h
    ·cases e
   ·cases e
  | invoke rv m =>
   simp only[opVal,callA] at e
   obtain⟨gv,hg,e⟩:=qa e
   split at e
   ·obtain⟨gf,hi,e⟩:=qa e
    split at e
    ·obtain⟨hm,e⟩:=qn e
     obtain⟨us,hu,e⟩:=qa e
     obtain⟨vs,hv,e⟩:=qa e
     obtain⟨r,hr,e⟩:=qa e
     simp only[Option.some.injEq,Prod.mk.injEq] at e
     obtain⟨rfl,rfl⟩:=e
     exact h
    ·cases e
   ·cases e
  | builtin b =>
   cases b with
   | append =>
    simp only[opVal,callA] at e
    split at e
    ·unfold appendA at e
     obtain⟨el,hel,e⟩:=qa e
     obtain⟨sz,hsz,e⟩:=qa e
     obtain⟨by_,hby,e⟩:=qa e
     obtain⟨z,hz,e⟩:=qa e
     split at e
     ·cases e
     ·obtain⟨⟨u,s⟩,hu,e⟩:=qa e
      obtain⟨b,hbv,e⟩:=qa e
      obtain⟨ys,hys,e⟩:=qa e
      simp only at e
      split at e
      ·obtain⟨_,e⟩:=qn e
       simp only[Option.some.injEq,Prod.mk.injEq] at e
       obtain⟨rfl,rfl⟩:=e
       exact qa0 h hu
      ·split at e
       ·obtain⟨_,e⟩:=qn e
        simp only[Option.some.injEq,Prod.mk.injEq] at e
        obtain⟨rfl,rfl⟩:=e
        exact qa0 h hu
       ·cases e
      ·cases e
    ·cases e
   | clear =>
    simp only[opVal,callA] at e
    split at e
    ·unfold clearA at e
     obtain⟨p,hp,e⟩:=qa e
     split at e
     ·split at e
      ·obtain⟨z,hz,e⟩:=qa e
       obtain⟨cs,hcs,e⟩:=qa e
       obtain⟨_,e⟩:=qn e
       simp only[Option.some.injEq,Prod.mk.injEq] at e
       obtain⟨rfl,rfl⟩:=e
       exact h
      ·cases e
     ·cases e
    ·cases e
   | _ =>
    simp only[opVal,callA] at e
    obtain⟨u,hu,e⟩:=qa e
    simp only[Option.some.injEq,Prod.mk.injEq] at e
    obtain⟨rfl,rfl⟩:=e
    exact h
 | _=>exact pure e
theorem qtn {o : Oper} {st st' : St} {v : AV} (h : (st.t.map (·.1)).Nodup) (e : msOp P hh o st = some (v, st')) : (st'.t.map (·.1)).Nodup := by
  obtain ⟨d, op, T, pos, af, g⟩ := o
  unfold msOp at e
  split at e
  · obtain ⟨el, hel, e⟩ := qa e
    obtain ⟨sz, hsz, e⟩ := qa e
    obtain ⟨z, hz, e⟩ := qa e
    obtain ⟨l, hl, e⟩ := qa e
    split at e
    · cases e
    · obtain ⟨els, hels, e⟩ := qa e
      simp only [Option.some.injEq, Prod.mk.injEq] at e
      obtain ⟨rfl, rfl⟩ := e
      exact h
  · obtain ⟨el, hel, e⟩ := qa e
    obtain ⟨sz, hsz, e⟩ := qa e
    obtain ⟨by_, hby, e⟩ := qa e
    obtain ⟨z, hz, e⟩ := qa e
    obtain ⟨lv, hlv, e⟩ := qa e
    obtain ⟨ln, hln, e⟩ := qa e
    obtain ⟨cv, hcv, e⟩ := qa e
    obtain ⟨cn, hcn, e⟩ := qa e
    split at e
    · cases e
    · obtain ⟨_, e⟩ := qn e
      simp only [Option.some.injEq, Prod.mk.injEq] at e
      obtain ⟨rfl, rfl⟩ := e
      exact h
  · unfold msConv at e
    obtain ⟨u, hu, e⟩ := qa e
    split at e
    · obtain ⟨el, hel, e⟩ := qa e
      obtain ⟨_, e⟩ := qn e
      split at e <;>
        (simp only [Option.some.injEq, Prod.mk.injEq] at e
         obtain ⟨rfl, rfl⟩ := e
         exact h)
    · obtain ⟨el, hel, e⟩ := qa e
      obtain ⟨_, e⟩ := qn e
      obtain ⟨cs, hcs, e⟩ := qa e
      obtain ⟨els, hels, e⟩ := qa e
      obtain ⟨l, hl, e⟩ := qa e
      simp only [Option.some.injEq, Prod.mk.injEq] at e
      obtain ⟨rfl, rfl⟩ := e
      exact h
    · obtain ⟨r, hr, e⟩ := qa e
      simp only [Option.some.injEq, Prod.mk.injEq] at e
      obtain ⟨rfl, rfl⟩ := e
      exact h
  · unfold msLoad at e
    split at e
    · cases e
    obtain ⟨p, hp, e⟩ := qa e
    split at e
    · obtain ⟨ag, hg, e⟩ := qa e
      obtain ⟨cs, hl, e⟩ := qa e
      obtain ⟨v, hc, e⟩ := qa e
      split at e
      · cases e
      · simp only [Option.some.injEq, Prod.mk.injEq] at e
        obtain ⟨rfl, rfl⟩ := e
        exact h
    · cases e
  · unfold msSlice at e
    split at e
    · cases e
    obtain ⟨u, hu, e⟩ := qa e
    split at e
    · obtain ⟨_, _, e⟩ := qa e
      obtain ⟨_, _, e⟩ := qa e
      obtain ⟨_, _, e⟩ := qa e
      obtain ⟨_, _, e⟩ := qa e
      obtain ⟨_, _, e⟩ := qa e
      obtain ⟨_, _, e⟩ := qa e
      obtain ⟨_, _, e⟩ := qa e
      split at e
      · simp only [Option.some.injEq, Prod.mk.injEq] at e
        obtain ⟨rfl, rfl⟩ := e
        exact h
      · cases e
    · cases e
  · split at e
    · unfold msAppend at e
      obtain ⟨el, hel, e⟩ := qa e
      obtain ⟨sz, hsz, e⟩ := qa e
      obtain ⟨by_, hby, e⟩ := qa e
      obtain ⟨z, hz, e⟩ := qa e
      split at e
      · cases e
      · obtain ⟨⟨u, s⟩, hu, e⟩ := qa e
        obtain ⟨b, hbv, e⟩ := qa e
        obtain ⟨ys, hys, e⟩ := qa e
        have h1 := qa0 h hu
        simp only at e
        split at e
        · split at e
          · obtain ⟨cs, hcs, e⟩ := qa e
            obtain ⟨_, e⟩ := qn e
            simp only [Option.some.injEq, Prod.mk.injEq] at e
            obtain ⟨rfl, rfl⟩ := e
            exact h1
          · cases e
        · split at e <;>
            (obtain ⟨_, e⟩ := qn e
             simp only [Option.some.injEq, Prod.mk.injEq] at e
             obtain ⟨rfl, rfl⟩ := e
             exact h1)
        · split at e
          · split at e <;>
              (obtain ⟨_, e⟩ := qn e
               simp only [Option.some.injEq, Prod.mk.injEq] at e
               obtain ⟨rfl, rfl⟩ := e
               exact h1)
          · cases e
        · cases e
    · unfold msCopy at e
      obtain ⟨p, hp, e⟩ := qa e
      obtain ⟨b, hb, e⟩ := qa e
      obtain ⟨ys, hys, e⟩ := qa e
      split at e
      · split at e
        · obtain ⟨cs, hcs, e⟩ := qa e
          obtain ⟨_, e⟩ := qn e
          simp only [Option.some.injEq, Prod.mk.injEq] at e
          obtain ⟨rfl, rfl⟩ := e
          exact h
        · cases e
      · cases e
    · cases e
  · cases e
theorem qj5 {st st':St} {d:Option Tmp} {ty:TypeId} {cs:List AV} (h:(st.t.map (·.1)).Nodup) (e:newBox hh d ty cs st=some st'):(st'.t.map (·.1)).Nodup∧∃n,d=some n∧∃v,look st'.t n=some v∧∀d',isLp d' v=true→d'=n:=by
 cases d with
 | none=>cases e
 | some n =>
  simp only[newBox] at e
  split at e
  ·injection e with e;subst e
   exact⟨qbc _ _ _ h,n,rfl,_,by simp[qu];rfl,fun d' hd=>by cases hd⟩
  ·injection e with e;subst e
   exact⟨qbc _ _ _ ((qez _ _).nodup h),n,rfl,_,by simp[qu];rfl,fun d' hd=>by simp[isLp] at hd;exact hd.symm⟩
theorem qh2 {o:Oper} {st st':St} (h:(st.t.map (·.1)).Nodup) (e:stepOp P hh C o st=some st'):(st'.t.map (·.1)).Nodup∧(isAlloc o=true→∃n,o.dst=some n∧∃v,look st'.t n=some v∧∀d',isLp d' v=true→d'=n):=by
 have val:isAlloc o=false→(bnd (if isMs hh o.dst then msOp P hh o st else opVal P hh C o st) fun p=>some (p.2.put o.dst p.1))=some st'→(st'.t.map (·.1)).Nodup∧(isAlloc o=true→∃n,o.dst=some n∧∃v,look st'.t n=some v∧∀d',isLp d' v=true→d'=n):=by
  intro ha e
  obtain⟨⟨v,s⟩,hv,e⟩:=qa e
  injection e with e;subst e
  refine⟨qj4 ?_,fun h=>by rw[ha] at h;cases h⟩
  split at hv
  ·exact qtn h hv
  ·exact qqc h hv
 obtain⟨d,op,T,pos,af,g⟩:=o
 cases op with
 | alloc t =>
  simp only[stepOp] at e
  obtain⟨z,hz,e⟩:=qa e
  have:=qj5 h e
  exact⟨this.1,fun _=>this.2⟩
 | box t x =>
  simp only[stepOp] at e
  obtain⟨⟨u,s⟩,hu,e⟩:=qa e
  simp only at e
  split at e
  ·obtain⟨v,hv,e⟩:=qa e
   have:=qj5 (qa0 h hu) e
   exact⟨this.1,fun _=>this.2⟩
  ·cases e
 | store t y x =>
  refine⟨?_,fun h=>by cases h⟩
  cases d with
  | some _=>simp only[stepOp] at e;cases e
  | none =>
  simp only[stepOp] at e
  unfold storeA at e
  obtain⟨p,hpa,e⟩:=qa e
  obtain⟨⟨u,s⟩,hu,e⟩:=qa e
  split at e
  ·obtain⟨sz,hsz,e⟩:=qa e
   obtain⟨v,hv,e⟩:=qa e
   obtain⟨⟨cs,off⟩,hbx,e⟩:=qa e
   simp only at e
   split at e
   ·cases p with
    | lp dd i=>simp only[setBox] at e;injection e with e;subst e;have:=qa0 h hu;exact this
    | gp dd i sh=>simp only[setBox] at e;injection e with e;subst e;have:=qa0 h hu;exact this
    | _=>cases e
   ·cases e
  ·cases e
 | _=>exact val rfl e
end
end Go.AI
end
section
namespace Go.AI
set_option linter.unusedVariables false
theorem tk_mem {hh:Hint} {o:Oper} {x:Nat} (h:tkT hh o=some x):Operand.tmp x∈o.op.operands:=by
 obtain⟨d,op,T,pos,af,g⟩:=o
 cases op with
 | assign y=>cases y<;>simp_all [tkT,Op.operands]
 | move y=>cases y<;>simp_all [tkT,Op.operands]
 | extract y i=>cases y<;>simp_all [tkT,Op.operands]
 | box t y=>cases y<;>simp_all [tkT,Op.operands]
 | store t y z=>cases z<;>simp_all [tkT,Op.operands]
 | call c =>
  obtain⟨callee,xs,ts⟩:=c
  simp only[tkT] at h
  split at h
  ·rename_i hx
   have:Operand.tmp x∈xs.toList:=by rw[hx];injection h with h;subst h;exact List.mem_cons_self ..
   simp only[Op.operands,Call.operands]
   exact Array.mem_append_right _ (by simpa using this)
  ·split at h
   ·rename_i i hi
    split at h
    ·rename_i y hy
     injection h with h;subst h
     have:Operand.tmp y∈xs.toList:=List.mem_of_getElem? hy
     simp only[Op.operands,Call.operands]
     exact Array.mem_append_right _ (by simpa using this)
    ·cases h
   ·cases h
  ·cases h
 | _=>simp[tkT] at h
theorem mem_iff (l:List Nat) (i:Nat):mem l i=true↔i∈l:=by
 induction l with
 | nil=>simp[mem]
 | cons j r ih =>
  simp only[mem]
  by_cases h:j=i
  ·simp[h]
  ·simp only[if_neg h,ih,List.mem_cons]
   exact⟨.inr,fun h'=>h'.resolve_left fun e=>h e.symm⟩
theorem qlm {d:Nat} {ops:List Oper} {i:Nat} {o:Oper} (h:ops[i]? = some o) (ha:isAlloc o=true) (hd:o.dst=some d):mem (allocDs ops) d=true:=by
 rw[mem_iff]
 induction ops generalizing i with
 | nil=>simp at h
 | cons p r ih =>
  cases i with
  | zero =>
   simp at h;subst h
   simp only[allocDs]
   unfold isAlloc at ha
   split at ha<;>simp_all
  | succ i =>
   simp at h
   have:=ih h
   simp only[allocDs]
   split<;>simp[this]
theorem qed {ds:List Nat} {t:List (Nat×AV)} {l:List Nat} (h:okAll ds t l=true) {x:Nat} (hx:x∈l):okLp ds (look t x)=true:=by
 induction l with
 | nil=>cases hx
 | cons y r ih =>
  simp only[okAll,Bool.and_eq_true] at h
  cases hx with
  | head=>exact h.1
  | tail _ hx=>exact ih h.2 hx
theorem qb2 (ds:List Nat):∀(t:List (Nat×AV)),(t.map (·.1)).Nodup→((dropAll ds t).map (·.1)).Nodup∧∀i v,look (dropAll ds t) i=some v→look t i=some v∧∀d∈ds,isLp d v=false:=by
 induction ds with
 | nil=>intro t h;exact⟨h,fun i v e=>⟨e,fun d hd=>by cases hd⟩⟩
 | cons d r ih =>
  intro t h
  have hn:=(qez d t).nodup h
  obtain⟨h1,h2⟩:=ih (dropLp d t) hn
  refine⟨h1,fun i v e=>?_⟩
  obtain⟨h3,h4⟩:=h2 i v e
  obtain⟨h5,h6⟩:=qd2 d t h i v h3
  refine⟨h5,fun d' hd=>?_⟩
  cases hd with
  | head=>exact h6
  | tail _ hd=>exact h4 d' hd
def last {α:Type} (S:Nat→Bool) (W:Nat→Bool) (v:Nat→α):Nat→α
 | 0=>v 0
 | k+1=>if S k&&W k then v (k+1) else last S W v k
theorem qbi {α : Type} {S W : Nat → Bool} {v : Nat → α} {i : Nat} (hf : ∀ k, k < i → W k = false → v (k + 1) = v k) : ∀ n, i ≤ n → (∀ k, k < i → W k = true → S k = true) → (∀ k, i ≤ k → k < n → W k = true → S k = false) → last S W v n = v i := by
  have lo : ∀ m, m ≤ i → (∀ k, k < i → W k = true → S k = true) → last S W v m = v m := by
    intro m
    induction m with
    | zero => intro _ _; rfl
    | succ m ih =>
      intro hm h
      simp only [last]
      cases hw : W m with
      | true => simp [h m (by omega) hw]
      | false => simp only [Bool.and_false, Bool.false_eq_true, if_false]; rw [ih (by omega) h, hf m (by omega) hw]
  intro n
  induction n with
  | zero => intro hi h1 h2; obtain rfl : i = 0 := by omega
            rfl
  | succ n ih =>
    intro hi h1 h2
    by_cases hn : i = n + 1
    · subst hn; exact lo _ (Nat.le_refl _) h1
    · simp only [last]
      rw [if_neg, ih (by omega) h1 fun k h3 h4 => h2 k h3 (by omega)]
      simp only [Bool.and_eq_true, not_and]
      intro hs hw
      rw [h2 n (by omega) (by omega) hw] at hs; cases hs
theorem qio {α:Type} {S S' W:Nat→Bool} {v:Nat→α} {i:Nat} (hS:∀k,S' k=(S k||decide (k=i))):∀n,i<n→(W i=true→∀k,i<k→k<n→W k=true→S k=false) →
  last S' W v n=if W i then v (i+1) else last S W v n:=by
 have lo:∀m,m≤i→last S' W v m=last S W v m:=by
  intro m
  induction m with
  | zero=>intro _;rfl
  | succ m ih=>intro hm;simp only[last,hS m,show decide (m=i)=false from by simp;omega,Bool.or_false,ih (by omega)]
 intro n
 induction n with
 | zero=>intro h;omega
 | succ n ih =>
  intro hi h
  by_cases hn:i=n
  ·subst hn
   simp only[last,hS i,lo i (Nat.le_refl _)]
   cases W i<;>simp
  ·have hs':S' n=S n:=by rw[hS n];simp;omega
   simp only[last,hs']
   rw[ih (by omega) fun hw k h1 h2=>h hw k h1 (by omega)]
   cases hw:W i with
   | false=>simp
   | true =>
    simp only[if_true]
    rw[if_neg]
    simp only[Bool.and_eq_true,not_and]
    intro h1 h2
    rw[h hw n (by omega) (by omega) h2] at h1;cases h1
theorem qip {α:Type} {S W:Nat→Bool} {v:Nat→α}:∀n,last S W v n=v 0∨∃k,k<n∧S k=true∧W k=true∧last S W v n=v (k+1):=by
 intro n
 induction n with
 | zero=>exact .inl rfl
 | succ n ih =>
  simp only[last]
  split
  ·rename_i h;simp only[Bool.and_eq_true] at h;exact .inr ⟨n,by omega,h.1,h.2,rfl⟩
  ·rcases ih with h|⟨k,h1,h2,h3,h4⟩
   ·exact .inl h
   ·exact .inr ⟨k,by omega,h2,h3,h4⟩
end Go.AI
end
section
namespace Go.AI
set_option linter.unusedVariables false
theorem qc8 {a b:Option Nat}:meetB a b=true↔∃x,a=some x∧b=some x:=by
 unfold meetB
 split
 ·rename_i x y
  simp only[beq_iff_eq,Option.some.injEq]
  exact⟨fun h=>⟨x,rfl,h.symm⟩,fun ⟨z,h1,h2⟩=>h1.trans h2.symm⟩
 ·rename_i hn
  constructor
  ·intro h;cases h
  ·rintro⟨x,rfl,rfl⟩;exact absurd rfl (hn x x rfl)
section
variable {P:Program} {hh:Hint} {C:Oracle}
def qqd (P:Program) (hh:Hint) (C:Oracle) (ops:List Oper) (o:Oper) (st st':St):Prop :=
 (wantedA ops o.guard st=some true∧stepOp P hh C o st=some st')∨(wantedA ops o.guard st=some false∧st'=st.put o.dst (.tup []))
theorem qgf {ds:List Nat} {ops:List Oper} {o:Oper} {st st' st2:St} (h:StepD P hh C ds ops o st st') (ha:Ahead hh o st st2) (hg:wantedA ops o.guard st2=wantedA ops o.guard st) :
  ∃st2',qqd P hh C ops o st2 st2'∧Alike (wrT hh o) (boxW hh o) st' st2 st2'∧SRel hh o st st' st2 st2':=by
 rcases h with ⟨h1,h2,h3,h4,h5⟩|⟨h1,h2,_⟩
 ·obtain⟨st2',h6,h7,h8⟩:=qhz h2 ha h3
  exact⟨st2',.inl ⟨by rw[hg,h1],h6⟩,h7,h8⟩
 ·refine⟨_,.inr ⟨by rw[hg,h1],rfl⟩,⟨fun x=>?_,fun d=>?_⟩,.inl ⟨?_,?_⟩⟩
  ·subst h2
   cases hd:o.dst with
   | none =>
    simp only[St.put,wrT,hd,Option.toList_none,List.nil_append]
    split
    ·rename_i hx
     have:=ha.t _ (tk_mem (by simpa using hx))
     exact this
    ·rfl
   | some d =>
    simp only[St.put,qu,wrT,hd,Option.toList_some,List.cons_append,List.nil_append,List.mem_cons]
    by_cases hx:x=d
    ·simp[hx]
    ·simp only[hx,if_false,false_or]
     split
     ·rename_i hx
      exact ha.t _ (tk_mem (by simpa using hx))
     ·rfl
  ·subst h2
   have e1:(st2.put o.dst (.tup [])).l=st2.l:=by cases o.dst<;>rfl
   have e2:(st.put o.dst (.tup [])).l=st.l:=by cases o.dst<;>rfl
   rw[e1,e2]
   split
   ·rename_i hb;exact ha.b d (.inr hb)
   ·rfl
  ·subst h2;cases o.dst<;>rfl
  ·cases o.dst<;>rfl
def dS (s:List (List AV)):List (List AV):=s.map (·.map dem1)
theorem qto (v:AV):dem (dem1 v)=dem v:=by cases v<;>rfl
theorem qj6 (v:AV):dem1 (dem1 v)=dem1 v:=by cases v<;>rfl
theorem qz6 {s s2:List (List AV)} (e:dS s2=dS s) (b:Nat):(s2[b]?).map (·.map dem1)=(s[b]?).map (·.map dem1):=by
 have:=congrArg (fun x:List (List AV)=>x[b]?) e
 simpa[dS] using this
theorem qh3 {a b:List AV} (e:a.map dem1=b.map dem1):a.map dem=b.map dem:=by
 have h:∀l:List AV,l.map dem=(l.map dem1).map dem:=fun l=>by
  rw[List.map_map];exact List.map_congr_left fun x _=>(qto x).symm
 rw[h a,h b,e]
theorem qj7 {t:TypeId} {a b:List AV} {i:Nat} (e:a.map dem1=b.map dem1):(readCells P t a i).map dem=(readCells P t b i).map dem:=by
 have hl:a.length=b.length:=by simpa using congrArg List.length e
 unfold readCells
 cases isAggA P t with
 | none=>rfl
 | some g =>
  cases sizeA P t with
  | none=>rfl
  | some n =>
   simp only[bnd]
   cases g with
   | true =>
    simp only[if_true,hl]
    split
    ·have:((a.drop i).take n).map dem=((b.drop i).take n).map dem:=by
      rw[List.map_take,List.map_drop,qh3 e,List.map_take,List.map_drop]
     rw[this]
    ·rfl
   | false =>
    simp only[Bool.false_eq_true,if_false]
    have:=congrArg (fun x:List AV=>x[i]?) (qh3 e)
    simpa using this
theorem qiq {o:Oper} (h:plS hh o=true):∃t a,o.op=.load t a∧isMs hh o.dst=false∧allowS hh o=false∧seesS hh o=true:=by
 unfold plS at h
 split at h
 ·rename_i t a ho
  simp only[Bool.and_eq_true,Bool.not_eq_true'] at h
  refine⟨t,a,ho,h.1.2,h.2,?_⟩
  unfold seesS;rw[ho];exact h.1.1
 ·cases h
theorem qqe {o:Oper} {st:St} {s2:List (List AV)} {t:TypeId} {x:Operand} (ho:o.op=.load t x) (e:∀b off sh,aeval st x=some (.gp b off sh)→b<st.s.length→(s2[b]?).map (·.map dem1)=(st.s[b]?).map (·.map dem1)) (hne:opPure P hh o st≠none):opPure P hh o {st with s:=s2}=opPure P hh o st:=by
 obtain⟨d,op,T,pos,af,g⟩:=o
 simp only at ho
 subst ho
 have ha:aeval {st with s:=s2} x=aeval st x:=by cases x<;>rfl
 simp only[opPure,ha] at hne ⊢
 cases hap:aeval st x with
 | none=>rfl
 | some p =>
  rw[hap] at e hne
  simp only[bnd] at hne ⊢
  cases p with
  | gp b off sh =>
   simp only[boxOf,bnd] at hne ⊢
   have hlt:b<st.s.length:=by
    cases hq:st.s[b]? with
    | none=>rw[hq] at hne;exact absurd rfl hne
    | some c=>exact (List.getElem?_eq_some_iff.1 hq).1
   have:=e b off sh rfl hlt
   cases h1:s2[b]? with
   | none =>
    rw[h1] at this
    cases h2:st.s[b]? with
    | none=>rfl
    | some c=>rw[h2] at this;cases this
   | some c2 =>
    rw[h1] at this
    cases h2:st.s[b]? with
    | none=>rw[h2] at this;cases this
    | some c =>
     rw[h2] at this
     simp only[Option.map_some,Option.some.injEq] at this
     simp only
     have hr:=qj7 (P:=P) (t:=t) (i:=off) this
     cases h3:readCells P t c2 off with
     | none =>
      rw[h3] at hr
      cases h4:readCells P t c off with
      | none=>rfl
      | some v=>rw[h4] at hr;cases hr
     | some v2 =>
      rw[h3] at hr
      cases h4:readCells P t c off with
      | none=>rw[h4] at hr;cases hr
      | some v =>
       rw[h4] at hr
       simp only[Option.map_some,Option.some.injEq] at hr
       simp only[hr]
  | _=>rfl
theorem qj8 {o:Oper} {st st':St} {s2:List (List AV)} (hp:plS hh o=true) (e:∀t x b off sh,o.op=.load t x→aeval st x=some (.gp b off sh)→b<st.s.length→(s2[b]?).map (·.map dem1)=(st.s[b]?).map (·.map dem1)) (h:stepOp P hh C o st=some st'):stepOp P hh C o {st with s:=s2}=some {st' with s:=s2}∧st'.s=st.s:=by
 obtain⟨t,a,ho,hm,_,_⟩:=qiq hp
 have key:∀st:St,stepOp P hh C o st=bnd (opPure P hh o st) fun v=>some (st.put o.dst v):=by
  intro st
  unfold stepOp
  rw[ho]
  simp only[hm,Bool.false_eq_true,if_false,opVal,ho]
  cases opPure P hh o st<;>rfl
 rw[key] at h ⊢
 rw[qqe ho (fun b off sh=>e t a b off sh ho) (fun hn=>by rw[hn] at h;cases h)]
 obtain⟨v,hv,h⟩:=qa h
 injection h with h
 rw[hv]
 subst h
 constructor
 ·simp only[bnd];cases o.dst<;>rfl
 ·cases o.dst<;>rfl
theorem qj9 {ds:List Nat} {ops:List Oper} {o:Oper} {st st' st2:St} (h:StepD P hh C ds ops o st st') (ht:∀x∈o.op.operands,aeval st2 x=aeval st x)
  (hs:seesS hh o=true→plS hh o=false→st2.s=st.s) (hs2:plS hh o=true→∀t x b off sh,o.op=.load t x→aeval st x=some (.gp b off sh)→b<st.s.length→(st2.s[b]?).map (·.map dem1)=(st.s[b]?).map (·.map dem1)) (hb:∀d,boxR hh o=some d∨boxW hh o=some d→look st2.l d=look st.l d)
  (hn:∀d,isAlloc o=true→o.dst=some d→noLp d st2.t=true) (hg:wantedA ops o.guard st2=wantedA ops o.guard st) :
  ∃st2',qqd P hh C ops o st2 st2'∧Alike (wrT hh o) (boxW hh o) st' st2 st2'∧((st'.s=st.s∧st2'.s=st2.s)∨(seesS hh o=true∧plS hh o=false∧st2'.s=st'.s)):=by
 cases hp:plS hh o with
 | false =>
  obtain⟨s,h1,h2,h3⟩:=qgf h ⟨ht,fun q=>hs q hp,hb,hn⟩ hg
  refine⟨s,h1,h2,?_⟩
  rcases h3 with h3|⟨h3,h4⟩
  ·exact .inl h3
  ·exact .inr ⟨h3,rfl,h4⟩
 | true =>
  have ha:Ahead hh o st {st2 with s:=st.s}:=⟨fun x hx=>by rw[← ht x hx];cases x<;>rfl,fun _=>rfl,hb,hn⟩
  obtain⟨s,h1,h2,h3⟩:=qgf h ha (by rw[← hg];rfl)
  refine⟨{s with s:=st2.s},?_,⟨h2.t,h2.l⟩,.inl ⟨?_,rfl⟩⟩
  ·rcases h1 with ⟨g1,g2⟩|⟨g1,g2⟩
   ·exact .inl ⟨g1,(qj8 (st:={st2 with s:=st.s}) (st':=s) (s2:=st2.s) hp (fun t x b off sh h1 h2=>hs2 hp t x b off sh h1 (by rw[← ht x (by rw[h1];simp[Op.operands])];rw[← h2];cases x<;>rfl)) g2).1⟩
   ·refine .inr ⟨g1,?_⟩
    rw[g2];cases o.dst<;>rfl
  ·rcases h with ⟨_,_,q,_,_⟩|⟨_,q,_⟩
   ·exact (qj8 (s2:=st.s) hp (fun _ _ _ _ _ _ _ _=>rfl) q).2
   ·rw[q];cases o.dst<;>rfl
theorem qz7 {s:List (List AV)} {b off:Nat} {cs:List AV} {v:AV} (h:s[b]? = some cs) (hv:cs[off]? = some v):dS (s.set b (cs.set off (dem1 v)))=dS s:=by
 have h1:(cs.set off (dem1 v)).map dem1=cs.map dem1:=by
  apply List.ext_getElem?
  intro j
  rw[List.getElem?_map,List.getElem?_map,List.getElem?_set]
  split
  ·rename_i hj
   subst hj
   have hlt:=(List.getElem?_eq_some_iff.1 hv).1
   rw[if_pos hlt,hv];simp[qj6]
  ·rfl
 unfold dS
 apply List.ext_getElem?
 intro j
 rw[List.getElem?_map,List.getElem?_map,List.getElem?_set]
 split
 ·rename_i hj
  subst hj
  have hlt:=(List.getElem?_eq_some_iff.1 h).1
  rw[if_pos hlt,h];simp[h1]
 ·rfl
theorem qtp {ds:List Nat} {ops:List Oper} {o:Oper} {st st':St} (h:StepD P hh C ds ops o st st') (hm:mvS hh o=true):dS st'.s=dS st.s:=by
 unfold mvS at hm
 split at hm
 ·rename_i t a ho
  rcases h with ⟨_,_,q,_,_⟩|⟨_,rfl,_⟩
  ·unfold stepOp at q
   rw[ho] at q
   simp only at q
   obtain⟨⟨v,s⟩,hv,q⟩:=qa q
   injection q with q
   have e:st'.s=s.s:=by rw[← q];cases o.dst<;>rfl
   rw[e]
   split at hv
   ·simp only[msOp,ho,msLoad] at hv
    split at hv
    ·cases hv
    ·obtain⟨p,_,hv⟩:=qa hv
     split at hv
     ·obtain⟨g,_,hv⟩:=qa hv
      obtain⟨cs,hcs,hv⟩:=qa hv
      obtain⟨u,hu,hv⟩:=qa hv
      split at hv
      ·cases hv
      ·simp only[Option.some.injEq,Prod.mk.injEq] at hv
       obtain⟨_,rfl⟩:=hv
       exact qz7 hcs hu
     ·cases hv
   ·simp only[opVal,ho] at hv
    obtain⟨u,_,hv⟩:=qa hv
    simp only[Option.some.injEq,Prod.mk.injEq] at hv
    obtain⟨_,rfl⟩:=hv
    rfl
  ·cases o.dst<;>rfl
 ·cases hm
theorem qfq {b:Bool} {o:Oper} {x:Nat} (h:mvM hh b o=some x):o.op=.move (.tmp x)∧isMs hh o.dst=false∧steals hh o.dst=b∧o.guard=none∧o.dst≠some x:=by
 unfold mvM at h
 split at h
 ·rename_i y hy
  split at h
  ·rename_i hc
   injection h with h;subst h
   simp only[Bool.and_eq_true,Bool.not_eq_true',beq_iff_eq,bne_iff_ne,ne_eq,Option.isNone_iff_eq_none] at hc
   exact⟨hy,hc.1.1.1,hc.1.1.2,hc.1.2,hc.2⟩
  ·cases h
 ·cases h
theorem qh4 {b:Bool} {ds:List Nat} {ops:List Oper} {o:Oper} {st st':St} {x:Nat} (h:StepD P hh C ds ops o st st') (hm:mvM hh b o=some x) :
  ∃v,look st.t x=some v∧st'=({st with t:=if b then ins st.t x (dem v) else st.t}:St).put o.dst (if b then v else dem v):=by
 obtain⟨h1,h2,h3,h4,h5⟩:=qfq hm
 rcases h with ⟨_,_,q,_,_⟩|⟨q,_,_⟩
 ·unfold stepOp at q
  simp only[h1,h2,Bool.false_eq_true,if_false,opVal,lend,h3] at q
  obtain⟨⟨u,s⟩,hu,q⟩:=qa q
  injection q with q;subst q
  cases b with
  | true =>
   simp only[if_true,takeOp] at hu ⊢
   obtain⟨v,hv,hu⟩:=qa hu
   simp only[Option.some.injEq,Prod.mk.injEq] at hu
   obtain⟨rfl,rfl⟩:=hu
   exact⟨v,hv,rfl⟩
  | false =>
   simp only[Bool.false_eq_true,if_false,aeval] at hu ⊢
   obtain⟨v,hv,hu⟩:=qa hu
   simp only[Option.some.injEq,Prod.mk.injEq] at hu
   obtain⟨rfl,rfl⟩:=hu
   exact⟨v,hv,rfl⟩
 ·rw[h4] at q;cases q
theorem qm9 (v:AV):dem (dem v)=dem v:=by
 cases v with
 | tup xs=>simp only[dem,List.map_map];congr 1;apply List.map_congr_left;intro y _;exact qj6 y
 | _=>rfl
theorem qtq {ds:List Nat} {ops:List Oper} {o:Oper} {st st':St} {x:Nat} (h:StepD P hh C ds ops o st st') (hm:mvM hh true o=some x):(look st'.t x).map dem=(look st.t x).map dem:=by
 obtain⟨v,hv,rfl⟩:=qh4 h hm
 have h5:=(qfq hm).2.2.2.2
 cases hd:o.dst with
 | none=>simp[St.put,qu,hv,qm9]
 | some d =>
  have:x≠d:=fun e=>h5 (by rw[hd,e])
  simp[St.put,qu,this,hv,qm9]
theorem qtr {ds:List Nat} {ops:List Oper} {o:Oper} {st st' st2:St} {x:Nat} (h:StepD P hh C ds ops o st st') (hm:mvM hh false o=some x) (hx:(look st2.t x).map dem=(look st.t x).map dem) :
  ∃st2',qqd P hh C ops o st2 st2'∧Alike (wrT hh o) (boxW hh o) st' st2 st2'∧((st'.s=st.s∧st2'.s=st2.s)∨(seesS hh o=true∧plS hh o=false∧st2'.s=st'.s)):=by
 obtain⟨v,hv,rfl⟩:=qh4 h hm
 obtain⟨h1,h2,h3,h4,h5⟩:=qfq hm
 rw[hv] at hx
 cases hu:look st2.t x with
 | none=>rw[hu] at hx;cases hx
 | some u =>
  rw[hu] at hx
  simp only[Option.map_some,Option.some.injEq] at hx
  have hw:wrT hh o=o.dst.toList:=by
   unfold wrT tkT
   simp only[h1,h3,Bool.false_eq_true,if_false,Option.toList_none,List.append_nil]
  have hb:boxW hh o=none:=by unfold boxW;simp only[h1]
  refine⟨st2.put o.dst (dem v),.inl ⟨by rw[h4];rfl,?_⟩,⟨fun y=>?_,fun d=>?_⟩,.inl ⟨?_,?_⟩⟩
  ·unfold stepOp
   simp only[h1,h2,Bool.false_eq_true,if_false,opVal,lend,h3,aeval,hu,bnd,hx]
  ·rw[hw]
   cases hd:o.dst with
   | none=>simp[St.put]
   | some d =>
    simp only[St.put,qu,Option.toList_some,List.mem_singleton,Bool.false_eq_true,if_false]
    split<;>rfl
  ·rw[hb];cases o.dst<;>simp[St.put]
  ·cases o.dst<;>rfl
  ·cases o.dst<;>rfl
theorem qts {α β:Type} (g:α→β) {S W:Nat→Bool} {v:Nat→α}:∀n,g (last S W v n)=last S W (fun k=>g (v k)) n:=by
 intro n
 induction n with
 | zero=>rfl
 | succ n ih=>simp only[last];split;rfl;exact ih
theorem qqf {α:Type} {S A W:Nat→Bool} {v:Nat→α} (hW:∀k,W k=true→A k=true):∀n,(∀k,k<n→W k=false→v (k+1)=v k)→(∀j k,j<k→k<n→A j=true→A k=true→S k=true→S j=true)→last S A v n=last S W v n:=by
 intro n
 induction n with
 | zero=>intro _ _;rfl
 | succ n ih =>
  intro h1 h2
  have ihn:=ih (fun k hk=>h1 k (by omega)) (fun j k a b=>h2 j k a (by omega))
  simp only[last]
  by_cases hA:(S n&&A n)=true
  ·rw[if_pos hA]
   simp only[Bool.and_eq_true] at hA
   cases hw:W n with
   | true=>simp[hA.1]
   | false =>
    simp only[Bool.and_false,Bool.false_eq_true,if_false]
    rw[h1 n (by omega) hw]
    exact (qbi (i:=n) (fun k hk=>h1 k (by omega)) n (Nat.le_refl _) (fun k hk hwk=>h2 k n hk (by omega) (hW k hwk) hA.2 hA.1) (fun k a b=>by omega)).symm
  ·rw[if_neg hA,ihn]
   split
   ·rename_i hq
    simp only[Bool.and_eq_true] at hA hq
    exact absurd ⟨hq.1,hW n hq.2⟩ hA
   ·rfl
theorem qqg {ds:List Nat} {ops:List Oper} {o:Oper} {st st':St} (h:StepD P hh C ds ops o st st') (hn:allowS hh o=false):st'.s=st.s:=by
 rcases h with ⟨h1,h2,h3,h4,h5⟩|⟨h1,rfl,hk⟩
 ·rcases h4.1 with h4|h4
  ·rw[hn] at h4;cases h4
  ·exact h4
 ·cases o.dst<;>rfl
theorem qln {ds:List Nat} {ops:List Oper} {o:Oper} {st st':St} (h:StepD P hh C ds ops o st st') (hn:(st.t.map (·.1)).Nodup):(st'.t.map (·.1)).Nodup:=by
 rcases h with ⟨h1,h2,h3,h4,h5⟩|⟨h1,rfl,hk⟩
 ·exact (qh2 hn h3).1
 ·exact qj4 hn
theorem qlo {ds:List Nat} {ops:List Oper} {o:Oper} {st st':St} (h:StepD P hh C ds ops o st st') :
  (∀x,x∉wrT hh o→look st'.t x=look st.t x)∧(∀d,boxW hh o≠some d→look st'.l d=look st.l d):=by
 rcases h with ⟨h1,h2,h3,h4,h5⟩|⟨h1,rfl,hk⟩
 ·have ha:Ahead hh o st st:=⟨fun _ _=>rfl,fun _=>rfl,fun _ _=>rfl,fun d ha hd=>by
   unfold preD at h2
   unfold isAlloc at ha
   split at ha
   ·rename_i heq;rw[heq] at h2;simp only[hd] at h2;exact h2
   ·rename_i heq;rw[heq] at h2;simp only[hd] at h2;exact h2
   ·cases ha⟩
  obtain⟨st2,h6,h7,_⟩:=qhz h2 ha h3
  rw[h3] at h6
  injection h6 with h6;subst h6
  exact⟨fun x hx=>by have:=h7.t x;rw[if_neg hx] at this;exact this,fun d hd=>by have:=h7.l d;rw[if_neg hd] at this;exact this⟩
 ·refine⟨fun x hx=>?_,fun d hd=>?_⟩
  ·cases hd:o.dst with
   | none=>rfl
   | some d =>
    simp only[St.put,qu]
    rw[if_neg]
    intro e;subst e;exact hx (by simp[wrT,hd])
  ·cases o.dst<;>rfl
theorem qoh {ops:List Oper} {i:Nat} {o:Oper} {st st':St} (h:StepD P hh C (allocDs ops) ops o st st') (hn:(st.t.map (·.1)).Nodup) (ho:ops[i]? = some o) {x d:Nat} (hx:x∈wrT hh o) (hd:mem (allocDs ops) d=true)
  {v:AV} (hv:look st'.t x=some v) (hl:isLp d v=true):isAlloc o=true∧o.dst=some d:=by
 rcases h with ⟨h1,h2,h3,h4,h5⟩|⟨h1,rfl,hk⟩
 ·have bad:okLp (allocDs ops) (look st'.t x)=true→False:=by
   intro hk
   rw[hv] at hk
   cases v with
   | lp d' i' =>
    simp only[isLp,beq_iff_eq] at hl
    subst hl
    simp only[okLp,hd] at hk;cases hk
   | _=>cases hl
  by_cases ha:isAlloc o=true
  ·refine⟨ha,?_⟩
   obtain⟨n,h6,u,h7,h8⟩:=(qh2 hn h3).2 ha
   have hpd:okAll (allocDs ops) st'.t (tkT hh o).toList=true:=by
    unfold postD at h5
    unfold isAlloc at ha
    split at ha
    ·rename_i heq;rw[heq] at h5;exact h5
    ·rename_i heq;rw[heq] at h5;exact h5
    ·cases ha
   simp only[wrT,h6,Option.toList_some,List.cons_append,List.nil_append,List.mem_cons] at hx
   rcases hx with rfl|hx
   ·rw[h7] at hv;injection hv with hv;subst hv
    rw[h8 d hl];exact h6
   ·exact (bad (qed hpd hx)).elim
  ·have hpd:okAll (allocDs ops) st'.t (wrT hh o)=true:=by
    unfold postD at h5
    unfold isAlloc at ha
    split at h5
    ·rename_i heq;rw[heq] at ha;exact absurd rfl ha
    ·rename_i heq;rw[heq] at ha;exact absurd rfl ha
    ·exact h5
   exact (bad (qed hpd hx)).elim
 ·exfalso
  have old:∀y,y∈(tkT hh o).toList→look st.t y=some v→False:=fun y hy e=>by
   have:=qed hk hy
   rw[e] at this
   cases v with
   | lp d' i' =>
    simp only[isLp,beq_iff_eq] at hl
    subst hl
    simp only[okLp,hd] at this;cases this
   | _=>cases hl
  cases hd':o.dst with
  | none =>
   rw[hd'] at hv
   simp only[wrT,hd',Option.toList_none,List.nil_append] at hx
   exact old x hx hv
  | some d' =>
   rw[hd'] at hv
   simp only[St.put,qu] at hv
   simp only[wrT,hd',Option.toList_some,List.cons_append,List.nil_append,List.mem_cons] at hx
   split at hv
   ·injection hv with hv;subst hv;cases hl
   ·rename_i hne
    exact old x (hx.resolve_left hne) hv
end
end Go.AI
end
