/- Part 35 of a proof: Go functions are evaluated on abstract values; no conditions beyond those of each theorem. -/
import Derived.Test.YtjkkcelnfokplaaGreatDoorFi34
set_option linter.all false
set_option maxHeartbeats 16000000
set_option maxRecDepth 4000
section
namespace Go.Proofs.Tryz.Ai
open Go Go.AI Go.RowKit Go.Proofs
def mfZ:List AV:=[.str [],.str [],.sl .nil [],.sl .nil [],.sl .nil [],.sl .nil []]
theorem qvm (b2 b3 b4:Nat) (s2 s3 s4:Option (TypeId×Nat)) (line err:Int) (σ:List (List AV)) (c2:List AV) (n3 n4:Int) (hc:c2.length=6) (h23:b2≠b3) (h24:b2≠b4) (h34:b3≠b4)
  (hs2:σ[b2]? = some c2) (hs3:σ[b3]? = some [.int .i64 n3]) (hs4:σ[b4]? = some [.int .i64 n4]) :
  Post (EXEC prog h32 (EV prog H T) closX ⟨[(0,.gp b2 0 s2),(1,.gp b3 0 s3),(2,.gp b4 0 s4),(11,.agg [.int .i64 line,.int .i64 err])],[],σ⟩) fun e st=>e=.normal∧st.s=((σ.set b2 mfZ).set b3 [.int .i64 line]).set b4 [.int .i64 err]:=by
 have hb2:=(List.getElem?_eq_some_iff.1 hs2).1
 have hb3:=(List.getElem?_eq_some_iff.1 hs3).1
 have hb4:=(List.getElem?_eq_some_iff.1 hs4).1
 match c2,hc with
 | [a0,a1,a2,a3,a4,a5],_ =>
  have f3:∀(x:List AV),(σ.set b2 x)[b3]? = some [.int .i64 n3]:=fun x=>by rw[List.getElem?_set,if_neg h23];exact hs3
  have f4:∀(x y:List AV),((σ.set b2 x).set b3 y)[b4]? = some [.int .i64 n4]:=fun x y=>by rw[List.getElem?_set,if_neg h34,List.getElem?_set,if_neg h24];exact hs4
  refine qev (by rfl) ?_
  simp (maxSteps:=mS) [-getElem?_pos,hs2,hs3,hs4,f3,f4]
  rfl
abbrev fltW (line err:Int):Value:=.iface 81 (.agg #[.int .i64 line,.int .i64 err])
section
variable {B:Nat} {T0:Nat→Prop} {μ0:Gh} {w0:World} {N:Nat} {μ:Gh} {lx:Nat→Option Nat} {a:Act} {w:World} {st:St} {W0:World}
theorem qr8 (hm:prog.follows .mixedOrders=true) (hC:OracleOk prog B W0 (EV prog H T)) (h:Sim B T0 μ0 w0 N μ lx a w st) (hW:Below B W0 w0)
  (b2 b3 b4:Nat) (s2 s3 s4:Option (TypeId×Nat)) (line err:Int) (c2:List AV) (n3 n4:Int) (hc:c2.length=6) (h23:b2≠b3) (h24:b2≠b4) (h34:b3≠b4)
  (hs2:st.s[b2]? = some c2) (hs3:st.s[b3]? = some [.int .i64 n3]) (hs4:st.s[b4]? = some [.int .i64 n4]) (p2 p3 p4:Value)
  (r2:Rep B μ w p2 (.gp b2 0 s2)) (r3:Rep B μ w p3 (.gp b3 0 s3)) (r4:Rep B μ w p4 (.gp b4 0 s4)) (R:Ending→FrameMode→World→Prop)
  (k:∀μ' w',Sim B T0 μ0 w0 N μ' lx a w' {st with s:=((st.s.set b2 mfZ).set b3 [.int .i64 line]).set b4 [.int .i64 err]}→R (.returned (.tuple #[])) (.panicking [{v:=fltW line err,recovered:=true}]) w') :
  CallsD prog 32 #[p2,p3,p4] (.panicking [{v:=fltW line err,recovered:=false}]) w R:=by
 refine qvl p2 p3 p4 line err w R fun Q hQ=>?_
 have hval:∀(j:Nat) (c:AV),([.gp b2 0 s2,.gp b3 0 s3,.gp b4 0 s4]:List AV)[j]? = some c→Rep B μ w ((#[p2,p3,p4]:Array Value).getD j undef) c∧pers c=true∧quiet c=true:=by
  intro j c hc
  match j,hc with
  | 0,hc=>simp at hc;subst hc;exact⟨r2,rfl,rfl⟩
  | 1,hc=>simp at hc;subst hc;exact⟨r3,rfl,rfl⟩
  | 2,hc=>simp at hc;subst hc;exact⟨r4,rfl,rfl⟩
  | n+3,hc=>simp at hc
 have hent:=h.entry (vs:=#[p2,p3,p4]) rfl hval
 have hw:=hent.wide (n:=17) rfl (by simp)
 have hp:=hw.put (d:=11) (v:=.agg #[.int .i64 line,.int .i64 err]) (av:=.agg [.int .i64 line,.int .i64 err]) (by decide)
  ⟨.agg _ _ rfl (by simp[plain,qaa,quiet]) (by
   intro j c hc
   match j,hc with
   | 0,hc=>simp at hc;subst hc;exact .int _ _
   | 1,hc=>simp at hc;subst hc;exact .int _ _
   | n+2,hc=>simp at hc),trivial⟩
  (fun j k e=>by cases j<;>cases e) (fun j j' k e=>by cases j<;>cases e)
 have hr:=hp.retmps (a':=⟨#[p2,p3,p4]++(((((Array.replicate 14 undef).setIfInBounds 3 (fltW line err)).setIfInBounds 5 (.bool false)).setIfInBounds 6 (.tuple #[.agg #[.int .i64 line,.int .i64 err],.bool true])).setIfInBounds 7 (.bool true)).setIfInBounds 8 (.agg #[.int .i64 line,.int .i64 err]),[]⟩)
  (by simp) rfl (by
   intro i v hi
   have hi:AI.look [(0,AV.gp b2 0 s2),(1,.gp b3 0 s3),(2,.gp b4 0 s4),(11,.agg [.int .i64 line,.int .i64 err])] i=some v:=hi
   clear hp hw hent hval hQ k
   simp only[AI.look] at hi
   split at hi
   ·rename_i e;subst e;simp[Act.put]
   split at hi
   ·rename_i e;subst e;simp[Act.put]
   split at hi
   ·rename_i e;subst e;simp[Act.put]
   split at hi
   ·rename_i e;subst e;simp[Act.put]
   ·cases hi)
 obtain⟨e,st',hx,rfl,hs⟩:=qvm b2 b3 b4 s2 s3 s4 line err st.s c2 n3 n4 hc h23 h24 h34 hs2 hs3 hs4
 obtain⟨m,hme⟩:=(qt _).1 hx
 refine (qas (hh:=h32) (hW.trans h.ext.below) hC (qai hm) m closX _ hr (by kernel_rfl) hme ?_).1
 intro μ' lx' a' w' hs'
 obtain⟨v,hv,ho⟩:=qe0 (P:=prog) (hh:=h32) (fn:=Tryz.f32) (r:=.tup []) (s':=st'.s) hs' h.mdf (by simp[outA,results32,resultsA,resultsT])
 obtain⟨k1,_⟩:=h.call (fun _ hk=>hk.elim) ho
 rw[hs] at k1
 exact hQ .normal a' w' trivial (hs'.defs.trans h.mdf) (k μ' w' k1)
end
end Go.Proofs.Tryz.Ai
end
section
namespace Go.Proofs.Tryz.Ai
open Go Go.AI Go.RowKit Go.Proofs
theorem qo2 {P:Program} {hh:Hint} {C:Oracle} {c:Code} {i:Nat} {d:Bool} {ops:Array Oper} {st:St} {K:Ex→St→Prop} (h:c=.region i ops d) (k:Post (EXEC P hh C (.region i ops d) st) K):Post (EXEC P hh C c st) K:=by rw[h];exact k
def fstSeq:Code→Code
 | .seq a _=>a
 | c=>c
noncomputable def parA:Code:=fstSeq (Tryz.f9.body.getD .skip)
noncomputable def parB:Code:=fstSeq (dropSeq 1 (Tryz.f9.body.getD .skip))
def qr9:Oper:=⟨some 14,.makeFunc (.func 32) #[] #[.tmp 2,.tmp 3,.tmp 4],1,"parse.go:209",#[],none⟩
def qyz:Oper:=⟨none,.defer ⟨.value (.tmp 14),#[],#[]⟩,0,"parse.go:209",#[⟨0,.data⟩],none⟩
def parR:Code:=.region 3 #[qr9,qyz] false
theorem want1 (y:Nat→Option Bool):Region.wanted qr9 y=true:=rfl
theorem want2 (y:Nat→Option Bool):Region.wanted qyz y=true:=rfl
theorem qo3:Tryz.f9.body=some (.seq parA (.seq parB (.seq parR restC))):=rfl
theorem qy0 (text:List UInt8) (s:List (List AV)):Post (EXEC prog h9 (EV prog H T) parA ⟨params 0 [.str text],[],s⟩) fun e st=>e=.normal∧st=⟨[(0,.str text),(2,.gp s.length 0 (some (28,6))),(3,.gp (s.length+1) 0 (some (3,1))),(4,.gp (s.length+2) 0 (some (29,1)))],[],s++[mfZ,[.int .i64 0],[.int .i64 0]]⟩:=by
 refine qo2 (i:=0) (d:=false) (by rfl) ?_
 simp (maxSteps:=mS) [mfZ]
theorem qsa (text:List UInt8) (ht:65536<text.length) (s:List (List AV)) (s2 s3 s4:Option (TypeId×Nat)):Post (EXEC prog h9 (EV prog H T) parB ⟨[(0,.str text),(2,.gp s.length 0 s2),(3,.gp (s.length+1) 0 s3),(4,.gp (s.length+2) 0 s4)],[],s++[mfZ,[.int .i64 0],[.int .i64 0]]⟩) fun e st=>e=.ret∧st.t=[(0,.str text),(2,.gp s.length 0 s2),(3,.gp (s.length+1) 0 s3),(4,.gp (s.length+2) 0 s4)]∧st.l=[]∧st.s=s++[mfZ,[.int .i64 0],[.int .i64 13]]:=by
 refine qev (by rfl) ?_
 simp (maxSteps:=mS) [mfZ,ht]
theorem qo4 (text:List UInt8) (ht:¬65536<text.length) (σ:List (List AV)) (b2 b3 b4:Nat) (s2 s3 s4:Option (TypeId×Nat)):Post (EXEC prog h9 (EV prog H T) parB ⟨[(0,.str text),(2,.gp b2 0 s2),(3,.gp b3 0 s3),(4,.gp b4 0 s4)],[],σ⟩) fun e st=>e=.normal∧st=⟨[(0,.str text),(2,.gp b2 0 s2),(3,.gp b3 0 s3),(4,.gp b4 0 s4),(12,.bool false)],[],σ⟩:=by
 refine qev (by rfl) ?_
 simp (maxSteps:=mS) [ht]
def parseAV (text:List UInt8):AV:=match parseP text with
 | .ok m=>.tup [mfF m,.int .i64 0,.int .i64 0]
 | .error e=>.tup [mfF mf0,.int .i64 e.1,.int .i64 e.2]
def resT (n:Nat):List (Nat×AV):=[(2,.gp n 0 (some (28,6))),(3,.gp (n+1) 0 (some (3,1))),(4,.gp (n+2) 0 (some (29,1)))]
theorem qvn (s:List (List AV)) (m:Mf) (l e:Int) (J:List (List AV)) :
  bnd (outA prog h9 Tryz.f9 ⟨resT s.length,[],s++[mfC m,[.int .i64 l],[.int .i64 e]]++J⟩) (endA prog h9 s)=some (.tup [mfF m,.int .i64 l,.int .i64 e],s):=by
 simp (maxSteps:=mS) [outA,resT,endA,results9,mfC,mfF]
theorem qnt (s:List (List AV)) (l e:Int) :
  bnd (outA prog h9 Tryz.f9 ⟨resT s.length,[],s++[mfZ,[.int .i64 l],[.int .i64 e]]⟩) (endA prog h9 s)=some (.tup [mfF mf0,.int .i64 l,.int .i64 e],s):=by
 simp (maxSteps:=mS) [outA,resT,endA,results9,mfZ,mfF,mfC,mf0]
theorem q1f {μ:Gh} (h:μ.df=[]):({μ with df:=[]}:Gh)=μ:=by rw[← h]
theorem qk2 {n i:Nat} {v x:AV} (h:AI.look (resT n) i=some v):AI.look ((0,x)::resT n) i=some v:=by
 simp only[AI.look]
 split
 ·rename_i e;subst e;simp[resT,AI.look] at h
 ·exact h
theorem qo5 {n i:Nat} {v x:AV} (h:AI.look (resT n) i=some v):AI.look ((0,x)::resT n) i=some v:=qk2 h
theorem qo6 {n i:Nat} {v:AV} {text:List UInt8} (h:AI.look ((0,.str text)::resT n) i=some v):quiet v=true∧pers v=true:=by
 simp only[resT,AI.look] at h
 split at h
 ·injection h with h;subst h;exact⟨rfl,rfl⟩
 split at h
 ·injection h with h;subst h;exact⟨rfl,rfl⟩
 split at h
 ·injection h with h;subst h;exact⟨rfl,rfl⟩
 split at h
 ·injection h with h;subst h;exact⟨rfl,rfl⟩
 ·cases h
theorem flt_val {B:Nat} {μ:Gh} {w:World} {v:Value} {l e:Int} (h:Rep B μ w v (fltV l e)):v=fltW l e:=by
 unfold fltV at h
 cases h with
 | ifc _ v' _ h =>
  cases h with
  | agg vs _ hl hp hh =>
   obtain⟨l⟩:=vs
   match l,hl with
   | [x,y],_ =>
    have h0:=hh 0 _ rfl
    have h1:=hh 1 _ rfl
    simp at h0 h1
    cases h0;cases h1
    rfl
def stR (text:List UInt8) (n:Nat):List (Nat×AV):=[(0,.str text),(2,.gp n 0 (some (28,6))),(3,.gp (n+1) 0 (some (3,1))),(4,.gp (n+2) 0 (some (29,1))),(12,.bool false)]
theorem qsb (text:List UInt8) (s:List (List AV)):stepOp prog h9 (EV prog H T) qr9 ⟨stR text s.length,[],s++[mfZ,[.int .i64 0],[.int .i64 0]]⟩=some ⟨stR text s.length++[(14,.fn 32 [.gp s.length 0 (some (28,6)),.gp (s.length+1) 0 (some (3,1)),.gp (s.length+2) 0 (some (29,1))])],[],s++[mfZ,[.int .i64 0],[.int .i64 0]]⟩:=by
 unfold qr9
 simp (maxSteps:=mS) [stR]
theorem qsc {text:List UInt8} {n i:Nat} {v x:AV} (h:AI.look ((0,.str text)::resT n) i=some v):AI.look (stR text n++[(14,x)]) i=some v:=by
 simp only[resT,stR,AI.look,List.cons_append,List.nil_append] at h ⊢
 split at h
 ·rename_i e;rw[if_pos e];exact h
 rename_i e0;rw[if_neg e0]
 split at h
 ·rename_i e;rw[if_pos e];exact h
 rename_i e1;rw[if_neg e1]
 split at h
 ·rename_i e;rw[if_pos e];exact h
 rename_i e2;rw[if_neg e2]
 split at h
 ·rename_i e;rw[if_pos e];exact h
 ·cases h
section
variable {B:Nat} {W0:World}
theorem qmm (hm:prog.follows .mixedOrders=true) (hT:TableOk prog B W0 T) (text:List UInt8) (hsm:smpB text=true) (s:List (List AV)):ACalls prog B W0 9 [.str text] s (parseAV text) s:=by
 have hC:OracleOk prog B W0 (EV prog H T):=qim hT (fun _ _=>qai hm)
 have hP:PanOk prog B W0 (PC prog H T):=qug hm hT
 intro T0 μ w vs hsz hW hs
 refine calls_of_wp_defers func9 qo3 ?_
 have hw:=hs.wide hsz (n:=37) (by rw[hsz];exact (by decide:1≤37))
 have hact:(⟨vs++Array.replicate (37-vs.size) undef,[]⟩:Act)=⟨vs++Array.replicate (Tryz.f9.ntmps-vs.size) undef,[]⟩:=rfl
 rw[hact] at hw
 have fin:∀{μ':Gh} {lx':Nat→Option Nat} {a':Act} {w':World} {st':St} {r:AV} {ds:List Deferred},Sim B T0 {μ with df:=ds} w 37 μ' lx' a' w' st'→bnd (outA prog h9 Tryz.f9 st') (endA prog h9 s)=some (r,s) →
   ∃v,(results Tryz.f9 a'.tmps).run prog w'=.ok v w'∧∃v2 μ2,Ending.returned v=.returned v2∧Sim B T0 μ w 1 μ2 (fun _=>none) ⟨#[v2],[]⟩ w' ⟨[(0,r)],[],s⟩:=by
  intro μ' lx' a' w' st' r ds hs' ho
  obtain⟨⟨q,sq⟩,ho,he⟩:=qa ho
  obtain⟨v,hv,hq⟩:=qe0 (hs'.unbase hs.mdf) hs.mdf ho
  obtain⟨μ2,ho2⟩:=qhy hs rfl hq he
  exact⟨v,hv,v,μ2,rfl,ho2⟩
 obtain⟨e1,st1,hx1,rfl,rfl⟩:=qy0 text s
 obtain⟨m1,hm1⟩:=(qt _).1 hx1
 refine wp_seq (qas hW hC (qai hm) m1 parA _ hw (by kernel_rfl) hm1 ?_).1
 intro μ1 lx1 a1 w1 hs1
 show Code.wp _ _ _ _ _
 by_cases ht:65536<text.length
 ·obtain⟨e2,st2,hx2,rfl,ht2,hl2,hss2⟩:=qsa text ht s (some (28,6)) (some (3,1)) (some (29,1))
  obtain⟨m2,hm2⟩:=(qt _).1 hx2
  refine wp_seq (qas hW hC (qai hm) m2 parB _ hs1 (by kernel_rfl) hm2 ?_).1
  intro μ2 lx2 a2 w2 hs2
  have hd:a2.defers=[]:=hs2.defs.trans hs.mdf
  show Leaves _ _ a2.tmps _ a2.defers .returning w2
  rw[hd]
  have hz:({μ with df:=[]}:Gh)=μ:=q1f hs.mdf
  have hs3:=hs2.sub (t':=resT s.length) (l':=[]) (fun i v hi=>by rw[ht2];exact qk2 hi) (by simp[resT]) (fun d cs e=>by simp[AI.look] at e)
  rw[hss2] at hs3
  have hp:parseAV text=.tup [mfF mf0,.int .i64 0,.int .i64 13]:=by unfold parseAV parseP;rw[if_pos ht]
  rw[hp]
  exact fin (ds:=[]) (by rw[hz];exact hs3) (qnt s 0 13)
 ·obtain⟨e2,st2,hx2,rfl,rfl⟩:=qo4 text ht (s++[mfZ,[.int .i64 0],[.int .i64 0]]) s.length (s.length+1) (s.length+2) (some (28,6)) (some (3,1)) (some (29,1))
  obtain⟨m2,hm2⟩:=(qt _).1 hx2
  refine wp_seq (qas hW hC (qai hm) m2 parB _ hs1 (by kernel_rfl) hm2 ?_).1
  intro μ2 lx2 a2 w2 hs2
  refine wp_seq (wp_region_list ?_)
  have hst:=qsb text s
  show wpList _ _ _ [qr9,qyz] a2 w2
  simp only[wpList]
  rw[want1]
  refine .inl (qbo hs2 hW hC (fun n hn=>by have hn:(some 14:Option Nat)=some n:=hn;injection hn with hn;subst hn;decide) hst _ _ fun μ3 lx3 a3 w3 hs3=>?_)
  rw[want2]
  refine .inl (qui (us:=[.gp s.length 0 (some (28,6)),.gp (s.length+1) 0 (some (3,1)),.gp (s.length+2) 0 (some (29,1))]) (g:=32) rfl rfl hs3 (hs3.defs.trans hs.mdf) rfl fun ps hps hrep hs4=>?_)
  obtain⟨p2,p3,p4,rfl⟩:∃p2 p3 p4,ps=#[p2,p3,p4]:=by
   obtain⟨l⟩:=ps
   match l,hps with
   | [a,b,c],_=>exact⟨a,b,c,rfl⟩
  have r2:=(hrep 0 _ rfl).1
  have r3:=(hrep 1 _ rfl).1
  have r4:=(hrep 2 _ rfl).1
  show Code.wp _ restC _ _ _
  have hs5:=hs4.sub (t':=(0,.str text)::resT s.length) (l':=[]) (fun i v hi=>qsc hi) (by simp[resT]) (fun d cs e=>by simp[AI.look] at e)
  have hE:AI.Enters prog 32:=⟨_,func32,by kernel_rfl,by kernel_rfl⟩
  have hinv:∀w:World,(invoke (.fn (.func 32) #[p2,p3,p4]) #[]).run prog w=.ok (.enter 32 #[p2,p3,p4]) w:=fun w=>by simp[invoke,qav hE]
  have hS2:(s++[mfZ,[.int .i64 0],[.int .i64 0]])[s.length]? = some mfZ:=by simp
  have hS3:(s++[mfZ,[.int .i64 0],[.int .i64 0]])[s.length+1]? = some [.int .i64 0]:=by simp
  have hS4:(s++[mfZ,[.int .i64 0],[.int .i64 0]])[s.length+2]? = some [.int .i64 0]:=by simp
  have hSl:(s++[mfZ,[.int .i64 0],[.int .i64 0]]).length=s.length+3:=by simp
  have pan:∀e:Int×Int,parseAV text=.tup [mfF mf0,.int .i64 e.1,.int .i64 e.2]→(∀σ,PY prog h9 (EV prog H T) (PC prog H T) (PhiP s.length (s.length+1) (s.length+2) (some (28,6)) (some (3,1)) (some (29,1))) restC ⟨(0,.str text)::resT s.length,[],σ⟩ (fltV e.1 e.2)) →
    Code.wp prog restC (bodyPostD prog Tryz.f9 fun e w'=>∃v μ',e=.returned v∧Sim B T0 μ w 1 μ' (fun _=>none) ⟨#[v],[]⟩ w' ⟨[(0,parseAV text)],[],s⟩) ⟨a3.tmps,[⟨.fn (.func 32) #[p2,p3,p4],#[]⟩]⟩ w3:=by
   intro e hpe hpy
   have hwp:=hs5.wipe ((0,.str text)::resT s.length) (fun _ _ h=>h) (fun i v hi=>qo6 hi) (by simp[resT])
   refine (quj hm (hW.trans hs5.ext.below) hC hP (hpy _) hwp (by kernel_rfl) ?_).1
   intro t hΦ μ' lx' a' w' st' v h1 h2 h3 h4
   obtain⟨k1,x2⟩:=hs5.unwipe h1
   obtain⟨i1,i2,i3⟩:=hΦ
   rw[← h4] at i1 i2 i3
   have e1:=qlv hs5 h1 rfl i1
   have e2:=qlv hs5 h1 rfl i2
   have e3:=qlv hs5 h1 rfl i3
   have hd:a'.defers=[⟨.fn (.func 32) #[p2,p3,p4],#[]⟩]:=h1.defs
   have k2:=(k1.sub (t':=resT s.length) (l':=[]) (fun i v hi=>qo5 hi) (by simp[resT]) (fun d cs e=>by simp[AI.look] at e)).retmps (a':=a') h1.size hd (fun i v hi=>by
    have hi:AI.look (resT s.length) i=some v:=hi
    simp only[resT,AI.look] at hi
    split at hi
    ·rename_i e;subst e;exact e1
    split at hi
    ·rename_i e;subst e;exact e2
    split at hi
    ·rename_i e;subst e;exact e3
    ·cases hi)
   obtain rfl:v=fltW e.1 e.2:=flt_val (h2.full.rep fun d i e=>by cases e)
   show Leaves _ _ a'.tmps _ a'.defers (.panicking [{v:=fltW e.1 e.2,recovered:=false}]) w'
   rw[hd]
   refine leaves_cons (by simp) (hinv w') ?_
   refine qr8 hm hC k2 hW s.length (s.length+1) (s.length+2) (some (28,6)) (some (3,1)) (some (29,1)) e.1 e.2 mfZ 0 0 rfl (by omega) (by omega) (by omega) hS2 hS3 hS4 p2 p3 p4 (r2.mono x2) (r3.mono x2) (r4.mono x2) _ fun μ8 w8 k3=>?_
   show Leaves _ _ a'.tmps _ [] .returning w8
   rw[hpe]
   refine fin k3 ?_
   have:=qnt s e.1 e.2
   simpa using this
  cases hr:readLs ps0 (lnT text) with
  | error e =>
   have hpe:parseAV text=.tup [mfF mf0,.int .i64 e.1,.int .i64 e.2]:=by unfold parseAV parseP;rw[if_neg ht,hr]
   exact pan e hpe fun σ=>qr6 _ _ _ _ _ _ text (by omega) e (qr5 hsm) hr σ
  | ok pE =>
   cases hq:endP pE with
   | error e =>
    exact (qvi hsm hr hq).elim
   | ok _ =>
    have hpe:parseAV text=.tup [mfF (canonM pE.f),.int .i64 0,.int .i64 0]:=by unfold parseAV parseP;rw[if_neg ht,hr];simp only[hq]
    rw[hpe]
    obtain⟨e6,st6,hx6,rfl,hΦ,hss6⟩:=qyy s.length (s.length+1) (s.length+2) (some (28,6)) (some (3,1)) (some (29,1)) text (by omega) pE (qr5 hsm) hr hq (s++[mfZ,[.int .i64 0],[.int .i64 0]]) (by rw[hSl];omega) (by rw[hSl];omega) (by rw[hSl];omega) (by omega) (by omega) (by omega) _ _ _ _ _ _ hS2 hS3 hS4
    obtain⟨m6,hm6⟩:=(qt _).1 hx6
    refine (qas hW hC (qai hm) m6 restC _ hs5 (by kernel_rfl) hm6 ?_).1
    intro μ6 lx6 a6 w6 hs6
    have hd:a6.defers=[⟨.fn (.func 32) #[p2,p3,p4],#[]⟩]:=hs6.defs
    show Leaves _ _ a6.tmps _ a6.defers .returning w6
    rw[hd]
    refine leaves_cons (by simp) (hinv w6) ((qvk p2 p3 p4 w6).mono fun e u' w' hh=>?_)
    obtain⟨⟨v,rfl⟩,rfl,rfl⟩:=hh
    show Leaves _ _ a6.tmps _ [] .returning w'
    obtain⟨i1,i2,i3⟩:=hΦ
    have hs7:=hs6.sub (t':=resT s.length) (l':=[]) (fun i v hi=>by
     simp only[resT,AI.look] at hi
     split at hi
     ·rename_i e;subst e;injection hi with hi;subst hi;exact i1
     split at hi
     ·rename_i e;subst e;injection hi with hi;subst hi;exact i2
     split at hi
     ·rename_i e;subst e;injection hi with hi;subst hi;exact i3
     ·cases hi) (by simp[resT]) (fun d cs e=>by simp[AI.look] at e)
    rw[hss6] at hs7
    refine fin hs7 ?_
    have:=qvn s (canonM pE.f) 0 0 [psC {pE with line:=0}]
    simpa using this
end
end Go.Proofs.Tryz.Ai
end
