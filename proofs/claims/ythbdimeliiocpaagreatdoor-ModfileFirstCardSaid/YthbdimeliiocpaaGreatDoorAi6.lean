/- Part 6 of a proof: a Go function is evaluated on abstract values (texts LMFirst .. FMFirst); no conditions beyond those of each theorem. -/
import Derived.Test.YthbdimeliiocpaaGreatDoorAi5
import Derived.Test.YthbdimeliiocpaaGreatDoorCards
import Derived.Test.YthbdimeliiocpaaGreatDoorTie
import Derived.WalkKit
import Derived.ProofKit
import Derived.OpenShut
import Derived.Below
import Derived.ChangeOld
import Derived.Deep.DeepHandedRow
import Derived.Lib.LaidTab
import Derived.Lay
import Derived.MakeChecks
set_option linter.all false
set_option linter.unusedVariables false
set_option linter.unusedSimpArgs false
set_option linter.unnecessarySimpa false
section
namespace Go.Proofs.Tryz.Ai
open Go Go.AI Go.Proofs
set_option maxHeartbeats 8000000
set_option maxRecDepth 4000
set_option linter.unusedVariables false
theorem mfirstLaw0 (text:List UInt8) (σ:List (List AV)):ev1 7 [.str text] σ=some (.bool true,σ):=by
 have hF:=first_eq
 have hN:=fun e σ=>lift (qt5 e σ)
 refine qd rfl Tryz.func7 rfl (by simp[Tryz.ntmps7]) (by kernel_rfl) (by kernel_rfl) ?_
 by_cases hl:8000<text.length
 ·simp (maxSteps:=4000000) [hF,hl,Tryz.results7]
 have hC:∀σ,ev1 23 [.str text,.int .u8 10] σ=some (.sl (.ex 9 1) ((splitB 10 text).map .str),σ):=fun σ=>lift (qyo text (by omega) 10 σ)
 have hP:∀σ,ev1 16 [.str text] σ=some (parseAV text,σ):=fun σ=>qe2 text σ
 have hm:=qa9 10 text
 have hle:∀x∈splitB 10 text,x.length≤text.length:=fun x hx=>qbd hx
 cases hp:parseP text with
 | ok m =>
  have hA:parseAV text=.tup [mfF m,.int .i64 0,.int .i64 0]:=by unfold parseAV;rw[hp]
  rw[hA,mfFx] at hP
  simp (maxSteps:=4000000) [hF,hl,hP,hC,hN,Tryz.results7]
 | error x =>
  obtain⟨n,e⟩:=x
  have hA:parseAV text=.tup [mfF mf0,.int .i64 n,.int .i64 e]:=by unfold parseAV;rw[hp]
  rw[hA,mfFx] at hP
  simp only[mf0,List.map_nil] at hP
  have hps:=fun N:Nat=>fun h:n=(N:Int)+1=>first_plain (N:=N) (e:=e) (show text.length≤65536 by omega) (by rw[hp,h])
  obtain⟨W,hW⟩:∃W,splitB 10 text=W:=⟨_,rfl⟩
  rw[hW] at hC hps hm hle
  by_cases h0:e=0
  ·subst h0
   simp (maxSteps:=4000000) [hF,hl,hP,hC,hN,Tryz.results7]
  by_cases h1:n<1
  ·simp (maxSteps:=4000000) [hF,hl,hP,hC,hN,h0,h1,Tryz.results7]
  by_cases h2:(W.length:Int)<n
  ·simp (maxSteps:=4000000) [hF,hl,hP,hC,hN,h0,h1,h2,Tryz.results7]
  obtain⟨N,hNn⟩:∃N:Nat,n=(N:Int)+1:=⟨(n-1).toNat,by omega⟩
  subst hNn
  have hfin:=hps N rfl (by omega)
  obtain⟨F,hFF⟩:∃F,(W.take N).flatMap (fun x=>x++[10])=F:=⟨_,rfl⟩
  rw[hFF] at hfin
  have hPF:∀σ,ev1 16 [.str F] σ=some (parseAV F,σ):=fun σ=>qe2 F σ
  have w0:IntKind.i64.wrap (N:Int)=N:=qk (by omega)
  simp (maxSteps:=4000000) [hF,hl,hP,hC,hN,h0,h1,h2]
  refine qn (I:=fun p:Nat×List UInt8=>⟨[(5,.int .i64 ((N:Int)+1)),(7,.sl (.ex 9 1) (W.map .str)),(8,.str p.2),(9,.int .i64 p.1)],[],σ⟩)
   (Pr:=fun p=>p.1≤N∧p.2=(W.take p.1).flatMap fun x=>x++[10]) (μ:=fun p=>N-p.1) (a:=(0,[])) (by simp) (by simp) ?_
  rintro⟨i,t⟩ ⟨hi,ht⟩
  simp only at hi ht ⊢
  have w1:IntKind.i64.wrap ((i:Int)+1)=(i:Int)+1:=qk (by omega)
  have htl:t.length≤2^30:=by
   have key:∀L:List (List UInt8),(∀x∈L,x.length≤text.length)→(L.flatMap fun x=>x++[10]).length≤L.length*(text.length+1):=by
    intro L
    induction L with
    | nil=>intro _;simp
    | cons x r ih =>
     intro h
     have h1:=h x (List.mem_cons_self ..)
     have h2:=ih fun y hy=>h y (List.mem_cons_of_mem _ hy)
     simp only[List.flatMap_cons,List.length_append,List.length_cons,List.length_nil]
     rw[Nat.add_mul,Nat.one_mul];omega
   have h3:=key (W.take i) fun x hx=>hle x (List.mem_of_mem_take hx)
   have h4:(W.take i).length≤8001:=by simp;omega
   have h5:=Nat.mul_le_mul h4 (show text.length+1≤8001 by omega)
   rw[ht];omega
  by_cases hc:i<N
  ·obtain⟨x,hx⟩:∃x,W[i]? = some x:=⟨_,List.getElem?_eq_getElem (by omega)⟩
   have hxl:=hle x (List.mem_of_getElem? hx)
   have hiW:i<W.length:=by omega
   obtain⟨u,hu⟩:∃u,t++x=u:=⟨_,rfl⟩
   obtain⟨v,hv⟩:∃v,u++[10]=v:=⟨_,rfl⟩
   have b1:t.length+x.length≤most:=by unfold most;omega
   have b2:u.length+1≤most:=by rw[← hu];simp;unfold most;omega
   have hn:v=(W.take (i+1)).flatMap fun x=>x++[10]:=by
    rw[← hv,← hu,ht,List.take_add_one,hx,List.flatMap_append];simp
   simp (maxSteps:=4000000) [-getElem?_pos,-List.append_assoc,-Prod.exists,w0,hc,hx,b1,hu,b2,hv,w1]
   exact⟨(i+1,v),⟨by simp;omega,by simpa using hn⟩,by simp;omega,by simp⟩
  ·obtain rfl:i=N:=by omega
   rw[hFF] at ht
   subst ht
   cases hq:parseP t with
   | ok m =>
    have hA:parseAV t=.tup [mfF m,.int .i64 0,.int .i64 0]:=by unfold parseAV;rw[hq]
    rw[hA,mfFx] at hPF
    simp (maxSteps:=4000000) [w0,hc,hPF,hN,Tryz.results7]
   | error y =>
    obtain⟨m,e'⟩:=y
    have hA:parseAV t=.tup [mfF mf0,.int .i64 m,.int .i64 e']:=by unfold parseAV;rw[hq]
    rw[hA,mfFx] at hPF
    simp only[mf0,List.map_nil] at hPF
    rw[hq] at hfin
    simp only at hfin
    by_cases k0:e'=0
    ·simp (maxSteps:=4000000) [w0,hc,hPF,hN,k0,Tryz.results7]
    ·rcases hfin with k1|⟨k1,k2⟩
     ·simp (maxSteps:=4000000) [w0,hc,hPF,hN,k0,k1,Tryz.results7]
     ·subst k1 k2
      have k3:¬((i:Int)+1=0):=by omega
      simp (maxSteps:=4000000) [w0,hc,hPF,hN,k0,k3,Tryz.results7]
end Go.Proofs.Tryz.Ai
end
section
namespace Go.Proofs.YthbdimeliiocpaaGreatDoor.modfileFirst
open Go Go.AI Go.ChangeShapes Go.WideShapes Go.ChangeAt Go.RowKit
set_option linter.unusedVariables false
theorem own:ownKnob Tryz.prog.godebug=none:=by kernel_rfl
theorem mixed:Tryz.prog.follows .mixedOrders=true:=by kernel_rfl
theorem laidOut:laidOutB Tryz.prog=true:=by kernel_rfl
theorem walk (a0:List UInt8) (v0:Value) (W:World) (hl:Go.Proofs.Tryz.Ai.LaidAll W) (r0:Rep W.heap.size gh0 W v0 (.str a0))
  (he:Go.Proofs.Tryz.Ai.ev1 7 [.str a0] []=some (.bool true,[])) :
  Calls Tryz.prog 7 #[v0] W fun e w'=>e=.returned (.bool true)∧Below W.heap.size W w' :=
 Go.AI.top (s':=[]) mixed rfl (Go.Proofs.Tryz.Ai.T1_ok hl) (by rfl)
  (fun j c h=>by
   match j,h with
   | 0,h=>simp at h;subst h;exact⟨r0,rfl,rfl⟩
   | j+1,h=>simp at h)
  he
theorem qwm {W:World} (hL:laidMet Tryz.prog Rows.modfileFirstRow.laid W):Go.Proofs.Tryz.Ai.Laid W :=
 tabIs_of_mem (g:=5) (t:=307) (e:=287) (n:=20) (by
  have:("internal/strconv.uint64pow10",Rows.laid_internal_strconv_uint64pow10)∈Rows.modfileFirstRow.laid:=by simp[Rows.modfileFirstRow]
  have e:(Rows.laid_internal_strconv_uint64pow10:DataW Unit)=Lib.tabData .u64 Lib.pow10Tab:=by kernel_rfl
  rw[e] at this;exact this) (by kernel_rfl) (by kernel_rfl) Tryz.underlying307 Tryz.underlying287 (by kernel_rfl) (by kernel_rfl) hL
theorem qyx {W:World} (hL:laidMet Tryz.prog Rows.modfileFirstRow.laid W) (hsh:W.ShapedOpen Tryz.prog):Go.Proofs.Tryz.Ai.LaidAll W where
 tab:=qwm hL
 max:=Go.Proofs.Tryz.Ai.maxLen_of hsh
 esyn:=Go.Proofs.Tryz.Ai.errAt_of (g:=1) (Go.Proofs.Tryz.Ai.laidMet_drop 5 hL) (by kernel_rfl) (by kernel_rfl)
 eran:=Go.Proofs.Tryz.Ai.errAt_of (g:=2) (Go.Proofs.Tryz.Ai.laidMet_drop 4 hL) (by kernel_rfl) (by kernel_rfl)
theorem readable:∀t∈Tryz.f7.params.toList,Tryz.prog.readableRec t=true∧t<Tryz.prog.types.size:=by
 rw[Tryz.params7]
 intro t ht
 simp only[List.mem_cons,List.mem_nil_iff,or_false] at ht
 rcases ht with rfl<;>exact⟨by kernel_rfl,of_decide_eq_true (by kernel_rfl)⟩
set_option maxRecDepth 100000 in
theorem contract (H:Type) (enc:TypeId×Value→H) (W:World) (base:Nat) (args:Array Value) (ds gs:List (DataW H)) (before:List MemPlace)
  (hval:∀(j:Nat) t v,Tryz.f7.params[j]? = some t→args[j]? = some v→Value.okWide Tryz.prog W .any base t v)
  (hW:DataW.Whole enc Tryz.prog Tryz.f7.params.toList Rows.modfileFirstSpec.vars false W args.toList ds gs before) (hl:Go.Proofs.Tryz.Ai.LaidAll W) :
  Calls Tryz.prog 7 args W fun e W'=>∃v,e=.returned v∧Rows.modfileFirstSpec.post enc Tryz.prog Tryz.f7 false true false false W args v W':=by
 have hW':=hW
 obtain⟨p,q,hA0,hV,rfl,hfz,hnd⟩:=hW
 have hA:DataW.TrodAll enc Tryz.prog W 0 (fun _=>true) true Tryz.f7.params.toList args.toList ds p:=hA0
 have hAk:=hA
 rw[Tryz.params7] at hA hval
 obtain⟨v0,vs0,d0,ds0,p0,q0,hargs0,rfl,rfl,h0,r0⟩:=trodAll_cons hA
 obtain⟨e1,e2,e3⟩:=trodAll_nil r0
 obtain rfl:args=#[v0]:=by cases args;simp_all
 subst e2 e3
 obtain⟨rfl,rfl⟩:=trodVars_none hV
 obtain⟨a0,Q0,R0,_⟩:=(Reads.str Tryz.underlying9 (by kernel_rfl)).arg1 (enc:=enc) (W:=W) (fun _=>rfl) (by kernel_rfl) (hval 0 9 v0 rfl rfl) h0
 have hlt:∀x∈(p0:List MemPlace),True:=fun _ _=>trivial
 refine (walk a0 v0 W hl R0 (by have:=Go.Proofs.Tryz.Ai.mfirstLaw0 a0  [];exact this)).mono fun e W' ⟨he,bel⟩=>?_
 subst he
 exact⟨_,rfl,_,_,_,[],_,[],hW',trodAll_mk1 (shut_bool Tryz.underlying4 _),trodAll_keep laidOut bel readable hAk (fun x hx=>by simpa using hW'.lt x (by simpa using hx)),rfl,bel.frame _,fun h=>by cases h⟩
noncomputable def laidWorld (os:Os):World:=World.laidAll Tryz.prog os Rows.modfileFirstRow.laid
theorem qtc (os:Os):laidMet Tryz.prog Rows.modfileFirstRow.laid ((laidWorld os).forCall (fun _ _=>0) ⟨#[],#[.string ⟨#[]⟩],[]⟩).memory :=
 laidMet_laidAll _ (by kernel_rfl) (by kernel_rfl)
theorem reads (os:Os) {H:Type} (enc:TypeId×Value→H):∃places,DataW.whole enc Tryz.prog ((laidWorld os).forCall (fun _ _=>0) ⟨#[],#[.string ⟨#[]⟩],[]⟩).memory Tryz.f7.params.toList Rows.modfileFirstSpec.vars false (#[.string ⟨#[]⟩]:Array Value).toList 8=some ([.lit (.string [])],[],places) :=
 ⟨[],by kernel_rfl⟩
theorem witness (os:Os) {H:Type} (enc:TypeId×Value→H):∃(w:World) (tape:Tape) (i:Input),w.os=os∧(w.forCall tape i).Shaped Tryz.checked.prog∧i.vars=[]∧Input.okWide Tryz.checked.prog (w.forCall tape i) .any w.heap.size 7 i ∧
  (OpenSpec.ofChange Rows.modfileFirstSpec).preRow enc Tryz.checked.prog Tryz.f7 Rows.modfileFirstRow.domain false Rows.modfileFirstRow.laid (w.forCall tape i).memory i.args∧({}:Assume).holds Tryz.checked.prog (lone (Frame.enter Tryz.checked.prog 7 i.args .normal) [] (w.forCall tape i)):=by
 obtain⟨places,hx⟩:=reads os enc
 have hok:Input.okWideB Tryz.checked.prog ((laidWorld os).forCall (fun _ _=>0) ⟨#[],#[.string ⟨#[]⟩],[]⟩) 7 ⟨#[],#[.string ⟨#[]⟩],[]⟩=true:=by kernel_rfl
 exact⟨laidWorld os,fun _ _=>0,⟨#[],#[.string ⟨#[]⟩],[]⟩,World.laidAll_os _ _ _,World.shaped_of_ZipB (by kernel_rfl) (by kernel_rfl),(Input.okWide_of_okWideB (base:=0) hok).1,(Input.okWide_of_okWideB hok).2,
  OpenSpec.preRow_of_cond 8 hx (by kernel_rfl) (fun k hk=>by cases hk) (by kernel_rfl) (qtc os),by
  simp only[Assume.holds]
  exact⟨by simp,by simp,fun _=>Modest.zero,by simp,by simp⟩⟩
set_option maxRecDepth 100000 in
theorem lifted (os:Os) (started:os.Started) (H:Type) (enc:TypeId×Value→H) (F:Stop.Interp) :
  ReturnsInHanded {} Tryz.checked os 7 .any ((OpenSpec.ofChange Rows.modfileFirstSpec).preRow enc Tryz.prog Tryz.f7 Rows.modfileFirstRow.domain false Rows.modfileFirstRow.laid) (((OpenSpec.ofChange Rows.modfileFirstSpec).at F).post enc Tryz.prog Tryz.f7 false true false false):=by
 refine returnsInHanded_of_row (C:=Tryz.checked) (s:=(OpenSpec.ofChange Rows.modfileFirstSpec)) own started (by kernel_rfl) Tryz.func7 (witness os enc) ?_
 intro W base args ds gs before hval hW _ hcond _ hL hsh _
 exact contract H enc W base args ds gs before hval hW (qyx (by rw[← MakeChecks.laidMetH_plain _ _ _ (by kernel_rfl)];exact hL) hsh)
theorem qyy {a b:Bool} (h1:a=true) (h2:b=true):(a&&b)=true:=by rw[h1,h2];rfl
set_option maxRecDepth 100000 in
theorem a1:Rows.modfileFirstRow.wf (OpenSpec.ofChange (OpenSpec.ofChange Rows.modfileFirstSpec).bare)=true:=by kernel_rfl
set_option maxRecDepth 100000 in
theorem a2:laidOutB Tryz.pinned.checked.prog=true:=by kernel_rfl
set_option maxRecDepth 100000 in
theorem a3:mapsRowed Tryz.pinned.checked.prog=true:=by kernel_rfl
set_option maxRecDepth 100000 in
theorem a4:Tryz.f7.params.all (Tryz.pinned.checked.prog.readableRec ·)=true:=by kernel_rfl
set_option maxRecDepth 100000 in
theorem a5:namedTie Tryz.pinned.checked.prog Rows.modfileFirstRow.named (OpenSpec.ofChange Rows.modfileFirstSpec).bare.vars=true:=by kernel_rfl
set_option maxRecDepth 100000 in
theorem a6:(Rows.modfileFirstRow.inPlace==Tryz.pinned.checked.prog.inPlace 7)=true:=by kernel_rfl
set_option maxRecDepth 100000 in
theorem a7:(Rows.modfileFirstRow.unfollowed==Tryz.pinned.checked.prog.unfollowed 7)=true:=by kernel_rfl
set_option maxRecDepth 100000 in
theorem a8:(Rows.modfileFirstRow.recurses==Tryz.pinned.checked.prog.recurses 7)=true:=by kernel_rfl
set_option maxRecDepth 100000 in
theorem a9:(Rows.modfileFirstRow.named==Tryz.pinned.checked.prog.varsNamed 7)=true:=by kernel_rfl
set_option maxRecDepth 100000 in
theorem b1:(Rows.modfileFirstRow.plainKeys==Tryz.pinned.checked.prog.plainKeys)=true:=by kernel_rfl
set_option maxRecDepth 100000 in
theorem b2:Tryz.pinned.checked.prog.stopsHeard=true:=by kernel_rfl
set_option maxRecDepth 100000 in
theorem b3:Tryz.pinned.checked.prog.mayEnter=true:=by kernel_rfl
set_option maxRecDepth 100000 in
theorem b4:(Rows.modfileFirstRow.lifted==Tryz.pinned.checked.prog.liftsFinal)=true:=by kernel_rfl
set_option maxRecDepth 100000 in
theorem b5:(Tryz.pinned.checked.prog.make==some Rows.modfileFirstRow.make)=true:=by kernel_rfl
set_option maxRecDepth 100000 in
theorem closed:joinedFacts Tryz.pinned.checked.prog 7 Tryz.f7 (OpenSpec.ofChange Rows.modfileFirstSpec).bare Rows.modfileFirstRow=true:=by
 unfold joinedFacts
 repeat' (with_reducible refine qyy ?_ ?_)
 all_goals first
  | with_reducible exact a1|with_reducible exact a2|with_reducible exact a3|with_reducible exact a4|with_reducible exact a5|with_reducible exact a6|with_reducible exact a7|with_reducible exact a8|with_reducible exact a9|with_reducible exact b1|with_reducible exact b2|with_reducible exact b3|with_reducible exact b4|with_reducible exact b5
  | kernel_rfl
theorem said:Rows.ModfileFirstSaid :=
 OpenClaim.holds_of_cond 7 Tryz.f7 rfl rfl rfl rfl rfl rfl rfl ⟨rfl,rfl,rfl,rfl,rfl⟩ rfl rfl rfl rfl rfl (by kernel_rfl) Tryz.func7 closed
  (of_decide_eq_true (by kernel_rfl)) (by unfold Func.isWrapper;first|(rw[if_pos (by decide +kernel)];kernel_rfl)|(rw[if_neg (by decide +kernel)];exact⟨rfl,rfl⟩))
  (fun os started H enc _ F=>by rw[OpenClaim.pre_eq_preRow];exact lifted os started H enc F)
theorem plain (f:FuncId) (fn:Func) (hf:Tryz.pinned.checked.prog.funcNamed "mews/mewslaw4.ModfileFirst"=some f) (hfn:Tryz.pinned.checked.prog.funcs[f]? = some fn) :
  true=Tryz.pinned.checked.prog.looks []∧∀(j:Nat) t,fn.params[j]? = some t→Tryz.pinned.checked.prog.wantsStandIn t=false:=by
 obtain rfl:f=7:=Option.some.inj ((show Tryz.prog.funcNamed "mews/mewslaw4.ModfileFirst"=some 7 by kernel_rfl).symm.trans hf) |>.symm
 obtain rfl:fn=Tryz.f7:=(Option.some.inj (Tryz.func7.symm.trans hfn)).symm
 refine⟨by kernel_rfl,fun j t ht=>?_⟩
 have hm:t∈Tryz.f7.params.toList:=Array.mem_toList_iff.2 (Array.mem_of_getElem? ht)
 rw[Tryz.params7] at hm
 simp only[List.mem_cons,List.mem_nil_iff,or_false] at hm
 rcases hm with rfl
 ·exact (show Tryz.prog.wantsStandIn 9=false by kernel_rfl)
theorem card:Rows.ModfileFirstCardSaid :=
 Claim7.holds_tied_plain_at .later [] _ _ _ _ said (fun _ h=>by cases h) (by kernel_rfl) (fun _ h=>by cases h) modfileFirst_row_tie rfl ⟨rfl,rfl⟩ (by kernel_rfl) rfl plain (by kernel_rfl)
end Go.Proofs.YthbdimeliiocpaaGreatDoor.modfileFirst
end
