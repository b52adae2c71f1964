/- Part 42 of a proof: Go functions are evaluated on abstract values; no conditions beyond those of each theorem. -/
import Derived.Test.YtjkkcelnfokplaaGreatDoorFi41
import Derived.Test.YtjkkcelnfokplaaGreatDoorCards
import Derived.Test.YtjkkcelnfokplaaGreatDoorTie
import Derived.WalkKit
import Derived.ProofKit
import Derived.OpenShut
import Derived.Below
import Derived.ChangeOld
import Derived.Deep.DeepHandedRow
import Derived.Lib.LaidTab
import Derived.Lay
import Derived.MakeChecks
set_option linter.all false
set_option maxHeartbeats 16000000
set_option maxRecDepth 4000
section
namespace Go.Proofs.YtjkkcelnfokplaaGreatDoor.modfileFormats
open Go Go.AI Go.ChangeShapes Go.WideShapes Go.ChangeAt Go.RowKit
theorem own:ownKnob Tryz.prog.godebug=none:=by kernel_rfl
theorem mixed:Tryz.prog.follows .mixedOrders=true:=by kernel_rfl
theorem laidOut:laidOutB Tryz.prog=true:=by kernel_rfl
theorem walk (a0:Go.Proofs.Tryz.Ai.MfT) (a1:List UInt8×List UInt8) (v0 v1:Value) (W:World) (hl:Go.Proofs.Tryz.Ai.LaidAll W) (r0:Rep W.heap.size gh0 W v0 (Go.Proofs.Tryz.Ai.mfF (Go.Proofs.Tryz.Ai.mfO a0))) (r1:Rep W.heap.size gh0 W v1 (.agg [.str a1.1,.str a1.2]))
  (he:Go.Proofs.Tryz.Ai.ev1 5 [Go.Proofs.Tryz.Ai.mfF (Go.Proofs.Tryz.Ai.mfO a0),.agg [.str a1.1,.str a1.2]] []=some (.bool true,[])) :
  Calls Tryz.prog 5 #[v0,v1] W fun e w'=>e=.returned (.bool true)∧Below W.heap.size W w' :=
 Go.AI.top (s':=[]) mixed rfl (Go.Proofs.Tryz.Ai.T1_ok hl) (by rfl)
  (fun j c h=>by
   match j,h with
   | 0,h=>simp at h;subst h;exact⟨r0,rfl,rfl⟩
   | 1,h=>simp at h;subst h;exact⟨r1,rfl,rfl⟩
   | j+2,h=>simp at h)
  he
theorem qy5 {W:World} (hL:laidMet Tryz.prog Rows.modfileFormatsUptoRow.laid W):Go.Proofs.Tryz.Ai.Laid W :=
 tabIs_of_mem (g:=5) (t:=305) (e:=285) (n:=20) (by
  have:("internal/strconv.uint64pow10",Rows.laid_internal_strconv_uint64pow10)∈Rows.modfileFormatsUptoRow.laid:=by simp[Rows.modfileFormatsUptoRow]
  have e:(Rows.laid_internal_strconv_uint64pow10:DataW Unit)=Lib.tabData .u64 Lib.pow10Tab:=by kernel_rfl
  rw[e] at this;exact this) (by kernel_rfl) (by kernel_rfl) Tryz.underlying305 Tryz.underlying285 (by kernel_rfl) (by kernel_rfl) hL
theorem q1h {W:World} (hL:laidMet Tryz.prog Rows.modfileFormatsUptoRow.laid W) (hsh:W.ShapedOpen Tryz.prog):Go.Proofs.Tryz.Ai.LaidAll W where
 tab:=qy5 hL
 max:=Go.Proofs.Tryz.Ai.maxLen_of hsh
 esyn:=Go.Proofs.Tryz.Ai.errAt_of (g:=1) (Go.Proofs.Tryz.Ai.laidMet_drop 5 hL) (by kernel_rfl) (by kernel_rfl)
 eran:=Go.Proofs.Tryz.Ai.errAt_of (g:=2) (Go.Proofs.Tryz.Ai.laidMet_drop 4 hL) (by kernel_rfl) (by kernel_rfl)
theorem readable:∀t∈Tryz.f5.params.toList,Tryz.prog.readableRec t=true∧t<Tryz.prog.types.size:=by
 rw[Tryz.params5]
 intro t ht
 simp only[List.mem_cons,List.mem_nil_iff,or_false] at ht
 rcases ht with rfl|rfl<;>exact⟨by kernel_rfl,of_decide_eq_true (by kernel_rfl)⟩
set_option maxRecDepth 100000 in
theorem contract (H:Type) (enc:TypeId×Value→H) (W:World) (base:Nat) (args:Array Value) (ds gs:List (DataW H)) (before:List MemPlace)
  (hval:∀(j:Nat) t v,Tryz.f5.params[j]? = some t→args[j]? = some v→Value.okWide Tryz.prog W .any base t v)
  (hW:DataW.Whole enc Tryz.prog Tryz.f5.params.toList Rows.modfileFormatsSpec.vars false W args.toList ds gs before) (hcond:∀k,(Rows.OpenSpec.upto Rows.modfileFormatsSpec).cond=some k→k H (ds++gs)=true) (hl:Go.Proofs.Tryz.Ai.LaidAll W) :
  Calls Tryz.prog 5 args W fun e W'=>∃v,e=.returned v∧Rows.modfileFormatsSpec.post enc Tryz.prog Tryz.f5 false true false false W args v W':=by
 have hW':=hW
 obtain⟨p,q,hA0,hV,rfl,hfz,hnd⟩:=hW
 have hA:DataW.TrodAll enc Tryz.prog W 0 (fun _=>true) true Tryz.f5.params.toList args.toList ds p:=hA0
 have hAk:=hA
 rw[Tryz.params5] at hA hval
 obtain⟨v0,vs0,d0,ds0,p0,q0,hargs0,rfl,rfl,h0,r0⟩:=trodAll_cons hA
 obtain⟨v1,vs1,d1,ds1,p1,q1,hargs1,rfl,rfl,h1,r1⟩:=trodAll_cons r0
 obtain⟨e1,e2,e3⟩:=trodAll_nil r1
 obtain rfl:args=#[v0,v1]:=by cases args;simp_all
 subst e2 e3
 obtain⟨rfl,rfl⟩:=trodVars_none hV
 obtain⟨a0,Q0,R0,_⟩:=(Reads.struct6 (Reads.str Tryz.underlying9 (by kernel_rfl)) (Reads.str Tryz.underlying9 (by kernel_rfl)) (Reads.slice (Reads.struct3 (Reads.str Tryz.underlying9 (by kernel_rfl)) (Reads.str Tryz.underlying9 (by kernel_rfl)) (Reads.bool Tryz.underlying4 (by kernel_rfl)) Tryz.underlying41 (by rfl) (by kernel_rfl) (by kernel_rfl) (by kernel_rfl)) Tryz.underlying23 (by kernel_rfl)) (Reads.slice (Reads.struct2 (Reads.str Tryz.underlying9 (by kernel_rfl)) (Reads.str Tryz.underlying9 (by kernel_rfl)) Tryz.underlying52 (by rfl) (by kernel_rfl) (by kernel_rfl)) Tryz.underlying24 (by kernel_rfl)) (Reads.slice (Reads.struct2 (Reads.struct2 (Reads.str Tryz.underlying9 (by kernel_rfl)) (Reads.str Tryz.underlying9 (by kernel_rfl)) Tryz.underlying52 (by rfl) (by kernel_rfl) (by kernel_rfl)) (Reads.struct2 (Reads.str Tryz.underlying9 (by kernel_rfl)) (Reads.str Tryz.underlying9 (by kernel_rfl)) Tryz.underlying52 (by rfl) (by kernel_rfl) (by kernel_rfl)) Tryz.underlying54 (by rfl) (by kernel_rfl) (by kernel_rfl)) Tryz.underlying25 (by kernel_rfl)) (Reads.slice (Reads.struct2 (Reads.str Tryz.underlying9 (by kernel_rfl)) (Reads.str Tryz.underlying9 (by kernel_rfl)) Tryz.underlying50 (by rfl) (by kernel_rfl) (by kernel_rfl)) Tryz.underlying26 (by kernel_rfl)) Tryz.underlying28 (by rfl) (by kernel_rfl) (by kernel_rfl) (by kernel_rfl) (by kernel_rfl) (by kernel_rfl) (by kernel_rfl)).argS (enc:=enc) (W:=W) (fun _=>⟨_,rfl⟩) Tryz.underlying28 (hval 0 28 v0 rfl rfl) h0
 obtain⟨a1,Q1,R1,_⟩:=(Reads.struct2 (Reads.str Tryz.underlying9 (by kernel_rfl)) (Reads.str Tryz.underlying9 (by kernel_rfl)) Tryz.underlying52 (by rfl) (by kernel_rfl) (by kernel_rfl)).argS (enc:=enc) (W:=W) (fun _=>⟨_,rfl⟩) Tryz.underlying52 (hval 1 52 v1 rfl rfl) h1
 have hb:Rows.uptoBulkAll ([d0,d1]++[])≤1048576:=of_decide_eq_true (hcond _ rfl)
 simp only[List.append_nil,Rows.uptoBulkAll] at hb
 have s0:Go.Proofs.Tryz.Ai.MfSm (Go.Proofs.Tryz.Ai.mfO a0):=qpe Q0 (by omega)
 have s1:a1.1.length+a1.2.length≤1048576:=by have:=qdk Q1;omega
 have hlt:∀x∈(p0++p1:List MemPlace),True:=fun _ _=>trivial
 refine (walk a0 a1 v0 v1 W hl R0 R1 (by have:=Go.Proofs.Tryz.Ai.mformLaw a0 a1 s0 s1 [];exact this)).mono fun e W' ⟨he,bel⟩=>?_
 subst he
 exact⟨_,rfl,_,_,_,[],_,[],hW',trodAll_mk1 (shut_bool Tryz.underlying4 _),trodAll_keep laidOut bel readable hAk (fun x hx=>by simpa using hW'.lt x (by simpa using hx)),rfl,bel.frame _,fun h=>by cases h⟩
noncomputable def laidWorld (os:Os):World:=World.laidAll Tryz.prog os Rows.modfileFormatsUptoRow.laid
theorem qvx (os:Os):laidMet Tryz.prog Rows.modfileFormatsUptoRow.laid ((laidWorld os).forCall (fun _ _=>0) ⟨#[],#[.agg #[.string ⟨#[]⟩,.string ⟨#[]⟩,.slice none 0 0,.slice none 0 0,.slice none 0 0,.slice none 0 0],.agg #[.string ⟨#[]⟩,.string ⟨#[]⟩]],[]⟩).memory :=
 laidMet_laidAll _ (by kernel_rfl) (by kernel_rfl)
theorem reads (os:Os) {H:Type} (enc:TypeId×Value→H):∃places,DataW.whole enc Tryz.prog ((laidWorld os).forCall (fun _ _=>0) ⟨#[],#[.agg #[.string ⟨#[]⟩,.string ⟨#[]⟩,.slice none 0 0,.slice none 0 0,.slice none 0 0,.slice none 0 0],.agg #[.string ⟨#[]⟩,.string ⟨#[]⟩]],[]⟩).memory Tryz.f5.params.toList Rows.modfileFormatsSpec.vars false (#[.agg #[.string ⟨#[]⟩,.string ⟨#[]⟩,.slice none 0 0,.slice none 0 0,.slice none 0 0,.slice none 0 0],.agg #[.string ⟨#[]⟩,.string ⟨#[]⟩]]:Array Value).toList 8=some ([.agg [.lit (.string []),.lit (.string []),.nil,.nil,.nil,.nil],.agg [.lit (.string []),.lit (.string [])]],[],places) :=
 ⟨[],by kernel_rfl⟩
theorem witness (os:Os) {H:Type} (enc:TypeId×Value→H):∃(w:World) (tape:Tape) (i:Input),w.os=os∧(w.forCall tape i).Shaped Tryz.checked.prog∧i.vars=[]∧Input.okWide Tryz.checked.prog (w.forCall tape i) .any w.heap.size 5 i ∧
  (Rows.OpenSpec.upto Rows.modfileFormatsSpec).preRow enc Tryz.checked.prog Tryz.f5 Rows.modfileFormatsUptoRow.domain false Rows.modfileFormatsUptoRow.laid (w.forCall tape i).memory i.args∧({}:Assume).holds Tryz.checked.prog (lone (Frame.enter Tryz.checked.prog 5 i.args .normal) [] (w.forCall tape i)):=by
 obtain⟨places,hx⟩:=reads os enc
 have hok:Input.okWideB Tryz.checked.prog ((laidWorld os).forCall (fun _ _=>0) ⟨#[],#[.agg #[.string ⟨#[]⟩,.string ⟨#[]⟩,.slice none 0 0,.slice none 0 0,.slice none 0 0,.slice none 0 0],.agg #[.string ⟨#[]⟩,.string ⟨#[]⟩]],[]⟩) 5 ⟨#[],#[.agg #[.string ⟨#[]⟩,.string ⟨#[]⟩,.slice none 0 0,.slice none 0 0,.slice none 0 0,.slice none 0 0],.agg #[.string ⟨#[]⟩,.string ⟨#[]⟩]],[]⟩=true:=by kernel_rfl
 exact⟨laidWorld os,fun _ _=>0,⟨#[],#[.agg #[.string ⟨#[]⟩,.string ⟨#[]⟩,.slice none 0 0,.slice none 0 0,.slice none 0 0,.slice none 0 0],.agg #[.string ⟨#[]⟩,.string ⟨#[]⟩]],[]⟩,World.laidAll_os _ _ _,World.shaped_of_ZipB (by kernel_rfl) (by kernel_rfl),(Input.okWide_of_okWideB (base:=0) hok).1,(Input.okWide_of_okWideB hok).2,
  OpenSpec.preRow_of_cond 8 hx (by kernel_rfl) (fun k hk=>by have e:k=Rows.uptoSmall:=(Option.some.inj (show some Rows.uptoSmall=some k from hk)).symm;rw[e];simp[Rows.uptoSmall,Rows.uptoBulkAll,Rows.uptoBulk]) (by kernel_rfl) (qvx os),by
  simp only[Assume.holds]
  exact⟨by simp,by simp,fun _=>Modest.zero,by simp,by simp⟩⟩
set_option maxRecDepth 100000 in
theorem lifted (os:Os) (started:os.Started) (H:Type) (enc:TypeId×Value→H) (F:Stop.Interp) :
  ReturnsInHanded {} Tryz.checked os 5 .any ((Rows.OpenSpec.upto Rows.modfileFormatsSpec).preRow enc Tryz.prog Tryz.f5 Rows.modfileFormatsUptoRow.domain false Rows.modfileFormatsUptoRow.laid) (((Rows.OpenSpec.upto Rows.modfileFormatsSpec).at F).post enc Tryz.prog Tryz.f5 false true false false):=by
 refine returnsInHanded_of_row (C:=Tryz.checked) (s:=(Rows.OpenSpec.upto Rows.modfileFormatsSpec)) own started (by kernel_rfl) Tryz.func5 (witness os enc) ?_
 intro W base args ds gs before hval hW _ hcond _ hL hsh _
 exact contract H enc W base args ds gs before hval hW hcond (q1h (by rw[← MakeChecks.laidMetH_plain _ _ _ (by kernel_rfl)];exact hL) hsh)
theorem q1i {a b:Bool} (h1:a=true) (h2:b=true):(a&&b)=true:=by rw[h1,h2];rfl
set_option maxRecDepth 100000 in
theorem a1:Rows.modfileFormatsUptoRow.wf (OpenSpec.ofChange (Rows.OpenSpec.upto Rows.modfileFormatsSpec).bare)=true:=by kernel_rfl
set_option maxRecDepth 100000 in
theorem a2:laidOutB Tryz.pinned.checked.prog=true:=by kernel_rfl
set_option maxRecDepth 100000 in
theorem a3:mapsRowed Tryz.pinned.checked.prog=true:=by kernel_rfl
set_option maxRecDepth 100000 in
theorem a4:Tryz.f5.params.all (Tryz.pinned.checked.prog.readableRec ·)=true:=by kernel_rfl
set_option maxRecDepth 100000 in
theorem a5:namedTie Tryz.pinned.checked.prog Rows.modfileFormatsUptoRow.named (Rows.OpenSpec.upto Rows.modfileFormatsSpec).bare.vars=true:=by kernel_rfl
set_option maxRecDepth 100000 in
theorem a6:(Rows.modfileFormatsUptoRow.inPlace==Tryz.pinned.checked.prog.inPlace 5)=true:=by kernel_rfl
set_option maxRecDepth 100000 in
theorem a7:(Rows.modfileFormatsUptoRow.unfollowed==Tryz.pinned.checked.prog.unfollowed 5)=true:=by kernel_rfl
set_option maxRecDepth 100000 in
theorem a8:(Rows.modfileFormatsUptoRow.recurses==Tryz.pinned.checked.prog.recurses 5)=true:=by kernel_rfl
set_option maxRecDepth 100000 in
theorem a9:(Rows.modfileFormatsUptoRow.named==Tryz.pinned.checked.prog.varsNamed 5)=true:=by kernel_rfl
set_option maxRecDepth 100000 in
theorem b1:(Rows.modfileFormatsUptoRow.plainKeys==Tryz.pinned.checked.prog.plainKeys)=true:=by kernel_rfl
set_option maxRecDepth 100000 in
theorem b2:Tryz.pinned.checked.prog.stopsHeard=true:=by kernel_rfl
set_option maxRecDepth 100000 in
theorem b3:Tryz.pinned.checked.prog.mayEnter=true:=by kernel_rfl
set_option maxRecDepth 100000 in
theorem b4:(Rows.modfileFormatsUptoRow.lifted==Tryz.pinned.checked.prog.liftsFinal)=true:=by kernel_rfl
set_option maxRecDepth 100000 in
theorem b5:(Tryz.pinned.checked.prog.make==some Rows.modfileFormatsUptoRow.make)=true:=by kernel_rfl
set_option maxRecDepth 100000 in
theorem closed:joinedFacts Tryz.pinned.checked.prog 5 Tryz.f5 (Rows.OpenSpec.upto Rows.modfileFormatsSpec).bare Rows.modfileFormatsUptoRow=true:=by
 unfold joinedFacts
 repeat' (with_reducible refine q1i ?_ ?_)
 all_goals first
  | with_reducible exact a1|with_reducible exact a2|with_reducible exact a3|with_reducible exact a4|with_reducible exact a5|with_reducible exact a6|with_reducible exact a7|with_reducible exact a8|with_reducible exact a9|with_reducible exact b1|with_reducible exact b2|with_reducible exact b3|with_reducible exact b4|with_reducible exact b5
  | kernel_rfl
theorem said:Rows.ModfileFormatsUptoSaid :=
 OpenClaim.holds_of_cond 5 Tryz.f5 rfl rfl rfl rfl rfl rfl rfl ⟨rfl,rfl,rfl,rfl,rfl⟩ rfl rfl rfl rfl rfl (by kernel_rfl) Tryz.func5 closed
  (of_decide_eq_true (by kernel_rfl)) (by unfold Func.isWrapper;first|(rw[if_pos (by decide +kernel)];kernel_rfl)|(rw[if_neg (by decide +kernel)];exact⟨rfl,rfl⟩))
  (fun os started H enc _ F=>by rw[OpenClaim.pre_eq_preRow];exact lifted os started H enc F)
theorem plain (f:FuncId) (fn:Func) (hf:Tryz.pinned.checked.prog.funcNamed "mews/mewslaw4.ModfileFormats"=some f) (hfn:Tryz.pinned.checked.prog.funcs[f]? = some fn) :
  true=Tryz.pinned.checked.prog.looks []∧∀(j:Nat) t,fn.params[j]? = some t→Tryz.pinned.checked.prog.wantsStandIn t=false:=by
 obtain rfl:f=5:=Option.some.inj ((show Tryz.prog.funcNamed "mews/mewslaw4.ModfileFormats"=some 5 by kernel_rfl).symm.trans hf) |>.symm
 obtain rfl:fn=Tryz.f5:=(Option.some.inj (Tryz.func5.symm.trans hfn)).symm
 refine⟨by kernel_rfl,fun j t ht=>?_⟩
 have hm:t∈Tryz.f5.params.toList:=Array.mem_toList_iff.2 (Array.mem_of_getElem? ht)
 rw[Tryz.params5] at hm
 simp only[List.mem_cons,List.mem_nil_iff,or_false] at hm
 rcases hm with rfl|rfl
 ·exact (show Tryz.prog.wantsStandIn 28=false by kernel_rfl)
 ·exact (show Tryz.prog.wantsStandIn 52=false by kernel_rfl)
theorem card:Rows.ModfileFormatsUptoCardSaid :=
 Claim7.holds_tied_plain_at .later [] _ _ _ _ said (fun _ h=>by cases h) (by kernel_rfl) (fun _ h=>by cases h) modfileFormatsUpto_row_tie rfl ⟨rfl,rfl⟩ (by kernel_rfl) rfl plain (by kernel_rfl)
end Go.Proofs.YtjkkcelnfokplaaGreatDoor.modfileFormats
end
