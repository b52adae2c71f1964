/- Part 34 of a proof: Go functions are evaluated on abstract values; no conditions beyond those of each theorem. -/
import Derived.Test.YtjkkcelnfokplaaGreatDoorFi33
set_option linter.all false
set_option maxHeartbeats 16000000
set_option maxRecDepth 4000
section
namespace Go.Proofs.Tryz.Ai
open Go Go.AI Go.RowKit Go.Proofs
@[go_sem] theorem as_flt (v:Value) (w:World):(Instr.typeAssert (.iface 81 v) 20 81 true).run prog w=.ok (.tuple #[v,.bool true]) w:=by kernel_rfl
def closC:Code→Code
 | .seq _ (.block _ (.seq _ (.cond _ _ (.seq _ (.cond _ x _)))))=>x
 | _=>.skip
noncomputable def closX:Code:=closC (Tryz.f32.body.getD .skip)
theorem qr7 : ∃ o0 o3 r4 o5 y, Tryz.f32.body = some (.seq (.region 0 o0 false) (.block 0 (.seq (.region 3 o3 false) (.cond (.tmp 8) r4 (.seq (.region 5 o5 false) (.cond (.tmp 10) closX y)))))) ∧
    o0 = #[{ dst := some 6, op := .call ⟨.builtin .recover, #[], #[]⟩, type := 20, pos := "parse.go:210", after := #[], guard := none }] ∧
    o3 = #[{ dst := some 8, op := Op.binOp BinOp.eql 20 (Operand.tmp 6) (Operand.const Value.nilIface) 20, type := 4, pos := "parse.go:210", after := #[], guard := none }] ∧
    o5 = #[{ dst := some 9, op := Op.typeAssert (Operand.tmp 6) 20 81 true, type := 0, pos := "parse.go:210", after := #[], guard := none },
                      { dst := some 10, op := Op.extract (Operand.tmp 9) 1, type := 4, pos := "parse.go:210", after := #[{ on := 0, ground := Ground.data }], guard := none },
                      { dst := some 11, op := Op.extract (Operand.tmp 9) 0, type := 81, pos := "parse.go:210", after := #[{ on := 0, ground := Ground.data }], guard := none }] :=
  ⟨_, _, _, _, _, rfl, rfl, rfl, rfl⟩
theorem qvl (p2 p3 p4:Value) (line err:Int) (w:World) (R:Ending→FrameMode→World→Prop)
  (k:∀Q:Exit→Act→World→Prop,(∀e a w',(match e with|.normal=>True|_=>False)→a.defers=[]→R (.returned (.tuple #[])) (.panicking [{v:=.iface 81 (.agg #[.int .i64 line,.int .i64 err]),recovered:=true}]) w'→Q e a w') →
   closX.wp prog Q ⟨#[p2,p3,p4]++(((((Array.replicate 14 undef).setIfInBounds 3 (.iface 81 (.agg #[.int .i64 line,.int .i64 err]))).setIfInBounds 5 (.bool false)).setIfInBounds 6 (.tuple #[.agg #[.int .i64 line,.int .i64 err],.bool true])).setIfInBounds 7 (.bool true)).setIfInBounds 8 (.agg #[.int .i64 line,.int .i64 err]),[]⟩ w) :
  CallsD prog 32 #[p2,p3,p4] (.panicking [{v:=.iface 81 (.agg #[.int .i64 line,.int .i64 err]),recovered:=false}]) w R:=by
 obtain⟨o0,o3,r4,o5,y,hb,rfl,rfl,rfl⟩:=qr7
 refine callsD_of_wpS func32 hb ?_
 intro c₀ cs hc
 refine wpS_seq (wpS_region ?_)
 have hr:recoverD (c₀::cs)=some (.iface 81 (.agg #[.int .i64 line,.int .i64 err]),{c₀ with mode:=.panicking [{v:=.iface 81 (.agg #[.int .i64 line,.int .i64 err]),recovered:=true}]}::cs):=by simp[recoverD,hc]
 simp only[wpOpsS,hr,List.range_succ,Region.wanted,execOp,resolve,invoke,Exit.thenS,List.size_toArray,List.length_cons,List.length_nil,List.range_zero,List.nil_append,List.getElem?_toArray,List.getElem?_cons_zero,Nat.zero_add]
 simp[builtin,Sem.run_bind]
 refine wpS_of_wp ?_
 obtain⟨X,hX⟩:∃X,closX=X:=⟨_,rfl⟩
 rw[hX] at k ⊢
 go_wp2
 ·refine k _ ?_
  intro e a w' he hd hR
  cases e with
  | normal=>exact⟨hd,_,rfl,.tuple #[],by simp[results,results32],hR⟩
  | _=>exact he.elim
end Go.Proofs.Tryz.Ai
end
