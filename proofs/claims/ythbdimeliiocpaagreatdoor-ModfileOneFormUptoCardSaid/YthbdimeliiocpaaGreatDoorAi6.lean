/- Part 6 of a proof: a Go function is evaluated on abstract values (texts Facts .. MNum); no conditions beyond those of each theorem. -/
import Derived.Test.YthbdimeliiocpaaGreatDoorAi5
import Derived.Test.YthbdimeliiocpaaGreatDoorProg
import Derived.KernelRfl
set_option linter.all false
set_option linter.unusedVariables false
set_option linter.unusedSimpArgs false
set_option linter.unnecessarySimpa false
section
namespace Go.Proofs.Tryz.Ai
open Go Go.AI Go.Proofs
attribute [simp] List.getElem?_cons_zero List.getElem?_cons_succ
def hk (vars conds steal:List Nat) (live:List (Nat×List Nat)) (roots:List (Nat×Nat):=[]) (glob sw msd:List Nat:=[]) (alt:List (Nat×Nat):=[]) (fz:Nat:=0) (gc wk rt:Bool:=false) (inv:List (Nat×FuncId):=[]) (mv:List (Nat×Nat):=[]) (ad:List Nat:=[]):Hint:={rets:=true,vars:=vars,conds:=conds,steal:=steal,live:=live,roots:=roots,glob:=glob,sw:=sw,msd:=msd,alt:=alt,fz:=fz,gc:=gc,wk:=wk,rt:=rt,inv:=inv,mv:=mv,ad:=ad}
abbrev HF (h:Hint) (vars conds steal:List Nat) (live:List (Nat×List Nat)) (roots:List (Nat×Nat):=[]) (glob sw msd:List Nat:=[]) (alt:List (Nat×Nat):=[]) (fz:Nat:=0) (gc wk rt:Bool:=false) (inv:List (Nat×FuncId):=[]) (mv:List (Nat×Nat):=[]) (ad:List Nat:=[]):Prop:=h.rets=true∧h.vars=vars∧h.conds=conds∧h.steal=steal∧h.live=live∧h.roots=roots∧h.glob=glob∧h.sw=sw∧h.msd=msd∧h.alt=alt∧h.fz=fz∧h.gc=gc∧h.wk=wk∧h.rt=rt∧h.inv=inv∧h.mv=mv∧h.ad=ad
abbrev TF (t:TypeId) (n b:Nat) (g:Bool) (e:Option TypeId):Prop:=sizeA Tryz.prog t=some n∧bytesA Tryz.prog t=some b∧isAggA Tryz.prog t=some g∧elemA Tryz.prog t=e
@[simp] theorem t1f:TF 1 1 8 false none:=by and_intros<;>kernel_rfl
@[simp] theorem zero1:zeroA Tryz.prog 1=some .nilf:=by kernel_rfl
@[simp] theorem t3f:TF 3 1 8 false none:=by and_intros<;>kernel_rfl
@[simp] theorem zero3:zeroA Tryz.prog 3=some (.int .i64 0):=by kernel_rfl
@[simp] theorem und3:Tryz.prog.underlying 3=some (.int .i64):=by kernel_rfl
@[simp] theorem t4f:TF 4 1 1 false none:=by and_intros<;>kernel_rfl
@[simp] theorem zero4:zeroA Tryz.prog 4=some (.bool false):=by kernel_rfl
@[simp] theorem und4:Tryz.prog.underlying 4=some .bool:=by kernel_rfl
@[simp] theorem t5f:TF 5 1 1 false none:=by and_intros<;>kernel_rfl
@[simp] theorem zero5:zeroA Tryz.prog 5=some (.int .u8 0):=by kernel_rfl
@[simp] theorem und5:Tryz.prog.underlying 5=some (.int .u8):=by kernel_rfl
@[simp] theorem t9f:TF 9 1 16 false none:=by and_intros<;>kernel_rfl
@[simp] theorem zero9:zeroA Tryz.prog 9=some (.str []):=by kernel_rfl
@[simp] theorem und9:Tryz.prog.underlying 9=some .string:=by kernel_rfl
@[simp] theorem t20f:TF 20 1 16 false none:=by and_intros<;>kernel_rfl
@[simp] theorem zero20:zeroA Tryz.prog 20=some .nili:=by kernel_rfl
@[simp] theorem t22f:TF 22 1 24 false (some 49):=by and_intros<;>kernel_rfl
@[simp] theorem zero22:zeroA Tryz.prog 22=some (.sl .nil []):=by kernel_rfl
@[simp] theorem und22:Tryz.prog.underlying 22=some (.slice 49):=by kernel_rfl
@[simp] theorem t23f:TF 23 1 24 false (some 55):=by and_intros<;>kernel_rfl
@[simp] theorem zero23:zeroA Tryz.prog 23=some (.sl .nil []):=by kernel_rfl
@[simp] theorem und23:Tryz.prog.underlying 23=some (.slice 55):=by kernel_rfl
@[simp] theorem t24f:TF 24 1 24 false (some 57):=by and_intros<;>kernel_rfl
@[simp] theorem zero24:zeroA Tryz.prog 24=some (.sl .nil []):=by kernel_rfl
@[simp] theorem und24:Tryz.prog.underlying 24=some (.slice 57):=by kernel_rfl
@[simp] theorem t25f:TF 25 1 24 false (some 53):=by and_intros<;>kernel_rfl
@[simp] theorem zero25:zeroA Tryz.prog 25=some (.sl .nil []):=by kernel_rfl
@[simp] theorem und25:Tryz.prog.underlying 25=some (.slice 53):=by kernel_rfl
@[simp] theorem t27f:TF 27 6 128 true none:=by and_intros<;>kernel_rfl
@[simp] theorem zero27:zeroA Tryz.prog 27=some (.agg [(.str []),(.str []),(.sl .nil []),(.sl .nil []),(.sl .nil []),(.sl .nil [])]):=by kernel_rfl
@[simp] theorem bpl27:buildPl Tryz.prog 27=some (fun i=>[(0,1),(1,1),(2,1),(3,1),(4,1),(5,1)][i]?):=by kernel_rfl
@[simp] theorem t30f:TF 30 1 8 false none:=by and_intros<;>kernel_rfl
@[simp] theorem zero30:zeroA Tryz.prog 30=some (.int .i64 0):=by kernel_rfl
@[simp] theorem und30:Tryz.prog.underlying 30=some (.int .i64):=by kernel_rfl
@[simp] theorem t40f:TF 40 1 24 false (some 144):=by and_intros<;>kernel_rfl
@[simp] theorem zero40:zeroA Tryz.prog 40=some (.sl .nil []):=by kernel_rfl
@[simp] theorem und40:Tryz.prog.underlying 40=some (.slice 144):=by kernel_rfl
@[simp] theorem t41f:TF 41 1 24 false (some 145):=by and_intros<;>kernel_rfl
@[simp] theorem zero41:zeroA Tryz.prog 41=some (.sl .nil []):=by kernel_rfl
@[simp] theorem und41:Tryz.prog.underlying 41=some (.slice 145):=by kernel_rfl
@[simp] theorem t42f:TF 42 1 24 false (some 146):=by and_intros<;>kernel_rfl
@[simp] theorem zero42:zeroA Tryz.prog 42=some (.sl .nil []):=by kernel_rfl
@[simp] theorem und42:Tryz.prog.underlying 42=some (.slice 146):=by kernel_rfl
@[simp] theorem t44f:TF 44 6 128 true none:=by and_intros<;>kernel_rfl
@[simp] theorem zero44:zeroA Tryz.prog 44=some (.agg [(.str []),(.str []),(.sl .nil []),(.sl .nil []),(.sl .nil []),(.sl .nil [])]):=by kernel_rfl
@[simp] theorem bpl44:buildPl Tryz.prog 44=some (fun i=>[(0,1),(1,1),(2,1),(3,1),(4,1),(5,1)][i]?):=by kernel_rfl
@[simp] theorem t49f:TF 49 3 40 true none:=by and_intros<;>kernel_rfl
@[simp] theorem zero49:zeroA Tryz.prog 49=some (.agg [(.str []),(.str []),(.bool false)]):=by kernel_rfl
@[simp] theorem bpl49:buildPl Tryz.prog 49=some (fun i=>[(0,1),(1,1),(2,1)][i]?):=by kernel_rfl
@[simp] theorem t53f:TF 53 2 32 true none:=by and_intros<;>kernel_rfl
@[simp] theorem zero53:zeroA Tryz.prog 53=some (.agg [(.str []),(.str [])]):=by kernel_rfl
@[simp] theorem bpl53:buildPl Tryz.prog 53=some (fun i=>[(0,1),(1,1)][i]?):=by kernel_rfl
@[simp] theorem t55f:TF 55 2 32 true none:=by and_intros<;>kernel_rfl
@[simp] theorem zero55:zeroA Tryz.prog 55=some (.agg [(.str []),(.str [])]):=by kernel_rfl
@[simp] theorem bpl55:buildPl Tryz.prog 55=some (fun i=>[(0,1),(1,1)][i]?):=by kernel_rfl
@[simp] theorem t57f:TF 57 4 64 true none:=by and_intros<;>kernel_rfl
@[simp] theorem zero57:zeroA Tryz.prog 57=some (.agg [(.str []),(.str []),(.str []),(.str [])]):=by kernel_rfl
@[simp] theorem bpl57:buildPl Tryz.prog 57=some (fun i=>[(0,2),(2,2)][i]?):=by kernel_rfl
@[simp] theorem t58f:TF 58 1 24 false (some 9):=by and_intros<;>kernel_rfl
@[simp] theorem zero58:zeroA Tryz.prog 58=some (.sl .nil []):=by kernel_rfl
@[simp] theorem und58:Tryz.prog.underlying 58=some (.slice 9):=by kernel_rfl
@[simp] theorem t84f:TF 84 1 8 false none:=by and_intros<;>kernel_rfl
@[simp] theorem zero84:zeroA Tryz.prog 84=some .nilp:=by kernel_rfl
@[simp] theorem t85f:TF 85 1 24 false (some 5):=by and_intros<;>kernel_rfl
@[simp] theorem zero85:zeroA Tryz.prog 85=some (.sl .nil []):=by kernel_rfl
@[simp] theorem und85:Tryz.prog.underlying 85=some (.slice 5):=by kernel_rfl
@[simp] theorem t87f:TF 87 2 32 true none:=by and_intros<;>kernel_rfl
@[simp] theorem zero87:zeroA Tryz.prog 87=some (.agg [.nilp,(.sl .nil [])]):=by kernel_rfl
@[simp] theorem bpl87:buildPl Tryz.prog 87=some (fun i=>[(0,1),(1,1)][i]?):=by kernel_rfl
@[simp] theorem t89f:TF 89 1 16 false none:=by and_intros<;>kernel_rfl
@[simp] theorem zero89:zeroA Tryz.prog 89=some .nili:=by kernel_rfl
@[simp] theorem t93f:TF 93 1 8 false none:=by and_intros<;>kernel_rfl
@[simp] theorem zero93:zeroA Tryz.prog 93=some .nilf:=by kernel_rfl
@[simp] theorem t95f:TF 95 1 8 false none:=by and_intros<;>kernel_rfl
@[simp] theorem zero95:zeroA Tryz.prog 95=some .nilf:=by kernel_rfl
@[simp] theorem t98f:TF 98 1 8 false none:=by and_intros<;>kernel_rfl
@[simp] theorem zero98:zeroA Tryz.prog 98=some .nilf:=by kernel_rfl
@[simp] theorem t100f:TF 100 1 8 false none:=by and_intros<;>kernel_rfl
@[simp] theorem zero100:zeroA Tryz.prog 100=some .nilf:=by kernel_rfl
@[simp] theorem t104f:TF 104 2 16 true none:=by and_intros<;>kernel_rfl
@[simp] theorem zero104:zeroA Tryz.prog 104=some (.agg [(.int .i64 0),(.int .i64 0)]):=by kernel_rfl
@[simp] theorem bpl104:buildPl Tryz.prog 104=some (fun i=>[(0,1),(1,1)][i]?):=by kernel_rfl
@[simp] theorem t105f:TF 105 1 8 false none:=by and_intros<;>kernel_rfl
@[simp] theorem zero105:zeroA Tryz.prog 105=some .nilp:=by kernel_rfl
@[simp] theorem t107f:TF 107 10 160 true none:=by and_intros<;>kernel_rfl
@[simp] theorem zero107:zeroA Tryz.prog 107=some (.agg [(.str []),(.str []),(.sl .nil []),(.sl .nil []),(.sl .nil []),(.sl .nil []),(.int .i64 0),(.str []),(.bool false),(.bool false)]):=by kernel_rfl
@[simp] theorem bpl107:buildPl Tryz.prog 107=some (fun i=>[(0,6),(6,1),(7,1),(8,1),(9,1)][i]?):=by kernel_rfl
@[simp] theorem t116f:TF 116 1 8 false none:=by and_intros<;>kernel_rfl
@[simp] theorem zero116:zeroA Tryz.prog 116=some .nilf:=by kernel_rfl
@[simp] theorem t117f:TF 117 1 8 false none:=by and_intros<;>kernel_rfl
@[simp] theorem zero117:zeroA Tryz.prog 117=some .nilf:=by kernel_rfl
@[simp] theorem t120f:TF 120 1 8 false none:=by and_intros<;>kernel_rfl
@[simp] theorem zero120:zeroA Tryz.prog 120=some .nilf:=by kernel_rfl
@[simp] theorem t122f:TF 122 1 8 false none:=by and_intros<;>kernel_rfl
@[simp] theorem zero122:zeroA Tryz.prog 122=some .nilf:=by kernel_rfl
@[simp] theorem t129f:TF 129 1 8 false none:=by and_intros<;>kernel_rfl
@[simp] theorem zero129:zeroA Tryz.prog 129=some .nilf:=by kernel_rfl
@[simp] theorem t131f:TF 131 1 8 false none:=by and_intros<;>kernel_rfl
@[simp] theorem zero131:zeroA Tryz.prog 131=some .nilf:=by kernel_rfl
@[simp] theorem t133f:TF 133 1 8 false none:=by and_intros<;>kernel_rfl
@[simp] theorem zero133:zeroA Tryz.prog 133=some .nilf:=by kernel_rfl
@[simp] theorem t135f:TF 135 1 8 false none:=by and_intros<;>kernel_rfl
@[simp] theorem zero135:zeroA Tryz.prog 135=some .nilf:=by kernel_rfl
@[simp] theorem t136f:TF 136 1 8 false none:=by and_intros<;>kernel_rfl
@[simp] theorem zero136:zeroA Tryz.prog 136=some .nilf:=by kernel_rfl
@[simp] theorem t138f:TF 138 1 8 false none:=by and_intros<;>kernel_rfl
@[simp] theorem zero138:zeroA Tryz.prog 138=some .nilf:=by kernel_rfl
@[simp] theorem t139f:TF 139 1 8 false none:=by and_intros<;>kernel_rfl
@[simp] theorem zero139:zeroA Tryz.prog 139=some .nilf:=by kernel_rfl
@[simp] theorem t144f:TF 144 3 40 true none:=by and_intros<;>kernel_rfl
@[simp] theorem zero144:zeroA Tryz.prog 144=some (.agg [(.str []),(.str []),(.bool false)]):=by kernel_rfl
@[simp] theorem bpl144:buildPl Tryz.prog 144=some (fun i=>[(0,1),(1,1),(2,1)][i]?):=by kernel_rfl
@[simp] theorem t145f:TF 145 4 64 true none:=by and_intros<;>kernel_rfl
@[simp] theorem zero145:zeroA Tryz.prog 145=some (.agg [(.str []),(.str []),(.str []),(.str [])]):=by kernel_rfl
@[simp] theorem bpl145:buildPl Tryz.prog 145=some (fun i=>[(0,2),(2,2)][i]?):=by kernel_rfl
@[simp] theorem t146f:TF 146 2 32 true none:=by and_intros<;>kernel_rfl
@[simp] theorem zero146:zeroA Tryz.prog 146=some (.agg [(.str []),(.str [])]):=by kernel_rfl
@[simp] theorem bpl146:buildPl Tryz.prog 146=some (fun i=>[(0,1),(1,1)][i]?):=by kernel_rfl
@[simp] theorem t149f:TF 149 1 8 false none:=by and_intros<;>kernel_rfl
@[simp] theorem zero149:zeroA Tryz.prog 149=some .nilf:=by kernel_rfl
@[simp] theorem t182f:TF 182 1 24 false (some 190):=by and_intros<;>kernel_rfl
@[simp] theorem zero182:zeroA Tryz.prog 182=some (.sl .nil []):=by kernel_rfl
@[simp] theorem und182:Tryz.prog.underlying 182=some (.slice 190):=by kernel_rfl
@[simp] theorem t186f:TF 186 1 8 false none:=by and_intros<;>kernel_rfl
@[simp] theorem zero186:zeroA Tryz.prog 186=some .nilf:=by kernel_rfl
@[simp] theorem t187f:TF 187 1 8 false none:=by and_intros<;>kernel_rfl
@[simp] theorem t190f:TF 190 2 24 true none:=by and_intros<;>kernel_rfl
@[simp] theorem zero190:zeroA Tryz.prog 190=some (.agg [(.int .u8 0),(.str [])]):=by kernel_rfl
@[simp] theorem bpl190:buildPl Tryz.prog 190=some (fun i=>[(0,1),(1,1)][i]?):=by kernel_rfl
@[simp] theorem t192f:TF 192 1 8 false none:=by and_intros<;>kernel_rfl
@[simp] theorem zero192:zeroA Tryz.prog 192=some .nilf:=by kernel_rfl
@[simp] theorem t195f:TF 195 1 24 false (some 3):=by and_intros<;>kernel_rfl
@[simp] theorem zero195:zeroA Tryz.prog 195=some (.sl .nil []):=by kernel_rfl
@[simp] theorem und195:Tryz.prog.underlying 195=some (.slice 3):=by kernel_rfl
@[simp] theorem t197f:TF 197 4 40 true none:=by and_intros<;>kernel_rfl
@[simp] theorem zero197:zeroA Tryz.prog 197=some (.agg [(.int .i64 0),(.int .i64 0),(.int .i64 0),(.str [])]):=by kernel_rfl
@[simp] theorem bpl197:buildPl Tryz.prog 197=some (fun i=>[(0,1),(1,1),(2,1),(3,1)][i]?):=by kernel_rfl
@[simp] theorem t204f:TF 204 1 24 false (some 30):=by and_intros<;>kernel_rfl
@[simp] theorem zero204:zeroA Tryz.prog 204=some (.sl .nil []):=by kernel_rfl
@[simp] theorem und204:Tryz.prog.underlying 204=some (.slice 30):=by kernel_rfl
@[simp] theorem t205f:TF 205 1 8 false none:=by and_intros<;>kernel_rfl
@[simp] theorem zero205:zeroA Tryz.prog 205=some .nilf:=by kernel_rfl
@[simp] theorem t211f:TF 211 1 8 false none:=by and_intros<;>kernel_rfl
@[simp] theorem zero211:zeroA Tryz.prog 211=some .nilf:=by kernel_rfl
@[simp] theorem t214f:TF 214 1 8 false none:=by and_intros<;>kernel_rfl
@[simp] theorem zero214:zeroA Tryz.prog 214=some .nilf:=by kernel_rfl
@[simp] theorem t262f:TF 262 1 8 false none:=by and_intros<;>kernel_rfl
@[simp] theorem zero262:zeroA Tryz.prog 262=some (.int .u64 0):=by kernel_rfl
@[simp] theorem und262:Tryz.prog.underlying 262=some (.int .u64):=by kernel_rfl
@[simp] theorem field27x0:fieldA Tryz.prog 27 0=some (0,9):=by kernel_rfl
@[simp] theorem field27x1:fieldA Tryz.prog 27 1=some (1,9):=by kernel_rfl
@[simp] theorem field27x2:fieldA Tryz.prog 27 2=some (2,22):=by kernel_rfl
@[simp] theorem field27x3:fieldA Tryz.prog 27 3=some (3,23):=by kernel_rfl
@[simp] theorem field27x4:fieldA Tryz.prog 27 4=some (4,24):=by kernel_rfl
@[simp] theorem field27x5:fieldA Tryz.prog 27 5=some (5,25):=by kernel_rfl
@[simp] theorem field44x0:fieldA Tryz.prog 44 0=some (0,9):=by kernel_rfl
@[simp] theorem field44x1:fieldA Tryz.prog 44 1=some (1,9):=by kernel_rfl
@[simp] theorem field44x2:fieldA Tryz.prog 44 2=some (2,40):=by kernel_rfl
@[simp] theorem field44x3:fieldA Tryz.prog 44 3=some (3,23):=by kernel_rfl
@[simp] theorem field44x4:fieldA Tryz.prog 44 4=some (4,41):=by kernel_rfl
@[simp] theorem field44x5:fieldA Tryz.prog 44 5=some (5,42):=by kernel_rfl
@[simp] theorem field49x0:fieldA Tryz.prog 49 0=some (0,9):=by kernel_rfl
@[simp] theorem field49x1:fieldA Tryz.prog 49 1=some (1,9):=by kernel_rfl
@[simp] theorem field49x2:fieldA Tryz.prog 49 2=some (2,4):=by kernel_rfl
@[simp] theorem field53x0:fieldA Tryz.prog 53 0=some (0,9):=by kernel_rfl
@[simp] theorem field53x1:fieldA Tryz.prog 53 1=some (1,9):=by kernel_rfl
@[simp] theorem field55x0:fieldA Tryz.prog 55 0=some (0,9):=by kernel_rfl
@[simp] theorem field55x1:fieldA Tryz.prog 55 1=some (1,9):=by kernel_rfl
@[simp] theorem field57x0:fieldA Tryz.prog 57 0=some (0,55):=by kernel_rfl
@[simp] theorem field57x1:fieldA Tryz.prog 57 1=some (2,55):=by kernel_rfl
@[simp] theorem field87x1:fieldA Tryz.prog 87 1=some (1,85):=by kernel_rfl
@[simp] theorem field104x0:fieldA Tryz.prog 104 0=some (0,3):=by kernel_rfl
@[simp] theorem field104x1:fieldA Tryz.prog 104 1=some (1,30):=by kernel_rfl
@[simp] theorem field107x0:fieldA Tryz.prog 107 0=some (0,27):=by kernel_rfl
@[simp] theorem field107x1:fieldA Tryz.prog 107 1=some (6,3):=by kernel_rfl
@[simp] theorem field107x2:fieldA Tryz.prog 107 2=some (7,9):=by kernel_rfl
@[simp] theorem field107x3:fieldA Tryz.prog 107 3=some (8,4):=by kernel_rfl
@[simp] theorem field107x4:fieldA Tryz.prog 107 4=some (9,4):=by kernel_rfl
@[simp] theorem field144x0:fieldA Tryz.prog 144 0=some (0,9):=by kernel_rfl
@[simp] theorem field144x1:fieldA Tryz.prog 144 1=some (1,9):=by kernel_rfl
@[simp] theorem field144x2:fieldA Tryz.prog 144 2=some (2,4):=by kernel_rfl
@[simp] theorem field145x0:fieldA Tryz.prog 145 0=some (0,55):=by kernel_rfl
@[simp] theorem field145x1:fieldA Tryz.prog 145 1=some (2,55):=by kernel_rfl
@[simp] theorem field146x0:fieldA Tryz.prog 146 0=some (0,9):=by kernel_rfl
@[simp] theorem field146x1:fieldA Tryz.prog 146 1=some (1,9):=by kernel_rfl
@[simp] theorem field190x0:fieldA Tryz.prog 190 0=some (0,5):=by kernel_rfl
@[simp] theorem field190x1:fieldA Tryz.prog 190 1=some (1,9):=by kernel_rfl
@[simp] theorem field197x0:fieldA Tryz.prog 197 0=some (0,3):=by kernel_rfl
@[simp] theorem field197x1:fieldA Tryz.prog 197 1=some (1,3):=by kernel_rfl
@[simp] theorem field197x2:fieldA Tryz.prog 197 2=some (2,3):=by kernel_rfl
@[simp] theorem field197x3:fieldA Tryz.prog 197 3=some (3,9):=by kernel_rfl
@[simp] theorem func1:isFuncT Tryz.prog 1=true:=by kernel_rfl
@[simp] theorem iface20:isIface Tryz.prog 20=true:=by kernel_rfl
@[simp] theorem iface89:isIface Tryz.prog 89=true:=by kernel_rfl
@[simp] theorem func93:isFuncT Tryz.prog 93=true:=by kernel_rfl
@[simp] theorem func95:isFuncT Tryz.prog 95=true:=by kernel_rfl
@[simp] theorem func98:isFuncT Tryz.prog 98=true:=by kernel_rfl
@[simp] theorem func100:isFuncT Tryz.prog 100=true:=by kernel_rfl
@[simp] theorem func116:isFuncT Tryz.prog 116=true:=by kernel_rfl
@[simp] theorem func117:isFuncT Tryz.prog 117=true:=by kernel_rfl
@[simp] theorem func120:isFuncT Tryz.prog 120=true:=by kernel_rfl
@[simp] theorem func122:isFuncT Tryz.prog 122=true:=by kernel_rfl
@[simp] theorem func129:isFuncT Tryz.prog 129=true:=by kernel_rfl
@[simp] theorem func131:isFuncT Tryz.prog 131=true:=by kernel_rfl
@[simp] theorem func133:isFuncT Tryz.prog 133=true:=by kernel_rfl
@[simp] theorem func135:isFuncT Tryz.prog 135=true:=by kernel_rfl
@[simp] theorem func136:isFuncT Tryz.prog 136=true:=by kernel_rfl
@[simp] theorem func138:isFuncT Tryz.prog 138=true:=by kernel_rfl
@[simp] theorem func139:isFuncT Tryz.prog 139=true:=by kernel_rfl
@[simp] theorem func149:isFuncT Tryz.prog 149=true:=by kernel_rfl
@[simp] theorem func186:isFuncT Tryz.prog 186=true:=by kernel_rfl
@[simp] theorem func192:isFuncT Tryz.prog 192=true:=by kernel_rfl
@[simp] theorem func205:isFuncT Tryz.prog 205=true:=by kernel_rfl
@[simp] theorem func211:isFuncT Tryz.prog 211=true:=by kernel_rfl
@[simp] theorem func214:isFuncT Tryz.prog 214=true:=by kernel_rfl
@[simp] theorem eqs53:eqShape Tryz.prog 53=some [.str,.str]:=by kernel_rfl
@[simp] theorem eqs55:eqShape Tryz.prog 55=some [.str,.str]:=by kernel_rfl
def h3:Hint:=hk [0,1,2,4,5,6,7,8,9,10,11,12,14,15,16,17,19,20,21] [35,44,64,73,84] [27,28,31,36,37,41,42,45,46,50,65,70,71,77,81,85,88,93,94,98,99,102,103,107,108,112,117,118,119,122] [] (roots:=[(2,2),(9,9)])
@[simp] theorem h3f:HF h3 [0,1,2,4,5,6,7,8,9,10,11,12,14,15,16,17,19,20,21] [35,44,64,73,84] [27,28,31,36,37,41,42,45,46,50,65,70,71,77,81,85,88,93,94,98,99,102,103,107,108,112,117,118,119,122] [] (roots:=[(2,2),(9,9)]):=by and_intros<;>rfl
def h5:Hint:=hk [0,1,2,3,4,5,6,7,8,9,10] [23,42] [14,20,21,24,25,29,30,34,35,38,39] [] (roots:=[(2,2),(3,3)])
@[simp] theorem h5f:HF h5 [0,1,2,3,4,5,6,7,8,9,10] [23,42] [14,20,21,24,25,29,30,34,35,38,39] [] (roots:=[(2,2),(3,3)]):=by and_intros<;>rfl
def h7:Hint:=hk [0,2,3,5,6,7,8,9,11,12] [20,42,46] [16,21,22,27,28,30,33,37,47,49,56,57,61,65,69,70,71,73,74] [(10,[5,7,8,9])]
@[simp] theorem h7f:HF h7 [0,2,3,5,6,7,8,9,11,12] [20,42,46] [16,21,22,27,28,30,33,37,47,49,56,57,61,65,69,70,71,73,74] [(10,[5,7,8,9])]:=by and_intros<;>rfl
def h8:Hint:=hk [0,1,2,3,4,5,6,7,8,9,10,11,12] [50,58,70] [18,19,22,28,34,40,46,51,59] [(8,[3,4,5,9,10])] (roots:=[(4,4),(5,5),(11,11),(12,12),(61,3),(68,4),(73,3),(86,4),(93,11),(96,11),(104,12)]) (glob:=[9]) (sw:=[72,80]) (msd:=[72]) (gc:=true)
@[simp] theorem h8f:HF h8 [0,1,2,3,4,5,6,7,8,9,10,11,12] [50,58,70] [18,19,22,28,34,40,46,51,59] [(8,[3,4,5,9,10])] (roots:=[(4,4),(5,5),(11,11),(12,12),(61,3),(68,4),(73,3),(86,4),(93,11),(96,11),(104,12)]) (glob:=[9]) (sw:=[72,80]) (msd:=[72]) (gc:=true):=by and_intros<;>rfl
def h12:Hint:=hk [0,1,2,3,4,5,7,8] [] [9,13,14,18,19,23,24,26,27,31,32,36,37,40,41,44,45] []
@[simp] theorem h12f:HF h12 [0,1,2,3,4,5,7,8] [] [9,13,14,18,19,23,24,26,27,31,32,36,37,40,41,44,45] []:=by and_intros<;>rfl
def h13:Hint:=hk [0,1,2,3,4,5,6,7,8] [39,44,71,98,136] [22,28,34,45,72,99,106,137,159] [(5,[1,3,4]),(9,[1,3,5]),(13,[1,3,6]),(18,[1,3,8])] (roots:=[(48,1),(57,1),(75,1),(84,1),(140,1),(149,1)])
@[simp] theorem h13f:HF h13 [0,1,2,3,4,5,6,7,8] [39,44,71,98,136] [22,28,34,45,72,99,106,137,159] [(5,[1,3,4]),(9,[1,3,5]),(13,[1,3,6]),(18,[1,3,8])] (roots:=[(48,1),(57,1),(75,1),(84,1),(140,1),(149,1)]):=by and_intros<;>rfl
def h14:Hint:=hk [0,1,2,3,4,5] [9,20,39] [10] [] (glob:=[5]) (gc:=true)
@[simp] theorem h14f:HF h14 [0,1,2,3,4,5] [9,20,39] [10] [] (glob:=[5]) (gc:=true):=by and_intros<;>rfl
def h15:Hint:=hk [0,2] [] [3] []
@[simp] theorem h15f:HF h15 [0,2] [] [3] []:=by and_intros<;>rfl
def h16:Hint:=hk [0,2,3,4,5,6,7,8] [12,19] [17,20,21,25,27,29,32] [(6,[2,3,4,5,6])] (glob:=[2,3,4,16]) (gc:=true)
@[simp] theorem h16f:HF h16 [0,2,3,4,5,6,7,8] [12,19] [17,20,21,25,27,29,32] [(6,[2,3,4,5,6])] (glob:=[2,3,4,16]) (gc:=true):=by and_intros<;>rfl
def h17:Hint:=hk [0,1,2,3,4] [] [] [] (roots:=[(2,2),(3,3)]) (sw:=[7,8])
@[simp] theorem h17f:HF h17 [0,1,2,3,4] [] [] [] (roots:=[(2,2),(3,3)]) (sw:=[7,8]):=by and_intros<;>rfl
def h18:Hint:=hk [0,1,2] [] [] [] (roots:=[(3,1),(6,1),(9,1),(12,1),(15,1),(16,1),(17,1),(18,1)]) (sw:=[5,11,14]) (alt:=[(5,1),(11,1),(14,1)]) (fz:=1) (gc:=true)
@[simp] theorem h18f:HF h18 [0,1,2] [] [] [] (roots:=[(3,1),(6,1),(9,1),(12,1),(15,1),(16,1),(17,1),(18,1)]) (sw:=[5,11,14]) (alt:=[(5,1),(11,1),(14,1)]) (fz:=1) (gc:=true):=by and_intros<;>rfl
def h19:Hint:=hk [0,1,2,4,5,6,7,8,9,10,50,51,52] [47,53,80] [11,16,48,75,81] [(7,[1,50,51,52])] (roots:=[(30,1),(33,1),(57,1),(61,8),(66,8),(68,1),(83,1),(86,1),(89,1)]) (sw:=[63,64]) (gc:=true)
@[simp] theorem h19f:HF h19 [0,1,2,4,5,6,7,8,9,10,50,51,52] [47,53,80] [11,16,48,75,81] [(7,[1,50,51,52])] (roots:=[(30,1),(33,1),(57,1),(61,8),(66,8),(68,1),(83,1),(86,1),(89,1)]) (sw:=[63,64]) (gc:=true):=by and_intros<;>rfl
def h21:Hint:=hk [0,1,2,3,4,5,6,7] [46,51,96,101,131,136,166] [13,20,29,38,52,102,137] [(4,[2,3,5]),(9,[2,3,6]),(14,[2,3,7])] (roots:=[(54,2),(60,3),(68,2),(74,3),(83,2),(89,3),(104,2),(110,3),(118,2),(124,3),(139,2),(145,3),(153,2),(159,3)])
@[simp] theorem h21f:HF h21 [0,1,2,3,4,5,6,7] [46,51,96,101,131,136,166] [13,20,29,38,52,102,137] [(4,[2,3,5]),(9,[2,3,6]),(14,[2,3,7])] (roots:=[(54,2),(60,3),(68,2),(74,3),(83,2),(89,3),(104,2),(110,3),(118,2),(124,3),(139,2),(145,3),(153,2),(159,3)]):=by and_intros<;>rfl
def h23:Hint:=hk [0,1,4,5,6,7] [11,24] [12,18,25,27,34] [(4,[0,1,5,6,7])]
@[simp] theorem h23f:HF h23 [0,1,4,5,6,7] [11,24] [12,18,25,27,34] [(4,[0,1,5,6,7])]:=by and_intros<;>rfl
def h24:Hint:=hk [0,1,2,3,4,6,7,12,13,14] [15,24] [27] [(2,[2,3,4,12,13,14])] (roots:=[(6,6),(18,2)]) (sw:=[21,22]) (gc:=true)
@[simp] theorem h24f:HF h24 [0,1,2,3,4,6,7,12,13,14] [15,24] [27] [(2,[2,3,4,12,13,14])] (roots:=[(6,6),(18,2)]) (sw:=[21,22]) (gc:=true):=by and_intros<;>rfl
def h25:Hint:=hk [0,1,2,3,4,5,6] [20,51,76] [21,52,77] [(3,[1,2,3,4]),(7,[1,2,3,5]),(11,[1,2,3,6])] (roots:=[(7,1),(9,1),(12,1),(25,1),(31,1),(37,1),(56,1),(62,1),(81,1),(87,1)]) (glob:=[3]) (sw:=[3,24,46,55,71,80,96]) (msd:=[24,55,80]) (gc:=true)
@[simp] theorem h25f:HF h25 [0,1,2,3,4,5,6] [20,51,76] [21,52,77] [(3,[1,2,3,4]),(7,[1,2,3,5]),(11,[1,2,3,6])] (roots:=[(7,1),(9,1),(12,1),(25,1),(31,1),(37,1),(56,1),(62,1),(81,1),(87,1)]) (glob:=[3]) (sw:=[3,24,46,55,71,80,96]) (msd:=[24,55,80]) (gc:=true):=by and_intros<;>rfl
def h37:Hint:=hk [0,1,4,5] [] [9,17] [] (msd:=[12])
@[simp] theorem h37f:HF h37 [0,1,4,5] [] [9,17] [] (msd:=[12]):=by and_intros<;>rfl
def h38:Hint:=hk [0,1,2,3,9,18,19,20] [12,21] [14,18,32] [(3,[0,3,18,19,20])] (gc:=true)
@[simp] theorem h38f:HF h38 [0,1,2,3,9,18,19,20] [12,21] [14,18,32] [(3,[0,3,18,19,20])] (gc:=true):=by and_intros<;>rfl
def h39:Hint:=hk [0,1,2] [4] [] []
@[simp] theorem h39f:HF h39 [0,1,2] [4] [] []:=by and_intros<;>rfl
def h40:Hint:=hk [0,1,2] [5] [] []
@[simp] theorem h40f:HF h40 [0,1,2] [5] [] []:=by and_intros<;>rfl
def h41:Hint:=hk [0,1,2] [] [] []
@[simp] theorem h41f:HF h41 [0,1,2] [] [] []:=by and_intros<;>rfl
def h42:Hint:=hk [0,1,2,3,9,18,19,20] [12,21] [14,18,32] [(3,[0,3,18,19,20])] (gc:=true)
@[simp] theorem h42f:HF h42 [0,1,2,3,9,18,19,20] [12,21] [14,18,32] [(3,[0,3,18,19,20])] (gc:=true):=by and_intros<;>rfl
def h43:Hint:=hk [0,1,2,3,9,18,19,20] [12,21] [14,18,32] [(3,[0,3,18,19,20])] (gc:=true)
@[simp] theorem h43f:HF h43 [0,1,2,3,9,18,19,20] [12,21] [14,18,32] [(3,[0,3,18,19,20])] (gc:=true):=by and_intros<;>rfl
def h44:Hint:=hk [0,1,2] [] [] [] (roots:=[(3,1),(7,1)]) (sw:=[5,9])
@[simp] theorem h44f:HF h44 [0,1,2] [] [] [] (roots:=[(3,1),(7,1)]) (sw:=[5,9]):=by and_intros<;>rfl
def h45:Hint:=hk [0,1,2,3,9,18,19,20] [12,21] [14,18,32] [(3,[0,3,18,19,20])] (gc:=true)
@[simp] theorem h45f:HF h45 [0,1,2,3,9,18,19,20] [12,21] [14,18,32] [(3,[0,3,18,19,20])] (gc:=true):=by and_intros<;>rfl
def h46:Hint:=hk [0,1,2] [7] [] []
@[simp] theorem h46f:HF h46 [0,1,2] [7] [] []:=by and_intros<;>rfl
def h47:Hint:=hk [0,2] [] [3] []
@[simp] theorem h47f:HF h47 [0,2] [] [3] []:=by and_intros<;>rfl
def h49:Hint:=hk [0,1,2,4,5,6,11] [8,10] [7,11] [] (roots:=[(13,4),(15,4)]) (sw:=[0,1,2])
@[simp] theorem h49f:HF h49 [0,1,2,4,5,6,11] [8,10] [7,11] [] (roots:=[(13,4),(15,4)]) (sw:=[0,1,2]):=by and_intros<;>rfl
def h51:Hint:=hk [0,1,4,6,8,9,11] [42,47,53,98] [25,26,30,32,38,48,52,53,54,78,83,84,85,92,99,100,106,107] [] (sw:=[65]) (gc:=true)
@[simp] theorem h51f:HF h51 [0,1,4,6,8,9,11] [42,47,53,98] [25,26,30,32,38,48,52,53,54,78,83,84,85,92,99,100,106,107] [] (sw:=[65]) (gc:=true):=by and_intros<;>rfl
def h52:Hint:=hk [0] [] [] [] (sw:=[39]) (gc:=true) (ad:=[39])
@[simp] theorem h52f:HF h52 [0] [] [] [] (sw:=[39]) (gc:=true) (ad:=[39]):=by and_intros<;>rfl
def h53:Hint:=hk [0,2] [] [6] []
@[simp] theorem h53f:HF h53 [0,2] [] [6] []:=by and_intros<;>rfl
def h54:Hint:=hk [0,2] [] [3] []
@[simp] theorem h54f:HF h54 [0,2] [] [3] []:=by and_intros<;>rfl
def h55:Hint:=hk [0,2] [] [6] []
@[simp] theorem h55f:HF h55 [0,2] [] [6] []:=by and_intros<;>rfl
def h56:Hint:=hk [0,2] [] [6] []
@[simp] theorem h56f:HF h56 [0,2] [] [6] []:=by and_intros<;>rfl
def h57:Hint:=hk [0,1] [] [5,7] []
@[simp] theorem h57f:HF h57 [0,1] [] [5,7] []:=by and_intros<;>rfl
def h58:Hint:=hk [0,1,2,3,4] [] [] []
@[simp] theorem h58f:HF h58 [0,1,2,3,4] [] [] []:=by and_intros<;>rfl
def h59:Hint:=hk [0,1,4] [] [5,6] []
@[simp] theorem h59f:HF h59 [0,1,4] [] [5,6] []:=by and_intros<;>rfl
def h60:Hint:=hk [0,1] [] [5,7] []
@[simp] theorem h60f:HF h60 [0,1] [] [5,7] []:=by and_intros<;>rfl
def h61:Hint:=hk [0,1,2,3,4] [] [] [] (roots:=[(6,2),(9,3),(13,2),(16,3)]) (sw:=[18])
@[simp] theorem h61f:HF h61 [0,1,2,3,4] [] [] [] (roots:=[(6,2),(9,3),(13,2),(16,3)]) (sw:=[18]):=by and_intros<;>rfl
def h62:Hint:=hk [0,2,3,5,6,7,8] [9,14] [6,15,17] [(3,[3,6,7,8])]
@[simp] theorem h62f:HF h62 [0,2,3,5,6,7,8] [9,14] [6,15,17] [(3,[3,6,7,8])]:=by and_intros<;>rfl
def h63:Hint:=hk [0,1,4,5,6,7,8] [19,29,32] [9,13,14,18,22,26,27,30,33] [] (roots:=[(35,5),(37,7),(40,5),(42,7),(45,5),(47,7),(50,5),(52,7)])
@[simp] theorem h63f:HF h63 [0,1,4,5,6,7,8] [19,29,32] [9,13,14,18,22,26,27,30,33] [] (roots:=[(35,5),(37,7),(40,5),(42,7),(45,5),(47,7),(50,5),(52,7)]):=by and_intros<;>rfl
def h64:Hint:=hk [0,1] [] [5,7] []
@[simp] theorem h64f:HF h64 [0,1] [] [5,7] []:=by and_intros<;>rfl
def h65:Hint:=hk [0,1,2,3,4] [] [] [] (roots:=[(5,2),(7,3),(10,2),(12,3)]) (sw:=[14])
@[simp] theorem h65f:HF h65 [0,1,2,3,4] [] [] [] (roots:=[(5,2),(7,3),(10,2),(12,3)]) (sw:=[14]):=by and_intros<;>rfl
def h66:Hint:=hk [0,2,3,4,5,6,7] [] [8,9,12,13,17,19,20,21,24,28,32,33,35] []
@[simp] theorem h66f:HF h66 [0,2,3,4,5,6,7] [] [8,9,12,13,17,19,20,21,24,28,32,33,35] []:=by and_intros<;>rfl
def h67:Hint:=hk [0,2,4,5,6,7] [8,12] [5,13] [(2,[5,6,7])]
@[simp] theorem h67f:HF h67 [0,2,4,5,6,7] [8,12] [5,13] [(2,[5,6,7])]:=by and_intros<;>rfl
def h68:Hint:=hk [0,2,3,5,6,7,9] [12,37,62] [13,18,23,28,30,33,34,43,44,47,48,49,54,55,59,60] [] (gc:=true)
@[simp] theorem h68f:HF h68 [0,2,3,5,6,7,9] [12,37,62] [13,18,23,28,30,33,34,43,44,47,48,49,54,55,59,60] [] (gc:=true):=by and_intros<;>rfl
def h69:Hint:=hk [0,1,4] [5] [5,6] []
@[simp] theorem h69f:HF h69 [0,1,4] [5] [5,6] []:=by and_intros<;>rfl
def h70:Hint:=hk [0,1,4] [] [5,6] []
@[simp] theorem h70f:HF h70 [0,1,4] [] [5,6] []:=by and_intros<;>rfl
def h71:Hint:=hk [0,1,2] [] [] [] (glob:=[1])
@[simp] theorem h71f:HF h71 [0,1,2] [] [] [] (glob:=[1]):=by and_intros<;>rfl
def h72:Hint:=hk [0,1,2,3] [8,13,19] [9] []
@[simp] theorem h72f:HF h72 [0,1,2,3] [8,13,19] [9] []:=by and_intros<;>rfl
def h73:Hint:=hk [0,1,2,6,7,8,9,10,11,12] [13,31] [32] [(2,[0,1,2,10,11,12])] (roots:=[(8,8)]) (sw:=[25]) (gc:=true)
@[simp] theorem h73f:HF h73 [0,1,2,6,7,8,9,10,11,12] [13,31] [32] [(2,[0,1,2,10,11,12])] (roots:=[(8,8)]) (sw:=[25]) (gc:=true):=by and_intros<;>rfl
def h74:Hint:=hk [0,1,2] [] [] [] (glob:=[1])
@[simp] theorem h74f:HF h74 [0,1,2] [] [] [] (glob:=[1]):=by and_intros<;>rfl
def h75:Hint:=hk [0,1,2,6,7,8,9,10,11,12] [13,31] [32] [(2,[0,1,2,10,11,12])] (roots:=[(8,8)]) (sw:=[25]) (gc:=true)
@[simp] theorem h75f:HF h75 [0,1,2,6,7,8,9,10,11,12] [13,31] [32] [(2,[0,1,2,10,11,12])] (roots:=[(8,8)]) (sw:=[25]) (gc:=true):=by and_intros<;>rfl
def h76:Hint:=hk [0,1,2,3] [11] [12,18] []
@[simp] theorem h76f:HF h76 [0,1,2,3] [11] [12,18] []:=by and_intros<;>rfl
def h77:Hint:=hk [0,1,2] [] [] []
@[simp] theorem h77f:HF h77 [0,1,2] [] [] []:=by and_intros<;>rfl
def h78:Hint:=hk [0,1,2,6,7,8,9,10,11,12] [13,31] [32] [(2,[0,1,2,10,11,12])] (roots:=[(8,8)]) (sw:=[25]) (gc:=true)
@[simp] theorem h78f:HF h78 [0,1,2,6,7,8,9,10,11,12] [13,31] [32] [(2,[0,1,2,10,11,12])] (roots:=[(8,8)]) (sw:=[25]) (gc:=true):=by and_intros<;>rfl
def h79:Hint:=hk [0,1,2] [] [] [] (roots:=[(3,1),(8,1),(14,1),(16,1)])
@[simp] theorem h79f:HF h79 [0,1,2] [] [] [] (roots:=[(3,1),(8,1),(14,1),(16,1)]):=by and_intros<;>rfl
def h80:Hint:=hk [0,1,2] [] [] [] (glob:=[1])
@[simp] theorem h80f:HF h80 [0,1,2] [] [] [] (glob:=[1]):=by and_intros<;>rfl
def h84:Hint:=hk [0,1,4,5] [10,14,25] [15] [(4,[0,1,5])]
@[simp] theorem h84f:HF h84 [0,1,4,5] [10,14,25] [15] [(4,[0,1,5])]:=by and_intros<;>rfl
def h85:Hint:=hk [0,1,4,5,7,8] [9,16] [17] [(2,[0,1,7,8])] (gc:=true)
@[simp] theorem h85f:HF h85 [0,1,4,5,7,8] [9,16] [17] [(2,[0,1,7,8])] (gc:=true):=by and_intros<;>rfl
def h86:Hint:=hk [0,1,2] [] [] [] (glob:=[1])
@[simp] theorem h86f:HF h86 [0,1,2] [] [] [] (glob:=[1]):=by and_intros<;>rfl
def h91:Hint:=hk [0,1,4,5,7,8] [9,16] [17] [(2,[0,1,7,8])] (gc:=true)
@[simp] theorem h91f:HF h91 [0,1,4,5,7,8] [9,16] [17] [(2,[0,1,7,8])] (gc:=true):=by and_intros<;>rfl
def h117:Hint:=hk [0,1] [5] [6,10] []
@[simp] theorem h117f:HF h117 [0,1] [5] [6,10] []:=by and_intros<;>rfl
def h119:Hint:=hk [0,1,4,5,6,7,8] [12,39,44,59,66,75] [21,27,33,40,47,56,69,73,79,80,84,86] [(3,[0,1,5,6]),(6,[0,1,5,6,8])] (glob:=[54,83]) (msd:=[54,83]) (fz:=2) (gc:=true)
@[simp] theorem h119f:HF h119 [0,1,4,5,6,7,8] [12,39,44,59,66,75] [21,27,33,40,47,56,69,73,79,80,84,86] [(3,[0,1,5,6]),(6,[0,1,5,6,8])] (glob:=[54,83]) (msd:=[54,83]) (fz:=2) (gc:=true):=by and_intros<;>rfl
def h120:Hint:=hk [0,1,4,5,6,7,8,14,15,16] [13,17,26,29] [14,30,36] [(5,[1,6,14,15,16])] (roots:=[(21,8)])
@[simp] theorem h120f:HF h120 [0,1,4,5,6,7,8,14,15,16] [13,17,26,29] [14,30,36] [(5,[1,6,14,15,16])] (roots:=[(21,8)]):=by and_intros<;>rfl
def h122:Hint:=hk [0,1,4,5] [] [9,12,14] [] (glob:=[10]) (msd:=[10]) (fz:=2) (gc:=true)
@[simp] theorem h122f:HF h122 [0,1,4,5] [] [9,12,14] [] (glob:=[10]) (msd:=[10]) (fz:=2) (gc:=true):=by and_intros<;>rfl
def h123:Hint:=hk [0,1,2,3,4] [] [] [] (roots:=[(5,2),(7,3),(10,2),(12,3)]) (sw:=[14])
@[simp] theorem h123f:HF h123 [0,1,2,3,4] [] [] [] (roots:=[(5,2),(7,3),(10,2),(12,3)]) (sw:=[14]):=by and_intros<;>rfl
def h124:Hint:=hk [0,1,2,6,7,8,9] [13,30,35,54] [15,20,24,38,45,56,57,61] [(2,[0,1,2,6,7,8]),(7,[0,1,2,6]),(9,[0,1,2,6,7,8])]
@[simp] theorem h124f:HF h124 [0,1,2,6,7,8,9] [13,30,35,54] [15,20,24,38,45,56,57,61] [(2,[0,1,2,6,7,8]),(7,[0,1,2,6]),(9,[0,1,2,6,7,8])]:=by and_intros<;>rfl
def h126:Hint:=hk [0,1,2,6,7,8,9] [13,30,35,54] [15,20,24,38,45,56,57,61] [(2,[0,1,2,6,7,8]),(7,[0,1,2,6]),(9,[0,1,2,6,7,8])]
@[simp] theorem h126f:HF h126 [0,1,2,6,7,8,9] [13,30,35,54] [15,20,24,38,45,56,57,61] [(2,[0,1,2,6,7,8]),(7,[0,1,2,6]),(9,[0,1,2,6,7,8])]:=by and_intros<;>rfl
def h127:Hint:=hk [0,2,3,4,5,6,7,8,9,10,11,12,13] [21,34,74] [17,23,24,29,30,36,42,43,49,50,51,56,57,59,60,63,64,67,68,69,76,77,78,79] []
@[simp] theorem h127f:HF h127 [0,2,3,4,5,6,7,8,9,10,11,12,13] [21,34,74] [17,23,24,29,30,36,42,43,49,50,51,56,57,59,60,63,64,67,68,69,76,77,78,79] []:=by and_intros<;>rfl
def h128:Hint:=hk [0,1,4,5,6] [11,12,13,16,19] [11,12,13,17,18] []
@[simp] theorem h128f:HF h128 [0,1,4,5,6] [11,12,13,16,19] [11,12,13,17,18] []:=by and_intros<;>rfl
def h129:Hint:=hk [0,1,4] [10] [7,11,14,18,20] []
@[simp] theorem h129f:HF h129 [0,1,4] [10] [7,11,14,18,20] []:=by and_intros<;>rfl
def h130:Hint:=hk [0,1,2,6,7,8,9] [13,30,35,54] [15,20,24,38,45,56,57,61] [(2,[0,1,2,6,7,8]),(7,[0,1,2,6]),(9,[0,1,2,6,7,8])]
@[simp] theorem h130f:HF h130 [0,1,2,6,7,8,9] [13,30,35,54] [15,20,24,38,45,56,57,61] [(2,[0,1,2,6,7,8]),(7,[0,1,2,6]),(9,[0,1,2,6,7,8])]:=by and_intros<;>rfl
def h134:Hint:=hk [0,2] [] [5,9,10] []
@[simp] theorem h134f:HF h134 [0,2] [] [5,9,10] []:=by and_intros<;>rfl
def h135:Hint:=hk [0,2] [] [5,6] []
@[simp] theorem h135f:HF h135 [0,2] [] [5,6] []:=by and_intros<;>rfl
def h136:Hint:=hk [0,1,4,6,8,9,10] [11,30] [7,18,23,25] [(2,[1,8,9,10])]
@[simp] theorem h136f:HF h136 [0,1,4,6,8,9,10] [11,30] [7,18,23,25] [(2,[1,8,9,10])]:=by and_intros<;>rfl
def h137:Hint:=hk [0,1,2] [] [] [] (glob:=[1])
@[simp] theorem h137f:HF h137 [0,1,2] [] [] [] (glob:=[1]):=by and_intros<;>rfl
def h139:Hint:=hk [0,1,4,5] [9,16] [10] [(2,[0,1,5])] (gc:=true)
@[simp] theorem h139f:HF h139 [0,1,4,5] [9,16] [10] [(2,[0,1,5])] (gc:=true):=by and_intros<;>rfl
def h141:Hint:=hk [0,2,3,4,5,6,7,8] [12,36] [13,14,21,22,23,26,27,29,30,33,37,38,39,41] []
@[simp] theorem h141f:HF h141 [0,2,3,4,5,6,7,8] [12,36] [13,14,21,22,23,26,27,29,30,33,37,38,39,41] []:=by and_intros<;>rfl
def h142:Hint:=hk [0,1,4,5] [9,17] [10,18] [(2,[0,1,5])] (gc:=true)
@[simp] theorem h142f:HF h142 [0,1,4,5] [9,17] [10,18] [(2,[0,1,5])] (gc:=true):=by and_intros<;>rfl
def h143:Hint:=hk [0,2] [] [5,6] []
@[simp] theorem h143f:HF h143 [0,2] [] [5,6] []:=by and_intros<;>rfl
def h144:Hint:=hk [0,1,2,3] [] [] []
@[simp] theorem h144f:HF h144 [0,1,2,3] [] [] []:=by and_intros<;>rfl
def h145:Hint:=hk [0,2,4] [] [5,6,9,10] []
@[simp] theorem h145f:HF h145 [0,2,4] [] [5,6,9,10] []:=by and_intros<;>rfl
def h146:Hint:=hk [0,1,4,5,6,8] [] [9,10,13,14,15,18,19,20,25,26,28] []
@[simp] theorem h146f:HF h146 [0,1,4,5,6,8] [] [9,10,13,14,15,18,19,20,25,26,28] []:=by and_intros<;>rfl
def h147:Hint:=hk [0,1,4] [] [5,6] []
@[simp] theorem h147f:HF h147 [0,1,4] [] [5,6] []:=by and_intros<;>rfl
def h148:Hint:=hk [0,1,2,3] [] [] []
@[simp] theorem h148f:HF h148 [0,1,2,3] [] [] []:=by and_intros<;>rfl
def h149:Hint:=hk [0,1,4] [] [5,6] []
@[simp] theorem h149f:HF h149 [0,1,4] [] [5,6] []:=by and_intros<;>rfl
def h150:Hint:=hk [0,1,4] [] [5,6] []
@[simp] theorem h150f:HF h150 [0,1,4] [] [5,6] []:=by and_intros<;>rfl
def h151:Hint:=hk [0,1,2,3] [] [] []
@[simp] theorem h151f:HF h151 [0,1,2,3] [] [] []:=by and_intros<;>rfl
def h156:Hint:=hk [0,1,2,3] [] [] []
@[simp] theorem h156f:HF h156 [0,1,2,3] [] [] []:=by and_intros<;>rfl
def h181:Hint:=hk [0,1,4] [] [5,6] []
@[simp] theorem h181f:HF h181 [0,1,4] [] [5,6] []:=by and_intros<;>rfl
def h182:Hint:=hk [0,1,4] [] [6,22,23] []
@[simp] theorem h182f:HF h182 [0,1,4] [] [6,22,23] []:=by and_intros<;>rfl
def h183:Hint:=hk [0,1,4,6] [] [8,12,16,31,32] []
@[simp] theorem h183f:HF h183 [0,1,4,6] [] [8,12,16,31,32] []:=by and_intros<;>rfl
def h184:Hint:=hk [0,1,4,5] [] [7] [] (roots:=[(5,5),(37,5)]) (sw:=[39,50,56]) (msd:=[50]) (gc:=true) (ad:=[39])
@[simp] theorem h184f:HF h184 [0,1,4,5] [] [7] [] (roots:=[(5,5),(37,5)]) (sw:=[39,50,56]) (msd:=[50]) (gc:=true) (ad:=[39]):=by and_intros<;>rfl
def h185:Hint:=hk [0,1,4,5] [] [7] [] (roots:=[(5,5)]) (sw:=[43,49]) (msd:=[43])
@[simp] theorem h185f:HF h185 [0,1,4,5] [] [7] [] (roots:=[(5,5)]) (sw:=[43,49]) (msd:=[43]):=by and_intros<;>rfl
def h186:Hint:=hk [0,1,4,5,6] [12] [7,11,12,24] [] (roots:=[(6,6)]) (sw:=[58,69,75]) (msd:=[69]) (gc:=true) (ad:=[58])
@[simp] theorem h186f:HF h186 [0,1,4,5,6] [12] [7,11,12,24] [] (roots:=[(6,6)]) (sw:=[58,69,75]) (msd:=[69]) (gc:=true) (ad:=[58]):=by and_intros<;>rfl
def h187:Hint:=hk [0,1,4,5,6] [12] [7,11,12,21] [] (roots:=[(6,6)]) (sw:=[57,63]) (msd:=[57])
@[simp] theorem h187f:HF h187 [0,1,4,5,6] [12] [7,11,12,21] [] (roots:=[(6,6)]) (sw:=[57,63]) (msd:=[57]):=by and_intros<;>rfl
def h188:Hint:=hk [0,1] [] [5,7] []
@[simp] theorem h188f:HF h188 [0,1] [] [5,7] []:=by and_intros<;>rfl
def h189:Hint:=hk [0,1,2,3,8,9] [14,34] [15,35] [(1,[0,1,2,3,8]),(4,[0,1,2,3,8,9])] (sw:=[32,51,52]) (gc:=true)
@[simp] theorem h189f:HF h189 [0,1,2,3,8,9] [14,34] [15,35] [(1,[0,1,2,3,8]),(4,[0,1,2,3,8,9])] (sw:=[32,51,52]) (gc:=true):=by and_intros<;>rfl
def h190:Hint:=hk [0,1,2,3,4,10,11,12,13,14,15,16,17,18,19,20,21,22,23,24] [28,33,50,58,80,85,103,110,140,151,171,185,199,213] [29,30,51,53,54,59,81,104,106,107,111,172,174,175,181,188,195,201,202,209,214,215,216,217,218] [(3,[0,1,4,10,11]),(9,[0,10,13]),(15,[0,2,4,14,15]),(21,[0,14,17]),(33,[0,1,2,3,4,18,19,20,21,22])] (sw:=[49,75,76,101,127,128,169]) (gc:=true)
@[simp] theorem h190f:HF h190 [0,1,2,3,4,10,11,12,13,14,15,16,17,18,19,20,21,22,23,24] [28,33,50,58,80,85,103,110,140,151,171,185,199,213] [29,30,51,53,54,59,81,104,106,107,111,172,174,175,181,188,195,201,202,209,214,215,216,217,218] [(3,[0,1,4,10,11]),(9,[0,10,13]),(15,[0,2,4,14,15]),(21,[0,14,17]),(33,[0,1,2,3,4,18,19,20,21,22])] (sw:=[49,75,76,101,127,128,169]) (gc:=true):=by and_intros<;>rfl
def h192:Hint:=hk [0,1,2,3,8,9] [14,34] [15,35] [(1,[0,1,2,3,8]),(4,[0,1,2,3,8,9])] (sw:=[32,51,52]) (gc:=true)
@[simp] theorem h192f:HF h192 [0,1,2,3,8,9] [14,34] [15,35] [(1,[0,1,2,3,8]),(4,[0,1,2,3,8,9])] (sw:=[32,51,52]) (gc:=true):=by and_intros<;>rfl
def h193:Hint:=hk [0,1,2,3,4,10,11,12,13,14,15,16,17,18,19,20,21,22,23,24] [28,33,50,58,80,85,103,110,140,151,171,185,199,213] [29,30,51,53,54,59,81,104,106,107,111,172,174,175,181,188,195,201,202,209,214,215,216,217,218] [(3,[0,1,4,10,11]),(9,[0,10,13]),(15,[0,2,4,14,15]),(21,[0,14,17]),(33,[0,1,2,3,4,18,19,20,21,22])] (sw:=[49,75,76,101,127,128,169]) (gc:=true)
@[simp] theorem h193f:HF h193 [0,1,2,3,4,10,11,12,13,14,15,16,17,18,19,20,21,22,23,24] [28,33,50,58,80,85,103,110,140,151,171,185,199,213] [29,30,51,53,54,59,81,104,106,107,111,172,174,175,181,188,195,201,202,209,214,215,216,217,218] [(3,[0,1,4,10,11]),(9,[0,10,13]),(15,[0,2,4,14,15]),(21,[0,14,17]),(33,[0,1,2,3,4,18,19,20,21,22])] (sw:=[49,75,76,101,127,128,169]) (gc:=true):=by and_intros<;>rfl
def h196:Hint:=hk [0,2,3,4,5] [18] [9,14,19,20,23] []
@[simp] theorem h196f:HF h196 [0,2,3,4,5] [18] [9,14,19,20,23] []:=by and_intros<;>rfl
def h197:Hint:=hk [0,2,4,6,7,8] [9,24] [5,16,19,20] [(2,[6,7,8])] (gc:=true)
@[simp] theorem h197f:HF h197 [0,2,4,6,7,8] [9,24] [5,16,19,20] [(2,[6,7,8])] (gc:=true):=by and_intros<;>rfl
def h198:Hint:=hk [0,2] [] [4] []
@[simp] theorem h198f:HF h198 [0,2] [] [4] []:=by and_intros<;>rfl
def h199:Hint:=hk [0,1,2,6,7,8,9,10,11,12,13] [14,21,31,38] [23,27,28,32,34,36] [(2,[0,1,2,11,12,13])] (gc:=true)
@[simp] theorem h199f:HF h199 [0,1,2,6,7,8,9,10,11,12,13] [14,21,31,38] [23,27,28,32,34,36] [(2,[0,1,2,11,12,13])] (gc:=true):=by and_intros<;>rfl
def h200:Hint:=hk [0,1,4,5,6] [11,26,28] [13,21,22,27,29,30,31] []
@[simp] theorem h200f:HF h200 [0,1,4,5,6] [11,26,28] [13,21,22,27,29,30,31] []:=by and_intros<;>rfl
def h201:Hint:=hk [0,1,2,3,8,9] [14,34] [15,35] [(1,[0,1,2,3,8]),(4,[0,1,2,3,8,9])] (sw:=[32,51,52]) (gc:=true)
@[simp] theorem h201f:HF h201 [0,1,2,3,8,9] [14,34] [15,35] [(1,[0,1,2,3,8]),(4,[0,1,2,3,8,9])] (sw:=[32,51,52]) (gc:=true):=by and_intros<;>rfl
def h202:Hint:=hk [0,1,2,3,4,10,11,12,13,14,15,16,17,18,19,20,21,22,23,24] [28,33,50,58,80,85,103,110,140,151,171,185,199,213] [29,30,51,53,54,59,81,104,106,107,111,172,174,175,181,188,195,201,202,209,214,215,216,217,218] [(3,[0,1,4,10,11]),(9,[0,10,13]),(15,[0,2,4,14,15]),(21,[0,14,17]),(33,[0,1,2,3,4,18,19,20,21,22])] (sw:=[49,75,76,101,127,128,169]) (gc:=true)
@[simp] theorem h202f:HF h202 [0,1,2,3,4,10,11,12,13,14,15,16,17,18,19,20,21,22,23,24] [28,33,50,58,80,85,103,110,140,151,171,185,199,213] [29,30,51,53,54,59,81,104,106,107,111,172,174,175,181,188,195,201,202,209,214,215,216,217,218] [(3,[0,1,4,10,11]),(9,[0,10,13]),(15,[0,2,4,14,15]),(21,[0,14,17]),(33,[0,1,2,3,4,18,19,20,21,22])] (sw:=[49,75,76,101,127,128,169]) (gc:=true):=by and_intros<;>rfl
def h207:Hint:=hk [0,1,3] [] [6,10,14,16] []
@[simp] theorem h207f:HF h207 [0,1,3] [] [6,10,14,16] []:=by and_intros<;>rfl
def h208:Hint:=hk [0,2] [] [5,6] []
@[simp] theorem h208f:HF h208 [0,2] [] [5,6] []:=by and_intros<;>rfl
def h212:Hint:=hk [0,1,4,5,7,8] [9,16] [17] [(2,[0,1,7,8])] (gc:=true)
@[simp] theorem h212f:HF h212 [0,1,4,5,7,8] [9,16] [17] [(2,[0,1,7,8])] (gc:=true):=by and_intros<;>rfl
def h213:Hint:=hk [0,1,4,5,7,8] [9,16] [17] [(2,[0,1,7,8])] (gc:=true)
@[simp] theorem h213f:HF h213 [0,1,4,5,7,8] [9,16] [17] [(2,[0,1,7,8])] (gc:=true):=by and_intros<;>rfl
def h236:Hint:=hk [0,1,2,6,7,8] [] [9,10,11,14,15,16,20] []
@[simp] theorem h236f:HF h236 [0,1,2,6,7,8] [] [9,10,11,14,15,16,20] []:=by and_intros<;>rfl
def h237:Hint:=hk [0,1] [] [4,5] []
@[simp] theorem h237f:HF h237 [0,1] [] [4,5] []:=by and_intros<;>rfl
def h238:Hint:=hk [0,1,3,4] [] [5] []
@[simp] theorem h238f:HF h238 [0,1,3,4] [] [5] []:=by and_intros<;>rfl
def h239:Hint:=hk [0,1,3,4] [] [5] []
@[simp] theorem h239f:HF h239 [0,1,3,4] [] [5] []:=by and_intros<;>rfl
def h240:Hint:=hk [0,1,2,6,7,8,9] [13,30,35,54] [15,20,24,38,45,56,57,61] [(2,[0,1,2,6,7,8]),(7,[0,1,2,6]),(9,[0,1,2,6,7,8])]
@[simp] theorem h240f:HF h240 [0,1,2,6,7,8,9] [13,30,35,54] [15,20,24,38,45,56,57,61] [(2,[0,1,2,6,7,8]),(7,[0,1,2,6]),(9,[0,1,2,6,7,8])]:=by and_intros<;>rfl
def h241:Hint:=hk [0,1,2,3,4,10,11] [20,23] [13,15,32,47,50,54,55,56] [(2,[0,2,4,10,11])]
@[simp] theorem h241f:HF h241 [0,1,2,3,4,10,11] [20,23] [13,15,32,47,50,54,55,56] [(2,[0,2,4,10,11])]:=by and_intros<;>rfl
def h242:Hint:=hk [0,1,2,3,4,10,11] [20,23] [13,15,32,47,50,54,55,56] [(2,[0,2,4,10,11])]
@[simp] theorem h242f:HF h242 [0,1,2,3,4,10,11] [20,23] [13,15,32,47,50,54,55,56] [(2,[0,2,4,10,11])]:=by and_intros<;>rfl
def h245:Hint:=hk [0,2] [] [5,8,9] []
@[simp] theorem h245f:HF h245 [0,2] [] [5,8,9] []:=by and_intros<;>rfl
def h246:Hint:=hk [0,1,2,3,4,10,11] [20,23] [13,15,32,47,50,54,55,56] [(2,[0,2,4,10,11])]
@[simp] theorem h246f:HF h246 [0,1,2,3,4,10,11] [20,23] [13,15,32,47,50,54,55,56] [(2,[0,2,4,10,11])]:=by and_intros<;>rfl
def h261:Hint:=hk [0,1,3,4,5,7,8] [9,16] [17] [(2,[0,3,7,8])] (roots:=[(3,3)])
@[simp] theorem h261f:HF h261 [0,1,3,4,5,7,8] [9,16] [17] [(2,[0,3,7,8])] (roots:=[(3,3)]):=by and_intros<;>rfl
def h262:Hint:=hk [0,1,3,4,5,7,8] [9,16] [17] [(2,[0,3,7,8])] (roots:=[(3,3)])
@[simp] theorem h262f:HF h262 [0,1,3,4,5,7,8] [9,16] [17] [(2,[0,3,7,8])] (roots:=[(3,3)]):=by and_intros<;>rfl
def h263:Hint:=hk [0,1,2,3,8,9] [14,34] [15,35] [(1,[0,1,2,3,8]),(4,[0,1,2,3,8,9])] (sw:=[32,51,52]) (gc:=true)
@[simp] theorem h263f:HF h263 [0,1,2,3,8,9] [14,34] [15,35] [(1,[0,1,2,3,8]),(4,[0,1,2,3,8,9])] (sw:=[32,51,52]) (gc:=true):=by and_intros<;>rfl
def h264:Hint:=hk [0,1,2,3,4,10,11,12,13,14,15,16,17,18,19,20,21,22,23,24] [28,33,50,58,80,85,103,110,140,151,171,185,199,213] [29,30,51,53,54,59,81,104,106,107,111,172,174,175,181,188,195,201,202,209,214,215,216,217,218] [(3,[0,1,4,10,11]),(9,[0,10,13]),(15,[0,2,4,14,15]),(21,[0,14,17]),(33,[0,1,2,3,4,18,19,20,21,22])] (sw:=[49,75,76,101,127,128,169]) (gc:=true)
@[simp] theorem h264f:HF h264 [0,1,2,3,4,10,11,12,13,14,15,16,17,18,19,20,21,22,23,24] [28,33,50,58,80,85,103,110,140,151,171,185,199,213] [29,30,51,53,54,59,81,104,106,107,111,172,174,175,181,188,195,201,202,209,214,215,216,217,218] [(3,[0,1,4,10,11]),(9,[0,10,13]),(15,[0,2,4,14,15]),(21,[0,14,17]),(33,[0,1,2,3,4,18,19,20,21,22])] (sw:=[49,75,76,101,127,128,169]) (gc:=true):=by and_intros<;>rfl
def h265:Hint:=hk [0,1,2,3,4,10] [13] [14] [(1,[0,1,2,3,10])] (sw:=[36,37])
@[simp] theorem h265f:HF h265 [0,1,2,3,4,10] [13] [14] [(1,[0,1,2,3,10])] (sw:=[36,37]):=by and_intros<;>rfl
def h266:Hint:=hk [0,1,2,3,4,10] [13] [14] [(1,[0,1,2,3,10])] (sw:=[36,37])
@[simp] theorem h266f:HF h266 [0,1,2,3,4,10] [13] [14] [(1,[0,1,2,3,10])] (sw:=[36,37]):=by and_intros<;>rfl
def h269:Hint:=hk [0,1,2,3,4,10] [13] [14] [(1,[0,1,2,3,10])] (sw:=[36,37])
@[simp] theorem h269f:HF h269 [0,1,2,3,4,10] [13] [14] [(1,[0,1,2,3,10])] (sw:=[36,37]):=by and_intros<;>rfl
def h279:Hint:=hk [0,1,2,3,4,10,11] [20,23] [13,15,32,47,50,54,55,56] [(2,[0,2,4,10,11])]
@[simp] theorem h279f:HF h279 [0,1,2,3,4,10,11] [20,23] [13,15,32,47,50,54,55,56] [(2,[0,2,4,10,11])]:=by and_intros<;>rfl
def h289:Hint:=hk [0,1,2,3,4,10] [13] [14] [(1,[0,1,2,3,10])] (sw:=[36,37])
@[simp] theorem h289f:HF h289 [0,1,2,3,4,10] [13] [14] [(1,[0,1,2,3,10])] (sw:=[36,37]):=by and_intros<;>rfl
def h100023:Hint:=hk [0,1,4,5,6,7] [11,24] [12,18,25,27,34] [(4,[0,1,5,6,7])] (glob:=[31]) (msd:=[31])
@[simp] theorem h100023f:HF h100023 [0,1,4,5,6,7] [11,24] [12,18,25,27,34] [(4,[0,1,5,6,7])] (glob:=[31]) (msd:=[31]):=by and_intros<;>rfl
def h100053:Hint:=hk [0,2] [] [6] [] (glob:=[7]) (msd:=[7])
@[simp] theorem h100053f:HF h100053 [0,2] [] [6] [] (glob:=[7]) (msd:=[7]):=by and_intros<;>rfl
def h100055:Hint:=hk [0,2] [] [6] [] (glob:=[7]) (msd:=[7])
@[simp] theorem h100055f:HF h100055 [0,2] [] [6] [] (glob:=[7]) (msd:=[7]):=by and_intros<;>rfl
def h100056:Hint:=hk [0,2] [] [6] [] (glob:=[7]) (msd:=[7])
@[simp] theorem h100056f:HF h100056 [0,2] [] [6] [] (glob:=[7]) (msd:=[7]):=by and_intros<;>rfl
def h100018:Hint:=hk [0,1,2] [] [] [] (roots:=[(3,1),(6,1),(9,1),(12,1),(15,1),(16,1),(17,1),(18,1)]) (sw:=[5,8,11,14]) (alt:=[(5,1),(8,1),(11,1),(14,1)])
@[simp] theorem h100018f:HF h100018 [0,1,2] [] [] [] (roots:=[(3,1),(6,1),(9,1),(12,1),(15,1),(16,1),(17,1),(18,1)]) (sw:=[5,8,11,14]) (alt:=[(5,1),(8,1),(11,1),(14,1)]):=by and_intros<;>rfl
def h100054:Hint:=hk [0,2] [] [3] [] (alt:=[(4,1)])
@[simp] theorem h100054f:HF h100054 [0,2] [] [3] [] (alt:=[(4,1)]):=by and_intros<;>rfl
def h100122:Hint:=hk [0,1,4,5] [] [9,12,14] [] (glob:=[10]) (msd:=[10])
@[simp] theorem h100122f:HF h100122 [0,1,4,5] [] [9,12,14] [] (glob:=[10]) (msd:=[10]):=by and_intros<;>rfl
def H:FuncId→Hint
 | 3=>h3
 | 5=>h5
 | 7=>h7
 | 8=>h8
 | 12=>h12
 | 13=>h13
 | 14=>h14
 | 15=>h15
 | 16=>h16
 | 17=>h17
 | 18=>h18
 | 19=>h19
 | 21=>h21
 | 23=>h23
 | 24=>h24
 | 25=>h25
 | 37=>h37
 | 38=>h38
 | 39=>h39
 | 40=>h40
 | 41=>h41
 | 42=>h42
 | 43=>h43
 | 44=>h44
 | 45=>h45
 | 46=>h46
 | 47=>h47
 | 49=>h49
 | 51=>h51
 | 52=>h52
 | 53=>h53
 | 54=>h54
 | 55=>h55
 | 56=>h56
 | 57=>h57
 | 58=>h58
 | 59=>h59
 | 60=>h60
 | 61=>h61
 | 62=>h62
 | 63=>h63
 | 64=>h64
 | 65=>h65
 | 66=>h66
 | 67=>h67
 | 68=>h68
 | 69=>h69
 | 70=>h70
 | 71=>h71
 | 72=>h72
 | 73=>h73
 | 74=>h74
 | 75=>h75
 | 76=>h76
 | 77=>h77
 | 78=>h78
 | 79=>h79
 | 80=>h80
 | 84=>h84
 | 85=>h85
 | 86=>h86
 | 91=>h91
 | 117=>h117
 | 119=>h119
 | 120=>h120
 | 122=>h122
 | 123=>h123
 | 124=>h124
 | 126=>h126
 | 127=>h127
 | 128=>h128
 | 129=>h129
 | 130=>h130
 | 134=>h134
 | 135=>h135
 | 136=>h136
 | 137=>h137
 | 139=>h139
 | 141=>h141
 | 142=>h142
 | 143=>h143
 | 144=>h144
 | 145=>h145
 | 146=>h146
 | 147=>h147
 | 148=>h148
 | 149=>h149
 | 150=>h150
 | 151=>h151
 | 156=>h156
 | 181=>h181
 | 182=>h182
 | 183=>h183
 | 184=>h184
 | 185=>h185
 | 186=>h186
 | 187=>h187
 | 188=>h188
 | 189=>h189
 | 190=>h190
 | 192=>h192
 | 193=>h193
 | 196=>h196
 | 197=>h197
 | 198=>h198
 | 199=>h199
 | 200=>h200
 | 201=>h201
 | 202=>h202
 | 207=>h207
 | 208=>h208
 | 212=>h212
 | 213=>h213
 | 236=>h236
 | 237=>h237
 | 238=>h238
 | 239=>h239
 | 240=>h240
 | 241=>h241
 | 242=>h242
 | 245=>h245
 | 246=>h246
 | 261=>h261
 | 262=>h262
 | 263=>h263
 | 264=>h264
 | 265=>h265
 | 266=>h266
 | 269=>h269
 | 279=>h279
 | 289=>h289
 | 100023=>h100023
 | 100053=>h100053
 | 100055=>h100055
 | 100056=>h100056
 | 100018=>h100018
 | 100054=>h100054
 | 100122=>h100122
 | _=>{}
@[simp] theorem H3:H 3=h3:=rfl
@[simp] theorem H5:H 5=h5:=rfl
@[simp] theorem H7:H 7=h7:=rfl
@[simp] theorem H8:H 8=h8:=rfl
@[simp] theorem H12:H 12=h12:=rfl
@[simp] theorem H13:H 13=h13:=rfl
@[simp] theorem H14:H 14=h14:=rfl
@[simp] theorem H15:H 15=h15:=rfl
@[simp] theorem H16:H 16=h16:=rfl
@[simp] theorem H17:H 17=h17:=rfl
@[simp] theorem H18:H 18=h18:=rfl
@[simp] theorem H19:H 19=h19:=rfl
@[simp] theorem H21:H 21=h21:=rfl
@[simp] theorem H23:H 23=h23:=rfl
@[simp] theorem H24:H 24=h24:=rfl
@[simp] theorem H25:H 25=h25:=rfl
@[simp] theorem H37:H 37=h37:=rfl
@[simp] theorem H38:H 38=h38:=rfl
@[simp] theorem H39:H 39=h39:=rfl
@[simp] theorem H40:H 40=h40:=rfl
@[simp] theorem H41:H 41=h41:=rfl
@[simp] theorem H42:H 42=h42:=rfl
@[simp] theorem H43:H 43=h43:=rfl
@[simp] theorem H44:H 44=h44:=rfl
@[simp] theorem H45:H 45=h45:=rfl
@[simp] theorem H46:H 46=h46:=rfl
@[simp] theorem H47:H 47=h47:=rfl
@[simp] theorem H49:H 49=h49:=rfl
@[simp] theorem H51:H 51=h51:=rfl
@[simp] theorem H52:H 52=h52:=rfl
@[simp] theorem H53:H 53=h53:=rfl
@[simp] theorem H54:H 54=h54:=rfl
@[simp] theorem H55:H 55=h55:=rfl
@[simp] theorem H56:H 56=h56:=rfl
@[simp] theorem H57:H 57=h57:=rfl
@[simp] theorem H58:H 58=h58:=rfl
@[simp] theorem H59:H 59=h59:=rfl
@[simp] theorem H60:H 60=h60:=rfl
@[simp] theorem H61:H 61=h61:=rfl
@[simp] theorem H62:H 62=h62:=rfl
@[simp] theorem H63:H 63=h63:=rfl
@[simp] theorem H64:H 64=h64:=rfl
@[simp] theorem H65:H 65=h65:=rfl
@[simp] theorem H66:H 66=h66:=rfl
@[simp] theorem H67:H 67=h67:=rfl
@[simp] theorem H68:H 68=h68:=rfl
@[simp] theorem H69:H 69=h69:=rfl
@[simp] theorem H70:H 70=h70:=rfl
@[simp] theorem H71:H 71=h71:=rfl
@[simp] theorem H72:H 72=h72:=rfl
@[simp] theorem H73:H 73=h73:=rfl
@[simp] theorem H74:H 74=h74:=rfl
@[simp] theorem H75:H 75=h75:=rfl
@[simp] theorem H76:H 76=h76:=rfl
@[simp] theorem H77:H 77=h77:=rfl
@[simp] theorem H78:H 78=h78:=rfl
@[simp] theorem H79:H 79=h79:=rfl
@[simp] theorem H80:H 80=h80:=rfl
@[simp] theorem H84:H 84=h84:=rfl
@[simp] theorem H85:H 85=h85:=rfl
@[simp] theorem H86:H 86=h86:=rfl
@[simp] theorem H91:H 91=h91:=rfl
@[simp] theorem H117:H 117=h117:=rfl
@[simp] theorem H119:H 119=h119:=rfl
@[simp] theorem H120:H 120=h120:=rfl
@[simp] theorem H122:H 122=h122:=rfl
@[simp] theorem H123:H 123=h123:=rfl
@[simp] theorem H124:H 124=h124:=rfl
@[simp] theorem H126:H 126=h126:=rfl
@[simp] theorem H127:H 127=h127:=rfl
@[simp] theorem H128:H 128=h128:=rfl
@[simp] theorem H129:H 129=h129:=rfl
@[simp] theorem H130:H 130=h130:=rfl
@[simp] theorem H134:H 134=h134:=rfl
@[simp] theorem H135:H 135=h135:=rfl
@[simp] theorem H136:H 136=h136:=rfl
@[simp] theorem H137:H 137=h137:=rfl
@[simp] theorem H139:H 139=h139:=rfl
@[simp] theorem H141:H 141=h141:=rfl
@[simp] theorem H142:H 142=h142:=rfl
@[simp] theorem H143:H 143=h143:=rfl
@[simp] theorem H144:H 144=h144:=rfl
@[simp] theorem H145:H 145=h145:=rfl
@[simp] theorem H146:H 146=h146:=rfl
@[simp] theorem H147:H 147=h147:=rfl
@[simp] theorem H148:H 148=h148:=rfl
@[simp] theorem H149:H 149=h149:=rfl
@[simp] theorem H150:H 150=h150:=rfl
@[simp] theorem H151:H 151=h151:=rfl
@[simp] theorem H156:H 156=h156:=rfl
@[simp] theorem H181:H 181=h181:=rfl
@[simp] theorem H182:H 182=h182:=rfl
@[simp] theorem H183:H 183=h183:=rfl
@[simp] theorem H184:H 184=h184:=rfl
@[simp] theorem H185:H 185=h185:=rfl
@[simp] theorem H186:H 186=h186:=rfl
@[simp] theorem H187:H 187=h187:=rfl
@[simp] theorem H188:H 188=h188:=rfl
@[simp] theorem H189:H 189=h189:=rfl
@[simp] theorem H190:H 190=h190:=rfl
@[simp] theorem H192:H 192=h192:=rfl
@[simp] theorem H193:H 193=h193:=rfl
@[simp] theorem H196:H 196=h196:=rfl
@[simp] theorem H197:H 197=h197:=rfl
@[simp] theorem H198:H 198=h198:=rfl
@[simp] theorem H199:H 199=h199:=rfl
@[simp] theorem H200:H 200=h200:=rfl
@[simp] theorem H201:H 201=h201:=rfl
@[simp] theorem H202:H 202=h202:=rfl
@[simp] theorem H207:H 207=h207:=rfl
@[simp] theorem H208:H 208=h208:=rfl
@[simp] theorem H212:H 212=h212:=rfl
@[simp] theorem H213:H 213=h213:=rfl
@[simp] theorem H236:H 236=h236:=rfl
@[simp] theorem H237:H 237=h237:=rfl
@[simp] theorem H238:H 238=h238:=rfl
@[simp] theorem H239:H 239=h239:=rfl
@[simp] theorem H240:H 240=h240:=rfl
@[simp] theorem H241:H 241=h241:=rfl
@[simp] theorem H242:H 242=h242:=rfl
@[simp] theorem H245:H 245=h245:=rfl
@[simp] theorem H246:H 246=h246:=rfl
@[simp] theorem H261:H 261=h261:=rfl
@[simp] theorem H262:H 262=h262:=rfl
@[simp] theorem H263:H 263=h263:=rfl
@[simp] theorem H264:H 264=h264:=rfl
@[simp] theorem H265:H 265=h265:=rfl
@[simp] theorem H266:H 266=h266:=rfl
@[simp] theorem H269:H 269=h269:=rfl
@[simp] theorem H279:H 279=h279:=rfl
@[simp] theorem H289:H 289=h289:=rfl
@[simp] theorem H100023:H 100023=h100023:=rfl
@[simp] theorem H100053:H 100053=h100053:=rfl
@[simp] theorem H100055:H 100055=h100055:=rfl
@[simp] theorem H100056:H 100056=h100056:=rfl
@[simp] theorem H100018:H 100018=h100018:=rfl
@[simp] theorem H100054:H 100054=h100054:=rfl
@[simp] theorem H100122:H 100122=h100122:=rfl
end Go.Proofs.Tryz.Ai
end
section
namespace Go.Proofs.Tryz.Ai
open Go Go.AI Go.RowKit Go.Proofs
set_option linter.unusedVariables false
noncomputable def T:Table
 | 115=>some copyCheckT
 | 48=>some stringT
 | 228=>some indexT
 | 125=>some compareT
 | 268=>some countT
 | 133=>some itoaT
 | 173=>some indexST
 | 132=>some atoiT
 | 140=>some lastIndexT
 | 50=>some cutT
 | 195=>some splitT
 | 131=>some cutPrefixT
 | 194=>some hasPrefixT
 | 138=>some containsT
 | 118=>some trimT
 | 121=>some statementsT
 | 16=>some fun _ _=>none
 | _=>none
theorem qfl:AI.Enters Tryz.prog 115:=⟨_,Tryz.func115,by kernel_rfl,by kernel_rfl⟩
theorem qix:AI.Enters Tryz.prog 48:=⟨_,Tryz.func48,by kernel_rfl,by kernel_rfl⟩
theorem qkl:AI.Enters Tryz.prog 228:=⟨_,Tryz.func228,by kernel_rfl,by kernel_rfl⟩
theorem qhe:AI.Enters Tryz.prog 125:=⟨_,Tryz.func125,by kernel_rfl,by kernel_rfl⟩
theorem qkm:AI.Enters Tryz.prog 268:=⟨_,Tryz.func268,by kernel_rfl,by kernel_rfl⟩
theorem qlz:AI.Enters Tryz.prog 133:=⟨_,Tryz.func133,by kernel_rfl,by kernel_rfl⟩
theorem T_ok {W0:World} (hl:LaidAll W0):TableOk Tryz.prog W0.heap.size W0 T:=by
 intro f p hf xs s r s' e
 unfold T at hf
 split at hf
 ·injection hf with hf;subst hf;exact⟨qfl,qki e⟩
 ·injection hf with hf;subst hf;exact⟨qix,qq3 e⟩
 ·injection hf with hf;subst hf;exact⟨qkl,qu6 e⟩
 ·injection hf with hf;subst hf;exact⟨qhe,qog e⟩
 ·injection hf with hf;subst hf;exact⟨qkm,qu7 e⟩
 ·injection hf with hf;subst hf;exact⟨qlz,qyh hl.tab e⟩
 ·injection hf with hf;subst hf;exact⟨⟨_,Tryz.func173,by kernel_rfl,by kernel_rfl⟩,qq6 hl e⟩
 ·injection hf with hf;subst hf;exact⟨⟨_,Tryz.func132,by kernel_rfl,by kernel_rfl⟩,qyi hl e⟩
 ·injection hf with hf;subst hf;exact⟨⟨_,Tryz.func140,by kernel_rfl,by kernel_rfl⟩,qkj e⟩
 ·injection hf with hf;subst hf;exact⟨⟨_,Tryz.func50,by kernel_rfl,by kernel_rfl⟩,q10 hl e⟩
 ·injection hf with hf;subst hf;exact⟨⟨_,Tryz.func195,by kernel_rfl,by kernel_rfl⟩,qu9 hl e⟩
 ·injection hf with hf;subst hf;exact⟨⟨_,Tryz.func131,by kernel_rfl,by kernel_rfl⟩,qkk e⟩
 ·injection hf with hf;subst hf;exact⟨⟨_,Tryz.func194,by kernel_rfl,by kernel_rfl⟩,hasPrefix_ok e⟩
 ·injection hf with hf;subst hf;exact⟨⟨_,Tryz.func138,by kernel_rfl,by kernel_rfl⟩,qlx hl e⟩
 ·injection hf with hf;subst hf;exact⟨⟨_,Tryz.func118,by kernel_rfl,by kernel_rfl⟩,trim_ok e⟩
 ·injection hf with hf;subst hf;exact⟨⟨_,Tryz.func121,by kernel_rfl,by kernel_rfl⟩,qiw e⟩
 ·injection hf with hf;subst hf;cases e
 ·cases hf
noncomputable abbrev ev:Oracle:=EV Tryz.prog H T
theorem qiy (xs:List AV) (s:List (List AV)):ev 121 xs s=statementsT xs s:=qaq rfl xs s
theorem qfg (xs:List AV) (s:List (List AV)):ev 115 xs s=copyCheckT xs s:=qaq rfl xs s
theorem qq7 (xs:List AV) (s:List (List AV)):ev 48 xs s=stringT xs s:=qaq rfl xs s
theorem qva (xs:List AV) (s:List (List AV)):ev 228 xs s=indexT xs s:=qaq rfl xs s
theorem qoi (xs:List AV) (s:List (List AV)):ev 125 xs s=compareT xs s:=qaq rfl xs s
theorem qyj (xs:List AV) (s:List (List AV)):ev 133 xs s=itoaT xs s:=qaq rfl xs s
theorem qq8 (xs:List AV) (s:List (List AV)):ev 132 xs s=atoiT xs s:=qaq rfl xs s
theorem qkn (xs:List AV) (s:List (List AV)):ev 140 xs s=lastIndexT xs s:=qaq rfl xs s
theorem qko (xs:List AV) (s:List (List AV)):ev 50 xs s=cutT xs s:=qaq rfl xs s
theorem qvb (xs:List AV) (s:List (List AV)):ev 195 xs s=splitT xs s:=qaq rfl xs s
theorem qkp (xs:List AV) (s:List (List AV)):ev 131 xs s=cutPrefixT xs s:=qaq rfl xs s
theorem qkq (xs:List AV) (s:List (List AV)):ev 194 xs s=hasPrefixT xs s:=qaq rfl xs s
theorem ql0 (xs:List AV) (s:List (List AV)):ev 138 xs s=containsT xs s:=qaq rfl xs s
theorem qyk (xs:List AV) (s:List (List AV)):ev 118 xs s=trimT xs s:=qaq rfl xs s
end Go.Proofs.Tryz.Ai
end
section
namespace Go.Proofs.Tryz.Ai
open Go Go.AI Go.Proofs
set_option maxHeartbeats 1000000
set_option linter.unusedVariables false
def bc (b:Nat):Option (List UInt8)→List AV
 | none=>[.nilp,.sl .nil []]
 | some l=>[.gp b 0 (some (SB,2)),.sl (.ex U8 1) (l.map .u8)]
def bs (b:Nat):Option (List UInt8)→List AV
 | none=>[.nilp,.sl .nil []]
 | some l=>[.gp b 0 (some (SB,2)),.sl .sh (l.map .u8)]
def txt (o:Option (List UInt8)):List UInt8:=o.getD []
@[simp] theorem txt_some (l:List UInt8):txt (some l)=l:=rfl
@[simp] theorem txt_none:txt none=[]:=rfl
@[simp] theorem qiz (b:Nat) (o:Option (List UInt8)) (n:Nat):lowL n (bc b o)↔o=none∨b<n:=by cases o<;>simp[bc]
@[simp] theorem bs_lowL (b:Nat) (o:Option (List UInt8)) (n:Nat):lowL n (bs b o)↔o=none∨b<n:=by cases o<;>simp[bs]
theorem qy (b:Nat) (σ:List (List AV)) (o:Option (List UInt8)) (m:List UInt8) (hl:(txt o).length+m.length≤most) (hb:σ[b]? = some (bc b o)) :
  ev 37 [.gp b 0 (some (SB,2)),.str m] σ=some (.tup [.int .i64 m.length,.nili],σ.set b (bc b (some (txt o++m)))):=by
 have hlt:b<σ.length:=(List.getElem?_eq_some_iff.1 hb).1
 have h1:m.length≤most:=by omega
 refine qf rfl Tryz.func37 rfl (by simp[Tryz.ntmps37]) (by kernel_rfl) (by kernel_rfl) ?_
 cases o with
 | none =>
  simp only[bc,txt_none] at hb hl ⊢
  simp (maxSteps:=4000000) (disch:=omega) [dT,dF,qj,-getElem?_pos,List.getElem?_cons_zero,List.getElem?_cons_succ,List.getElem?_set,qfg,copyCheckT,hb,hlt,Tryz.results37,h1,SB,U8]
 | some l =>
  simp only[bc,txt_some] at hb hl ⊢
  simp (maxSteps:=4000000) (disch:=omega) [dT,dF,qj,-getElem?_pos,List.getElem?_cons_zero,List.getElem?_cons_succ,List.getElem?_set,qfg,copyCheckT,hb,hlt,Tryz.results37,hl,SB,U8]
theorem qd8 (σ τ:List (List AV)) (o:Option (List UInt8)) (m:List UInt8) (hl:(txt o).length+m.length≤most) :
  ev 37 [.gp σ.length 0 (some (SB,2)),.str m] (σ++bc σ.length o::τ)=some (.tup [.int .i64 m.length,.nili],σ++bc σ.length (some (txt o++m))::τ):=by
 have:=qy σ.length (σ++bc σ.length o::τ) o m hl (by simp)
 rw[this];simp
theorem ql1 (l:List UInt8):bytesOf (l.map .u8)=some l:=by
 induction l with
 | nil=>rfl
 | cons x r ih=>simp only[List.map_cons,AV.u8] at ih ⊢;unfold bytesOf;simp[ih]
theorem qvc (b:Nat) (σ:List (List AV)) (o:Option (List UInt8)) (hb:σ[b]? = some (bc b o)) :
  ev 48 [.gp b 0 (some (SB,2))] σ=some (.str (txt o),σ.set b (bs b o)):=by
 show ev 48 _ _=_
 rw[qq7]
 cases o with
 | none =>
  simp only[bc,bs,txt_none] at hb ⊢
  have:σ.set b [AV.nilp,.sl .nil []]=σ:=by
   apply List.ext_getElem?;intro i;rw[List.getElem?_set]
   split
   ·rename_i e;subst e;rw[hb];simp[(List.getElem?_eq_some_iff.1 hb).1]
   ·rfl
  rw[this]
  simp[-getElem?_pos,stringT,hb]
 | some l =>
  simp only[bc,bs,txt_some] at hb ⊢
  simp[-getElem?_pos,-AV.u8,stringT,hb,ql1,bnd]
end Go.Proofs.Tryz.Ai
end
section
namespace Go.Proofs.Tryz.Ai
open Go Go.AI Go.Proofs
set_option maxHeartbeats 2000000
set_option linter.unusedVariables false
theorem HasPrefix_eq (a b:List UInt8) (σ):ev 194 [.str a,.str b] σ=some (.bool (b.isPrefixOf a),σ):=by
 rw[qkq];rfl
end Go.Proofs.Tryz.Ai
end
section
namespace Go.AI
@[simp] theorem qyl {n k:Nat}:((n:Int)≤(no_index (OfNat.ofNat k):Int))↔n≤k:=by
 show (n:Int)≤(k:Int)↔n≤k;omega
@[simp] theorem qym {n k:Nat}:((no_index (OfNat.ofNat k):Int)≤(n:Int))↔k≤n:=by
 show (k:Int)≤(n:Int)↔k≤n;omega
@[simp] theorem qyn {n k:Nat}:((n:Int)<(no_index (OfNat.ofNat k):Int))↔n<k:=by
 show (n:Int)<(k:Int)↔n<k;omega
@[simp] theorem qyo {n k:Nat}:((no_index (OfNat.ofNat k):Int)<(n:Int))↔k<n:=by
 show (k:Int)<(n:Int)↔k<n;omega
@[simp] theorem qyp {n k:Nat}:((n:Int)=(no_index (OfNat.ofNat k):Int))↔n=k:=by
 show (n:Int)=(k:Int)↔n=k;omega
@[simp] theorem qyq {n k:Nat}:((no_index (OfNat.ofNat k):Int)=(n:Int))↔k=n:=by
 show (k:Int)=(n:Int)↔k=n;omega
@[simp] theorem qte {n k:Nat}:(0≤(n:Int)+(no_index (OfNat.ofNat k):Int))↔True:=by
 show 0≤(n:Int)+(k:Int)↔True;constructor;intro _;trivial;intro _;omega
@[simp] theorem qq9 {n k:Nat}:(0≤(n:Int)+(k:Int))↔True:=by constructor;intro _;trivial;intro _;omega
@[simp] theorem qyr {n k:Nat}:((n:Int)+(no_index (OfNat.ofNat k):Int)<0)↔False:=by
 show (n:Int)+(k:Int)<0↔False;constructor;intro _;omega;intro h;cases h
@[simp] theorem qww {n k:Nat}:((n:Int)+(k:Int)<0)↔False:=by constructor;intro _;omega;intro h;cases h
@[simp] theorem toNat_add_lit {n k:Nat}:((n:Int)+(no_index (OfNat.ofNat k):Int)).toNat=n+k:=by
 show ((n:Int)+(k:Int)).toNat=n+k;omega
@[simp] theorem toNat_add_cast {n k:Nat}:((n:Int)+(k:Int)).toNat=n+k:=by omega
@[simp] theorem q11 {n k:Nat}:((n:Int)=(k:Int))↔n=k:=by omega
@[simp] theorem cast_lt' {n k:Nat}:((n:Int)<(k:Int))↔n<k:=by omega
@[simp] theorem cast_le' {n k:Nat}:((n:Int)≤(k:Int))↔n≤k:=by omega
@[simp] theorem u8_inj {n k:UInt8}:n.toNat=k.toNat↔n=k:=UInt8.toNat_inj
@[simp] theorem u8_lit {a:UInt8} {k:Nat} (h:k<256):a.toNat=(no_index (OfNat.ofNat k))↔a=UInt8.ofNat k:=by
 show a.toNat=k↔_
 constructor
 ·intro e;apply UInt8.toNat_inj.1;rw[e];simp;omega
 ·intro e;rw[e];simp;omega
@[simp] theorem u8_beq {a b:UInt8}:(a==b)=decide (a=b):=by
 by_cases h:a=b<;>simp[h]
end Go.AI
end
