/- Part 6 of a proof: a Go function is evaluated on abstract values (texts Facts .. MNum); no conditions beyond those of each theorem. -/
import Derived.Test.YtjkkcelnfokplaaGreatDoorAi5
import Derived.Test.YtjkkcelnfokplaaGreatDoorProg
import Derived.KernelRfl
set_option linter.all false
set_option linter.unusedVariables false
set_option linter.unusedSimpArgs false
set_option linter.unnecessarySimpa false
section
namespace Go.Proofs.Tryz.Ai
open Go Go.AI Go.Proofs
attribute [simp] List.getElem?_cons_zero List.getElem?_cons_succ
def hk (vars conds steal:List Nat) (live:List (Nat×List Nat)) (roots:List (Nat×Nat):=[]) (glob sw msd:List Nat:=[]) (alt:List (Nat×Nat):=[]) (fz:Nat:=0) (gc wk rt:Bool:=false) (inv:List (Nat×FuncId):=[]) (mv:List (Nat×Nat):=[]) (ad:List Nat:=[]):Hint:={rets:=true,vars:=vars,conds:=conds,steal:=steal,live:=live,roots:=roots,glob:=glob,sw:=sw,msd:=msd,alt:=alt,fz:=fz,gc:=gc,wk:=wk,rt:=rt,inv:=inv,mv:=mv,ad:=ad}
abbrev HF (h:Hint) (vars conds steal:List Nat) (live:List (Nat×List Nat)) (roots:List (Nat×Nat):=[]) (glob sw msd:List Nat:=[]) (alt:List (Nat×Nat):=[]) (fz:Nat:=0) (gc wk rt:Bool:=false) (inv:List (Nat×FuncId):=[]) (mv:List (Nat×Nat):=[]) (ad:List Nat:=[]):Prop:=h.rets=true∧h.vars=vars∧h.conds=conds∧h.steal=steal∧h.live=live∧h.roots=roots∧h.glob=glob∧h.sw=sw∧h.msd=msd∧h.alt=alt∧h.fz=fz∧h.gc=gc∧h.wk=wk∧h.rt=rt∧h.inv=inv∧h.mv=mv∧h.ad=ad
abbrev TF (t:TypeId) (n b:Nat) (g:Bool) (e:Option TypeId):Prop:=sizeA Tryz.prog t=some n∧bytesA Tryz.prog t=some b∧isAggA Tryz.prog t=some g∧elemA Tryz.prog t=e
@[simp] theorem t1f:TF 1 1 8 false none:=by and_intros<;>kernel_rfl
@[simp] theorem zero1:zeroA Tryz.prog 1=some .nilf:=by kernel_rfl
@[simp] theorem t3f:TF 3 1 8 false none:=by and_intros<;>kernel_rfl
@[simp] theorem zero3:zeroA Tryz.prog 3=some (.int .i64 0):=by kernel_rfl
@[simp] theorem und3:Tryz.prog.underlying 3=some (.int .i64):=by kernel_rfl
@[simp] theorem t4f:TF 4 1 1 false none:=by and_intros<;>kernel_rfl
@[simp] theorem zero4:zeroA Tryz.prog 4=some (.bool false):=by kernel_rfl
@[simp] theorem und4:Tryz.prog.underlying 4=some .bool:=by kernel_rfl
@[simp] theorem t5f:TF 5 1 1 false none:=by and_intros<;>kernel_rfl
@[simp] theorem zero5:zeroA Tryz.prog 5=some (.int .u8 0):=by kernel_rfl
@[simp] theorem und5:Tryz.prog.underlying 5=some (.int .u8):=by kernel_rfl
@[simp] theorem t9f:TF 9 1 16 false none:=by and_intros<;>kernel_rfl
@[simp] theorem zero9:zeroA Tryz.prog 9=some (.str []):=by kernel_rfl
@[simp] theorem und9:Tryz.prog.underlying 9=some .string:=by kernel_rfl
@[simp] theorem t20f:TF 20 1 16 false none:=by and_intros<;>kernel_rfl
@[simp] theorem zero20:zeroA Tryz.prog 20=some .nili:=by kernel_rfl
@[simp] theorem t23f:TF 23 1 24 false (some 41):=by and_intros<;>kernel_rfl
@[simp] theorem zero23:zeroA Tryz.prog 23=some (.sl .nil []):=by kernel_rfl
@[simp] theorem und23:Tryz.prog.underlying 23=some (.slice 41):=by kernel_rfl
@[simp] theorem t24f:TF 24 1 24 false (some 52):=by and_intros<;>kernel_rfl
@[simp] theorem zero24:zeroA Tryz.prog 24=some (.sl .nil []):=by kernel_rfl
@[simp] theorem und24:Tryz.prog.underlying 24=some (.slice 52):=by kernel_rfl
@[simp] theorem t25f:TF 25 1 24 false (some 54):=by and_intros<;>kernel_rfl
@[simp] theorem zero25:zeroA Tryz.prog 25=some (.sl .nil []):=by kernel_rfl
@[simp] theorem und25:Tryz.prog.underlying 25=some (.slice 54):=by kernel_rfl
@[simp] theorem t26f:TF 26 1 24 false (some 50):=by and_intros<;>kernel_rfl
@[simp] theorem zero26:zeroA Tryz.prog 26=some (.sl .nil []):=by kernel_rfl
@[simp] theorem und26:Tryz.prog.underlying 26=some (.slice 50):=by kernel_rfl
@[simp] theorem t28f:TF 28 6 128 true none:=by and_intros<;>kernel_rfl
@[simp] theorem zero28:zeroA Tryz.prog 28=some (.agg [(.str []),(.str []),(.sl .nil []),(.sl .nil []),(.sl .nil []),(.sl .nil [])]):=by kernel_rfl
@[simp] theorem bpl28:buildPl Tryz.prog 28=some (fun i=>[(0,1),(1,1),(2,1),(3,1),(4,1),(5,1)][i]?):=by kernel_rfl
@[simp] theorem t29f:TF 29 1 8 false none:=by and_intros<;>kernel_rfl
@[simp] theorem zero29:zeroA Tryz.prog 29=some (.int .i64 0):=by kernel_rfl
@[simp] theorem und29:Tryz.prog.underlying 29=some (.int .i64):=by kernel_rfl
@[simp] theorem t32f:TF 32 1 24 false (some 94):=by and_intros<;>kernel_rfl
@[simp] theorem zero32:zeroA Tryz.prog 32=some (.sl .nil []):=by kernel_rfl
@[simp] theorem und32:Tryz.prog.underlying 32=some (.slice 94):=by kernel_rfl
@[simp] theorem t33f:TF 33 1 24 false (some 95):=by and_intros<;>kernel_rfl
@[simp] theorem zero33:zeroA Tryz.prog 33=some (.sl .nil []):=by kernel_rfl
@[simp] theorem und33:Tryz.prog.underlying 33=some (.slice 95):=by kernel_rfl
@[simp] theorem t34f:TF 34 1 24 false (some 96):=by and_intros<;>kernel_rfl
@[simp] theorem zero34:zeroA Tryz.prog 34=some (.sl .nil []):=by kernel_rfl
@[simp] theorem und34:Tryz.prog.underlying 34=some (.slice 96):=by kernel_rfl
@[simp] theorem t36f:TF 36 6 128 true none:=by and_intros<;>kernel_rfl
@[simp] theorem zero36:zeroA Tryz.prog 36=some (.agg [(.str []),(.str []),(.sl .nil []),(.sl .nil []),(.sl .nil []),(.sl .nil [])]):=by kernel_rfl
@[simp] theorem bpl36:buildPl Tryz.prog 36=some (fun i=>[(0,1),(1,1),(2,1),(3,1),(4,1),(5,1)][i]?):=by kernel_rfl
@[simp] theorem t41f:TF 41 3 40 true none:=by and_intros<;>kernel_rfl
@[simp] theorem zero41:zeroA Tryz.prog 41=some (.agg [(.str []),(.str []),(.bool false)]):=by kernel_rfl
@[simp] theorem bpl41:buildPl Tryz.prog 41=some (fun i=>[(0,1),(1,1),(2,1)][i]?):=by kernel_rfl
@[simp] theorem t50f:TF 50 2 32 true none:=by and_intros<;>kernel_rfl
@[simp] theorem zero50:zeroA Tryz.prog 50=some (.agg [(.str []),(.str [])]):=by kernel_rfl
@[simp] theorem bpl50:buildPl Tryz.prog 50=some (fun i=>[(0,1),(1,1)][i]?):=by kernel_rfl
@[simp] theorem t52f:TF 52 2 32 true none:=by and_intros<;>kernel_rfl
@[simp] theorem zero52:zeroA Tryz.prog 52=some (.agg [(.str []),(.str [])]):=by kernel_rfl
@[simp] theorem bpl52:buildPl Tryz.prog 52=some (fun i=>[(0,1),(1,1)][i]?):=by kernel_rfl
@[simp] theorem t54f:TF 54 4 64 true none:=by and_intros<;>kernel_rfl
@[simp] theorem zero54:zeroA Tryz.prog 54=some (.agg [(.str []),(.str []),(.str []),(.str [])]):=by kernel_rfl
@[simp] theorem bpl54:buildPl Tryz.prog 54=some (fun i=>[(0,2),(2,2)][i]?):=by kernel_rfl
@[simp] theorem t81f:TF 81 2 16 true none:=by and_intros<;>kernel_rfl
@[simp] theorem zero81:zeroA Tryz.prog 81=some (.agg [(.int .i64 0),(.int .i64 0)]):=by kernel_rfl
@[simp] theorem bpl81:buildPl Tryz.prog 81=some (fun i=>[(0,1),(1,1)][i]?):=by kernel_rfl
@[simp] theorem t82f:TF 82 1 8 false none:=by and_intros<;>kernel_rfl
@[simp] theorem zero82:zeroA Tryz.prog 82=some .nilp:=by kernel_rfl
@[simp] theorem t84f:TF 84 10 160 true none:=by and_intros<;>kernel_rfl
@[simp] theorem zero84:zeroA Tryz.prog 84=some (.agg [(.str []),(.str []),(.sl .nil []),(.sl .nil []),(.sl .nil []),(.sl .nil []),(.int .i64 0),(.str []),(.bool false),(.bool false)]):=by kernel_rfl
@[simp] theorem bpl84:buildPl Tryz.prog 84=some (fun i=>[(0,6),(6,1),(7,1),(8,1),(9,1)][i]?):=by kernel_rfl
@[simp] theorem t88f:TF 88 1 24 false (some 9):=by and_intros<;>kernel_rfl
@[simp] theorem zero88:zeroA Tryz.prog 88=some (.sl .nil []):=by kernel_rfl
@[simp] theorem und88:Tryz.prog.underlying 88=some (.slice 9):=by kernel_rfl
@[simp] theorem t94f:TF 94 3 40 true none:=by and_intros<;>kernel_rfl
@[simp] theorem zero94:zeroA Tryz.prog 94=some (.agg [(.str []),(.str []),(.bool false)]):=by kernel_rfl
@[simp] theorem bpl94:buildPl Tryz.prog 94=some (fun i=>[(0,1),(1,1),(2,1)][i]?):=by kernel_rfl
@[simp] theorem t95f:TF 95 4 64 true none:=by and_intros<;>kernel_rfl
@[simp] theorem zero95:zeroA Tryz.prog 95=some (.agg [(.str []),(.str []),(.str []),(.str [])]):=by kernel_rfl
@[simp] theorem bpl95:buildPl Tryz.prog 95=some (fun i=>[(0,2),(2,2)][i]?):=by kernel_rfl
@[simp] theorem t96f:TF 96 2 32 true none:=by and_intros<;>kernel_rfl
@[simp] theorem zero96:zeroA Tryz.prog 96=some (.agg [(.str []),(.str [])]):=by kernel_rfl
@[simp] theorem bpl96:buildPl Tryz.prog 96=some (fun i=>[(0,1),(1,1)][i]?):=by kernel_rfl
@[simp] theorem t98f:TF 98 1 8 false none:=by and_intros<;>kernel_rfl
@[simp] theorem zero98:zeroA Tryz.prog 98=some .nilp:=by kernel_rfl
@[simp] theorem t99f:TF 99 1 24 false (some 5):=by and_intros<;>kernel_rfl
@[simp] theorem zero99:zeroA Tryz.prog 99=some (.sl .nil []):=by kernel_rfl
@[simp] theorem und99:Tryz.prog.underlying 99=some (.slice 5):=by kernel_rfl
@[simp] theorem t101f:TF 101 2 32 true none:=by and_intros<;>kernel_rfl
@[simp] theorem zero101:zeroA Tryz.prog 101=some (.agg [.nilp,(.sl .nil [])]):=by kernel_rfl
@[simp] theorem bpl101:buildPl Tryz.prog 101=some (fun i=>[(0,1),(1,1)][i]?):=by kernel_rfl
@[simp] theorem t103f:TF 103 1 16 false none:=by and_intros<;>kernel_rfl
@[simp] theorem zero103:zeroA Tryz.prog 103=some .nili:=by kernel_rfl
@[simp] theorem t107f:TF 107 1 8 false none:=by and_intros<;>kernel_rfl
@[simp] theorem zero107:zeroA Tryz.prog 107=some .nilf:=by kernel_rfl
@[simp] theorem t109f:TF 109 1 8 false none:=by and_intros<;>kernel_rfl
@[simp] theorem zero109:zeroA Tryz.prog 109=some .nilf:=by kernel_rfl
@[simp] theorem t112f:TF 112 1 8 false none:=by and_intros<;>kernel_rfl
@[simp] theorem zero112:zeroA Tryz.prog 112=some .nilf:=by kernel_rfl
@[simp] theorem t114f:TF 114 1 8 false none:=by and_intros<;>kernel_rfl
@[simp] theorem zero114:zeroA Tryz.prog 114=some .nilf:=by kernel_rfl
@[simp] theorem t122f:TF 122 1 8 false none:=by and_intros<;>kernel_rfl
@[simp] theorem zero122:zeroA Tryz.prog 122=some .nilf:=by kernel_rfl
@[simp] theorem t123f:TF 123 1 8 false none:=by and_intros<;>kernel_rfl
@[simp] theorem zero123:zeroA Tryz.prog 123=some .nilf:=by kernel_rfl
@[simp] theorem t126f:TF 126 1 8 false none:=by and_intros<;>kernel_rfl
@[simp] theorem zero126:zeroA Tryz.prog 126=some .nilf:=by kernel_rfl
@[simp] theorem t128f:TF 128 1 8 false none:=by and_intros<;>kernel_rfl
@[simp] theorem zero128:zeroA Tryz.prog 128=some .nilf:=by kernel_rfl
@[simp] theorem t133f:TF 133 1 8 false none:=by and_intros<;>kernel_rfl
@[simp] theorem zero133:zeroA Tryz.prog 133=some .nilf:=by kernel_rfl
@[simp] theorem t141f:TF 141 1 8 false none:=by and_intros<;>kernel_rfl
@[simp] theorem zero141:zeroA Tryz.prog 141=some .nilf:=by kernel_rfl
@[simp] theorem t143f:TF 143 1 8 false none:=by and_intros<;>kernel_rfl
@[simp] theorem zero143:zeroA Tryz.prog 143=some .nilf:=by kernel_rfl
@[simp] theorem t145f:TF 145 1 8 false none:=by and_intros<;>kernel_rfl
@[simp] theorem zero145:zeroA Tryz.prog 145=some .nilf:=by kernel_rfl
@[simp] theorem t146f:TF 146 1 8 false none:=by and_intros<;>kernel_rfl
@[simp] theorem zero146:zeroA Tryz.prog 146=some .nilf:=by kernel_rfl
@[simp] theorem t148f:TF 148 1 8 false none:=by and_intros<;>kernel_rfl
@[simp] theorem zero148:zeroA Tryz.prog 148=some .nilf:=by kernel_rfl
@[simp] theorem t149f:TF 149 1 8 false none:=by and_intros<;>kernel_rfl
@[simp] theorem zero149:zeroA Tryz.prog 149=some .nilf:=by kernel_rfl
@[simp] theorem t156f:TF 156 1 8 false none:=by and_intros<;>kernel_rfl
@[simp] theorem zero156:zeroA Tryz.prog 156=some .nilf:=by kernel_rfl
@[simp] theorem t179f:TF 179 1 24 false (some 187):=by and_intros<;>kernel_rfl
@[simp] theorem zero179:zeroA Tryz.prog 179=some (.sl .nil []):=by kernel_rfl
@[simp] theorem und179:Tryz.prog.underlying 179=some (.slice 187):=by kernel_rfl
@[simp] theorem t183f:TF 183 1 8 false none:=by and_intros<;>kernel_rfl
@[simp] theorem zero183:zeroA Tryz.prog 183=some .nilf:=by kernel_rfl
@[simp] theorem t184f:TF 184 1 8 false none:=by and_intros<;>kernel_rfl
@[simp] theorem t187f:TF 187 2 24 true none:=by and_intros<;>kernel_rfl
@[simp] theorem zero187:zeroA Tryz.prog 187=some (.agg [(.int .u8 0),(.str [])]):=by kernel_rfl
@[simp] theorem bpl187:buildPl Tryz.prog 187=some (fun i=>[(0,1),(1,1)][i]?):=by kernel_rfl
@[simp] theorem t188f:TF 188 1 8 false none:=by and_intros<;>kernel_rfl
@[simp] theorem zero188:zeroA Tryz.prog 188=some .nilf:=by kernel_rfl
@[simp] theorem t193f:TF 193 1 8 false none:=by and_intros<;>kernel_rfl
@[simp] theorem zero193:zeroA Tryz.prog 193=some .nilf:=by kernel_rfl
@[simp] theorem t196f:TF 196 1 24 false (some 3):=by and_intros<;>kernel_rfl
@[simp] theorem zero196:zeroA Tryz.prog 196=some (.sl .nil []):=by kernel_rfl
@[simp] theorem und196:Tryz.prog.underlying 196=some (.slice 3):=by kernel_rfl
@[simp] theorem t198f:TF 198 4 40 true none:=by and_intros<;>kernel_rfl
@[simp] theorem zero198:zeroA Tryz.prog 198=some (.agg [(.int .i64 0),(.int .i64 0),(.int .i64 0),(.str [])]):=by kernel_rfl
@[simp] theorem bpl198:buildPl Tryz.prog 198=some (fun i=>[(0,1),(1,1),(2,1),(3,1)][i]?):=by kernel_rfl
@[simp] theorem t205f:TF 205 1 24 false (some 29):=by and_intros<;>kernel_rfl
@[simp] theorem zero205:zeroA Tryz.prog 205=some (.sl .nil []):=by kernel_rfl
@[simp] theorem und205:Tryz.prog.underlying 205=some (.slice 29):=by kernel_rfl
@[simp] theorem t211f:TF 211 1 8 false none:=by and_intros<;>kernel_rfl
@[simp] theorem zero211:zeroA Tryz.prog 211=some .nilf:=by kernel_rfl
@[simp] theorem t214f:TF 214 1 8 false none:=by and_intros<;>kernel_rfl
@[simp] theorem zero214:zeroA Tryz.prog 214=some .nilf:=by kernel_rfl
@[simp] theorem t260f:TF 260 1 8 false none:=by and_intros<;>kernel_rfl
@[simp] theorem zero260:zeroA Tryz.prog 260=some (.int .u64 0):=by kernel_rfl
@[simp] theorem und260:Tryz.prog.underlying 260=some (.int .u64):=by kernel_rfl
@[simp] theorem field28x0:fieldA Tryz.prog 28 0=some (0,9):=by kernel_rfl
@[simp] theorem field28x1:fieldA Tryz.prog 28 1=some (1,9):=by kernel_rfl
@[simp] theorem field28x2:fieldA Tryz.prog 28 2=some (2,23):=by kernel_rfl
@[simp] theorem field28x3:fieldA Tryz.prog 28 3=some (3,24):=by kernel_rfl
@[simp] theorem field28x4:fieldA Tryz.prog 28 4=some (4,25):=by kernel_rfl
@[simp] theorem field28x5:fieldA Tryz.prog 28 5=some (5,26):=by kernel_rfl
@[simp] theorem field36x0:fieldA Tryz.prog 36 0=some (0,9):=by kernel_rfl
@[simp] theorem field36x1:fieldA Tryz.prog 36 1=some (1,9):=by kernel_rfl
@[simp] theorem field36x2:fieldA Tryz.prog 36 2=some (2,32):=by kernel_rfl
@[simp] theorem field36x3:fieldA Tryz.prog 36 3=some (3,24):=by kernel_rfl
@[simp] theorem field36x4:fieldA Tryz.prog 36 4=some (4,33):=by kernel_rfl
@[simp] theorem field36x5:fieldA Tryz.prog 36 5=some (5,34):=by kernel_rfl
@[simp] theorem field41x0:fieldA Tryz.prog 41 0=some (0,9):=by kernel_rfl
@[simp] theorem field41x1:fieldA Tryz.prog 41 1=some (1,9):=by kernel_rfl
@[simp] theorem field41x2:fieldA Tryz.prog 41 2=some (2,4):=by kernel_rfl
@[simp] theorem field50x0:fieldA Tryz.prog 50 0=some (0,9):=by kernel_rfl
@[simp] theorem field50x1:fieldA Tryz.prog 50 1=some (1,9):=by kernel_rfl
@[simp] theorem field52x0:fieldA Tryz.prog 52 0=some (0,9):=by kernel_rfl
@[simp] theorem field52x1:fieldA Tryz.prog 52 1=some (1,9):=by kernel_rfl
@[simp] theorem field54x0:fieldA Tryz.prog 54 0=some (0,52):=by kernel_rfl
@[simp] theorem field54x1:fieldA Tryz.prog 54 1=some (2,52):=by kernel_rfl
@[simp] theorem field81x0:fieldA Tryz.prog 81 0=some (0,3):=by kernel_rfl
@[simp] theorem field81x1:fieldA Tryz.prog 81 1=some (1,29):=by kernel_rfl
@[simp] theorem field84x0:fieldA Tryz.prog 84 0=some (0,28):=by kernel_rfl
@[simp] theorem field84x1:fieldA Tryz.prog 84 1=some (6,3):=by kernel_rfl
@[simp] theorem field84x2:fieldA Tryz.prog 84 2=some (7,9):=by kernel_rfl
@[simp] theorem field84x3:fieldA Tryz.prog 84 3=some (8,4):=by kernel_rfl
@[simp] theorem field84x4:fieldA Tryz.prog 84 4=some (9,4):=by kernel_rfl
@[simp] theorem field94x0:fieldA Tryz.prog 94 0=some (0,9):=by kernel_rfl
@[simp] theorem field94x1:fieldA Tryz.prog 94 1=some (1,9):=by kernel_rfl
@[simp] theorem field94x2:fieldA Tryz.prog 94 2=some (2,4):=by kernel_rfl
@[simp] theorem field95x0:fieldA Tryz.prog 95 0=some (0,52):=by kernel_rfl
@[simp] theorem field95x1:fieldA Tryz.prog 95 1=some (2,52):=by kernel_rfl
@[simp] theorem field96x0:fieldA Tryz.prog 96 0=some (0,9):=by kernel_rfl
@[simp] theorem field96x1:fieldA Tryz.prog 96 1=some (1,9):=by kernel_rfl
@[simp] theorem field101x1:fieldA Tryz.prog 101 1=some (1,99):=by kernel_rfl
@[simp] theorem field187x0:fieldA Tryz.prog 187 0=some (0,5):=by kernel_rfl
@[simp] theorem field187x1:fieldA Tryz.prog 187 1=some (1,9):=by kernel_rfl
@[simp] theorem field198x0:fieldA Tryz.prog 198 0=some (0,3):=by kernel_rfl
@[simp] theorem field198x1:fieldA Tryz.prog 198 1=some (1,3):=by kernel_rfl
@[simp] theorem field198x2:fieldA Tryz.prog 198 2=some (2,3):=by kernel_rfl
@[simp] theorem field198x3:fieldA Tryz.prog 198 3=some (3,9):=by kernel_rfl
@[simp] theorem func1:isFuncT Tryz.prog 1=true:=by kernel_rfl
@[simp] theorem iface20:isIface Tryz.prog 20=true:=by kernel_rfl
@[simp] theorem iface103:isIface Tryz.prog 103=true:=by kernel_rfl
@[simp] theorem func107:isFuncT Tryz.prog 107=true:=by kernel_rfl
@[simp] theorem func109:isFuncT Tryz.prog 109=true:=by kernel_rfl
@[simp] theorem func112:isFuncT Tryz.prog 112=true:=by kernel_rfl
@[simp] theorem func114:isFuncT Tryz.prog 114=true:=by kernel_rfl
@[simp] theorem func122:isFuncT Tryz.prog 122=true:=by kernel_rfl
@[simp] theorem func123:isFuncT Tryz.prog 123=true:=by kernel_rfl
@[simp] theorem func126:isFuncT Tryz.prog 126=true:=by kernel_rfl
@[simp] theorem func128:isFuncT Tryz.prog 128=true:=by kernel_rfl
@[simp] theorem func133:isFuncT Tryz.prog 133=true:=by kernel_rfl
@[simp] theorem func141:isFuncT Tryz.prog 141=true:=by kernel_rfl
@[simp] theorem func143:isFuncT Tryz.prog 143=true:=by kernel_rfl
@[simp] theorem func145:isFuncT Tryz.prog 145=true:=by kernel_rfl
@[simp] theorem func146:isFuncT Tryz.prog 146=true:=by kernel_rfl
@[simp] theorem func148:isFuncT Tryz.prog 148=true:=by kernel_rfl
@[simp] theorem func149:isFuncT Tryz.prog 149=true:=by kernel_rfl
@[simp] theorem func156:isFuncT Tryz.prog 156=true:=by kernel_rfl
@[simp] theorem func183:isFuncT Tryz.prog 183=true:=by kernel_rfl
@[simp] theorem func188:isFuncT Tryz.prog 188=true:=by kernel_rfl
@[simp] theorem func193:isFuncT Tryz.prog 193=true:=by kernel_rfl
@[simp] theorem func211:isFuncT Tryz.prog 211=true:=by kernel_rfl
@[simp] theorem func214:isFuncT Tryz.prog 214=true:=by kernel_rfl
@[simp] theorem eqs50:eqShape Tryz.prog 50=some [.str,.str]:=by kernel_rfl
@[simp] theorem eqs52:eqShape Tryz.prog 52=some [.str,.str]:=by kernel_rfl
def h4:Hint:=hk [0,1,2,3,4,5,6,7,8,9,10,11,12,13,14,15,16,17,18] [42,51,78,92,119,146,169,178] [22,26,29,30,33,34,38,39,43,52,79,93,99,100,120,147,170,172,173,179,185,191,192,196,197,199,200,204] [(9,[7,8,9]),(13,[7,8,10]),(21,[7,8,13]),(25,[7,8,14])] (roots:=[(55,7),(63,7),(124,7),(131,7),(149,7),(157,7)])
@[simp] theorem h4f:HF h4 [0,1,2,3,4,5,6,7,8,9,10,11,12,13,14,15,16,17,18] [42,51,78,92,119,146,169,178] [22,26,29,30,33,34,38,39,43,52,79,93,99,100,120,147,170,172,173,179,185,191,192,196,197,199,200,204] [(9,[7,8,9]),(13,[7,8,10]),(21,[7,8,13]),(25,[7,8,14])] (roots:=[(55,7),(63,7),(124,7),(131,7),(149,7),(157,7)]):=by and_intros<;>rfl
def h6:Hint:=hk [0,1,2,3,4,5,6,7,8,10,11,12,13,14,15,16,17,18,19,20,21,22,23,24] [63,80,88,99,142,147,167] [30,31,34,52,58,64,65,71,72,77,78,89,100,102,108,109,115,148,153,154,159,163,168,169,171,176,177,180] [(11,[3,4,5,10,11,13,14])] (roots:=[(3,3),(17,17),(91,11),(97,4),(120,4)]) (sw:=[138,139])
@[simp] theorem h6f:HF h6 [0,1,2,3,4,5,6,7,8,10,11,12,13,14,15,16,17,18,19,20,21,22,23,24] [63,80,88,99,142,147,167] [30,31,34,52,58,64,65,71,72,77,78,89,100,102,108,109,115,148,153,154,159,163,168,169,171,176,177,180] [(11,[3,4,5,10,11,13,14])] (roots:=[(3,3),(17,17),(91,11),(97,4),(120,4)]) (sw:=[138,139]):=by and_intros<;>rfl
def h8:Hint:=hk [0,1,2,3,4,5,7,8] [] [9,13,14,18,19,23,24,26,27,31,32,36,37,40,41,44,45] []
@[simp] theorem h8f:HF h8 [0,1,2,3,4,5,7,8] [] [9,13,14,18,19,23,24,26,27,31,32,36,37,40,41,44,45] []:=by and_intros<;>rfl
def h9:Hint:=hk [0,2,3,4,5,6,7,8] [12,19] [17,20,21,25,27,29,32] [(6,[2,3,4,5,6])] (glob:=[2,3,4,16]) (gc:=true)
@[simp] theorem h9f:HF h9 [0,2,3,4,5,6,7,8] [12,19] [17,20,21,25,27,29,32] [(6,[2,3,4,5,6])] (glob:=[2,3,4,16]) (gc:=true):=by and_intros<;>rfl
def h11:Hint:=hk [0,1,2,3,4,5,6,7] [46,51,96,101,131,136,166] [13,20,29,38,52,102,137] [(4,[2,3,5]),(9,[2,3,6]),(14,[2,3,7])] (roots:=[(54,2),(60,3),(68,2),(74,3),(83,2),(89,3),(104,2),(110,3),(118,2),(124,3),(139,2),(145,3),(153,2),(159,3)])
@[simp] theorem h11f:HF h11 [0,1,2,3,4,5,6,7] [46,51,96,101,131,136,166] [13,20,29,38,52,102,137] [(4,[2,3,5]),(9,[2,3,6]),(14,[2,3,7])] (roots:=[(54,2),(60,3),(68,2),(74,3),(83,2),(89,3),(104,2),(110,3),(118,2),(124,3),(139,2),(145,3),(153,2),(159,3)]):=by and_intros<;>rfl
def h12:Hint:=hk [0,2] [] [3] []
@[simp] theorem h12f:HF h12 [0,2] [] [3] []:=by and_intros<;>rfl
def h13:Hint:=hk [0,1,2,3,4,5,6,7,8] [39,44,71,98,136] [22,28,34,45,72,99,106,137,159] [(5,[1,3,4]),(9,[1,3,5]),(13,[1,3,6]),(18,[1,3,8])] (roots:=[(48,1),(57,1),(75,1),(84,1),(140,1),(149,1)])
@[simp] theorem h13f:HF h13 [0,1,2,3,4,5,6,7,8] [39,44,71,98,136] [22,28,34,45,72,99,106,137,159] [(5,[1,3,4]),(9,[1,3,5]),(13,[1,3,6]),(18,[1,3,8])] (roots:=[(48,1),(57,1),(75,1),(84,1),(140,1),(149,1)]):=by and_intros<;>rfl
def h14:Hint:=hk [0,1,2,3,4,5] [9,20,39] [10] [] (glob:=[5]) (gc:=true)
@[simp] theorem h14f:HF h14 [0,1,2,3,4,5] [9,20,39] [10] [] (glob:=[5]) (gc:=true):=by and_intros<;>rfl
def h15:Hint:=hk [0,1,2] [] [] [] (roots:=[(3,1),(6,1),(9,1),(12,1),(15,1),(16,1),(17,1),(18,1)]) (sw:=[5,11,14]) (alt:=[(5,1),(11,1),(14,1)]) (fz:=1) (gc:=true)
@[simp] theorem h15f:HF h15 [0,1,2] [] [] [] (roots:=[(3,1),(6,1),(9,1),(12,1),(15,1),(16,1),(17,1),(18,1)]) (sw:=[5,11,14]) (alt:=[(5,1),(11,1),(14,1)]) (fz:=1) (gc:=true):=by and_intros<;>rfl
def h16:Hint:=hk [0,2,3,4] [8,14] [9,15,17,24] [(3,[0,3,4])]
@[simp] theorem h16f:HF h16 [0,2,3,4] [8,14] [9,15,17,24] [(3,[0,3,4])]:=by and_intros<;>rfl
def h17:Hint:=hk [0,1,2,3,4] [] [] [] (roots:=[(2,2),(3,3)]) (sw:=[7,8])
@[simp] theorem h17f:HF h17 [0,1,2,3,4] [] [] [] (roots:=[(2,2),(3,3)]) (sw:=[7,8]):=by and_intros<;>rfl
def h18:Hint:=hk [0,1,2,3,4,5,6] [20,51,76] [21,52,77] [(3,[1,2,3,4]),(7,[1,2,3,5]),(11,[1,2,3,6])] (roots:=[(7,1),(9,1),(12,1),(25,1),(31,1),(37,1),(56,1),(62,1),(81,1),(87,1)]) (glob:=[3]) (sw:=[3,24,46,55,71,80,96]) (msd:=[24,55,80]) (gc:=true)
@[simp] theorem h18f:HF h18 [0,1,2,3,4,5,6] [20,51,76] [21,52,77] [(3,[1,2,3,4]),(7,[1,2,3,5]),(11,[1,2,3,6])] (roots:=[(7,1),(9,1),(12,1),(25,1),(31,1),(37,1),(56,1),(62,1),(81,1),(87,1)]) (glob:=[3]) (sw:=[3,24,46,55,71,80,96]) (msd:=[24,55,80]) (gc:=true):=by and_intros<;>rfl
def h21:Hint:=hk [0,1,2,4,5,6] [13] [16] [] (roots:=[(7,2)]) (sw:=[10,11]) (gc:=true)
@[simp] theorem h21f:HF h21 [0,1,2,4,5,6] [13] [16] [] (roots:=[(7,2)]) (sw:=[10,11]) (gc:=true):=by and_intros<;>rfl
def h23:Hint:=hk [0,1,2,4,5,6,7,8,9,10,50,51,52] [47,53,80] [11,16,48,75,81] [(7,[1,50,51,52])] (roots:=[(30,1),(33,1),(57,1),(61,8),(66,8),(68,1),(83,1),(86,1),(89,1)]) (sw:=[63,64]) (gc:=true)
@[simp] theorem h23f:HF h23 [0,1,2,4,5,6,7,8,9,10,50,51,52] [47,53,80] [11,16,48,75,81] [(7,[1,50,51,52])] (roots:=[(30,1),(33,1),(57,1),(61,8),(66,8),(68,1),(83,1),(86,1),(89,1)]) (sw:=[63,64]) (gc:=true):=by and_intros<;>rfl
def h29:Hint:=hk [0,1,2,3,4,5,6,7] [] [18] [] (roots:=[(2,2),(3,3),(4,4),(9,2),(12,3),(24,3),(26,2)]) (sw:=[14,15]) (gc:=true)
@[simp] theorem h29f:HF h29 [0,1,2,3,4,5,6,7] [] [18] [] (roots:=[(2,2),(3,3),(4,4),(9,2),(12,3),(24,3),(26,2)]) (sw:=[14,15]) (gc:=true):=by and_intros<;>rfl
def h30:Hint:=hk [0,1,2,4,5,6,7] [] [16,20] [] (roots:=[(9,2)]) (sw:=[12,13]) (gc:=true)
@[simp] theorem h30f:HF h30 [0,1,2,4,5,6,7] [] [16,20] [] (roots:=[(9,2)]) (sw:=[12,13]) (gc:=true):=by and_intros<;>rfl
def h32:Hint:=hk [0,1,2,4,5,6,11] [8,10] [7,11] [] (roots:=[(13,4),(15,4)]) (sw:=[0,1,2])
@[simp] theorem h32f:HF h32 [0,1,2,4,5,6,11] [8,10] [7,11] [] (roots:=[(13,4),(15,4)]) (sw:=[0,1,2]):=by and_intros<;>rfl
def h34:Hint:=hk [0,1,4,6,8,9,11] [42,47,53,98] [25,26,30,32,38,48,52,53,54,78,83,84,85,92,99,100,106,107] [] (sw:=[65]) (gc:=true)
@[simp] theorem h34f:HF h34 [0,1,4,6,8,9,11] [42,47,53,98] [25,26,30,32,38,48,52,53,54,78,83,84,85,92,99,100,106,107] [] (sw:=[65]) (gc:=true):=by and_intros<;>rfl
def h35:Hint:=hk [0] [] [] [] (sw:=[39]) (gc:=true) (ad:=[39])
@[simp] theorem h35f:HF h35 [0] [] [] [] (sw:=[39]) (gc:=true) (ad:=[39]):=by and_intros<;>rfl
def h40:Hint:=hk [0,1,4,5] [10,14,25] [15] [(4,[0,1,5])]
@[simp] theorem h40f:HF h40 [0,1,4,5] [10,14,25] [15] [(4,[0,1,5])]:=by and_intros<;>rfl
def h41:Hint:=hk [0,1,4,5] [] [9,17] [] (msd:=[12])
@[simp] theorem h41f:HF h41 [0,1,4,5] [] [9,17] [] (msd:=[12]):=by and_intros<;>rfl
def h42:Hint:=hk [0,1,2,3,9,18,19,20] [12,21] [14,18,32] [(3,[0,3,18,19,20])] (gc:=true)
@[simp] theorem h42f:HF h42 [0,1,2,3,9,18,19,20] [12,21] [14,18,32] [(3,[0,3,18,19,20])] (gc:=true):=by and_intros<;>rfl
def h43:Hint:=hk [0,1,2] [4] [] []
@[simp] theorem h43f:HF h43 [0,1,2] [4] [] []:=by and_intros<;>rfl
def h44:Hint:=hk [0,1,2] [5] [] []
@[simp] theorem h44f:HF h44 [0,1,2] [5] [] []:=by and_intros<;>rfl
def h45:Hint:=hk [0,1,2] [] [] []
@[simp] theorem h45f:HF h45 [0,1,2] [] [] []:=by and_intros<;>rfl
def h46:Hint:=hk [0,1,2,3,9,18,19,20] [12,21] [14,18,32] [(3,[0,3,18,19,20])] (gc:=true)
@[simp] theorem h46f:HF h46 [0,1,2,3,9,18,19,20] [12,21] [14,18,32] [(3,[0,3,18,19,20])] (gc:=true):=by and_intros<;>rfl
def h47:Hint:=hk [0,1,2,3,9,18,19,20] [12,21] [14,18,32] [(3,[0,3,18,19,20])] (gc:=true)
@[simp] theorem h47f:HF h47 [0,1,2,3,9,18,19,20] [12,21] [14,18,32] [(3,[0,3,18,19,20])] (gc:=true):=by and_intros<;>rfl
def h48:Hint:=hk [0,1,2] [] [] [] (roots:=[(3,1),(7,1)]) (sw:=[5,9])
@[simp] theorem h48f:HF h48 [0,1,2] [] [] [] (roots:=[(3,1),(7,1)]) (sw:=[5,9]):=by and_intros<;>rfl
def h49:Hint:=hk [0,1,2,3,9,18,19,20] [12,21] [14,18,32] [(3,[0,3,18,19,20])] (gc:=true)
@[simp] theorem h49f:HF h49 [0,1,2,3,9,18,19,20] [12,21] [14,18,32] [(3,[0,3,18,19,20])] (gc:=true):=by and_intros<;>rfl
def h50:Hint:=hk [0,1,2] [7] [] []
@[simp] theorem h50f:HF h50 [0,1,2] [7] [] []:=by and_intros<;>rfl
def h51:Hint:=hk [0,2] [] [3] []
@[simp] theorem h51f:HF h51 [0,2] [] [3] []:=by and_intros<;>rfl
def h53:Hint:=hk [0,2] [] [6] []
@[simp] theorem h53f:HF h53 [0,2] [] [6] []:=by and_intros<;>rfl
def h54:Hint:=hk [0,2] [] [3] []
@[simp] theorem h54f:HF h54 [0,2] [] [3] []:=by and_intros<;>rfl
def h55:Hint:=hk [0,2] [] [6] []
@[simp] theorem h55f:HF h55 [0,2] [] [6] []:=by and_intros<;>rfl
def h56:Hint:=hk [0,2] [] [6] []
@[simp] theorem h56f:HF h56 [0,2] [] [6] []:=by and_intros<;>rfl
def h57:Hint:=hk [0,1] [] [5,7] []
@[simp] theorem h57f:HF h57 [0,1] [] [5,7] []:=by and_intros<;>rfl
def h58:Hint:=hk [0,1,2,3,4] [] [] []
@[simp] theorem h58f:HF h58 [0,1,2,3,4] [] [] []:=by and_intros<;>rfl
def h59:Hint:=hk [0,1,4] [] [5,6] []
@[simp] theorem h59f:HF h59 [0,1,4] [] [5,6] []:=by and_intros<;>rfl
def h60:Hint:=hk [0,1] [] [5,7] []
@[simp] theorem h60f:HF h60 [0,1] [] [5,7] []:=by and_intros<;>rfl
def h61:Hint:=hk [0,1,2,3,4] [] [] [] (roots:=[(6,2),(9,3),(13,2),(16,3)]) (sw:=[18])
@[simp] theorem h61f:HF h61 [0,1,2,3,4] [] [] [] (roots:=[(6,2),(9,3),(13,2),(16,3)]) (sw:=[18]):=by and_intros<;>rfl
def h62:Hint:=hk [0,2,3,5,6,7,8] [9,14] [6,15,17] [(3,[3,6,7,8])]
@[simp] theorem h62f:HF h62 [0,2,3,5,6,7,8] [9,14] [6,15,17] [(3,[3,6,7,8])]:=by and_intros<;>rfl
def h63:Hint:=hk [0,1,4,5,6,7,8] [19,29,32] [9,13,14,18,22,26,27,30,33] [] (roots:=[(35,5),(37,7),(40,5),(42,7),(45,5),(47,7),(50,5),(52,7)])
@[simp] theorem h63f:HF h63 [0,1,4,5,6,7,8] [19,29,32] [9,13,14,18,22,26,27,30,33] [] (roots:=[(35,5),(37,7),(40,5),(42,7),(45,5),(47,7),(50,5),(52,7)]):=by and_intros<;>rfl
def h64:Hint:=hk [0,1] [] [5,7] []
@[simp] theorem h64f:HF h64 [0,1] [] [5,7] []:=by and_intros<;>rfl
def h65:Hint:=hk [0,1,2,3,4] [] [] [] (roots:=[(5,2),(7,3),(10,2),(12,3)]) (sw:=[14])
@[simp] theorem h65f:HF h65 [0,1,2,3,4] [] [] [] (roots:=[(5,2),(7,3),(10,2),(12,3)]) (sw:=[14]):=by and_intros<;>rfl
def h70:Hint:=hk [0,1,4,5,7,8] [9,16] [17] [(2,[0,1,7,8])] (gc:=true)
@[simp] theorem h70f:HF h70 [0,1,4,5,7,8] [9,16] [17] [(2,[0,1,7,8])] (gc:=true):=by and_intros<;>rfl
def h71:Hint:=hk [0,1,2] [] [] [] (glob:=[1])
@[simp] theorem h71f:HF h71 [0,1,2] [] [] [] (glob:=[1]):=by and_intros<;>rfl
def h72:Hint:=hk [0,2,3,4,5,6,7] [] [8,9,12,13,17,19,20,21,24,28,32,33,35] []
@[simp] theorem h72f:HF h72 [0,2,3,4,5,6,7] [] [8,9,12,13,17,19,20,21,24,28,32,33,35] []:=by and_intros<;>rfl
def h73:Hint:=hk [0,2,4,5,6,7] [8,12] [5,13] [(2,[5,6,7])]
@[simp] theorem h73f:HF h73 [0,2,4,5,6,7] [8,12] [5,13] [(2,[5,6,7])]:=by and_intros<;>rfl
def h74:Hint:=hk [0,2,3,5,6,7,9] [12,37,62] [13,18,23,28,30,33,34,43,44,47,48,49,54,55,59,60] [] (gc:=true)
@[simp] theorem h74f:HF h74 [0,2,3,5,6,7,9] [12,37,62] [13,18,23,28,30,33,34,43,44,47,48,49,54,55,59,60] [] (gc:=true):=by and_intros<;>rfl
def h75:Hint:=hk [0,1,4] [5] [5,6] []
@[simp] theorem h75f:HF h75 [0,1,4] [5] [5,6] []:=by and_intros<;>rfl
def h76:Hint:=hk [0,1,4] [] [5,6] []
@[simp] theorem h76f:HF h76 [0,1,4] [] [5,6] []:=by and_intros<;>rfl
def h77:Hint:=hk [0,1,2,3] [8,13,19] [9] []
@[simp] theorem h77f:HF h77 [0,1,2,3] [8,13,19] [9] []:=by and_intros<;>rfl
def h78:Hint:=hk [0,1,2,6,7,8,9,10,11,12] [13,31] [32] [(2,[0,1,2,10,11,12])] (roots:=[(8,8)]) (sw:=[25]) (gc:=true)
@[simp] theorem h78f:HF h78 [0,1,2,6,7,8,9,10,11,12] [13,31] [32] [(2,[0,1,2,10,11,12])] (roots:=[(8,8)]) (sw:=[25]) (gc:=true):=by and_intros<;>rfl
def h79:Hint:=hk [0,1,2] [] [] [] (glob:=[1])
@[simp] theorem h79f:HF h79 [0,1,2] [] [] [] (glob:=[1]):=by and_intros<;>rfl
def h80:Hint:=hk [0,1,2,6,7,8,9,10,11,12] [13,31] [32] [(2,[0,1,2,10,11,12])] (roots:=[(8,8)]) (sw:=[25]) (gc:=true)
@[simp] theorem h80f:HF h80 [0,1,2,6,7,8,9,10,11,12] [13,31] [32] [(2,[0,1,2,10,11,12])] (roots:=[(8,8)]) (sw:=[25]) (gc:=true):=by and_intros<;>rfl
def h81:Hint:=hk [0,1,2,3] [11] [12,18] []
@[simp] theorem h81f:HF h81 [0,1,2,3] [11] [12,18] []:=by and_intros<;>rfl
def h82:Hint:=hk [0,1,2] [] [] []
@[simp] theorem h82f:HF h82 [0,1,2] [] [] []:=by and_intros<;>rfl
def h83:Hint:=hk [0,1,2,6,7,8,9,10,11,12] [13,31] [32] [(2,[0,1,2,10,11,12])] (roots:=[(8,8)]) (sw:=[25]) (gc:=true)
@[simp] theorem h83f:HF h83 [0,1,2,6,7,8,9,10,11,12] [13,31] [32] [(2,[0,1,2,10,11,12])] (roots:=[(8,8)]) (sw:=[25]) (gc:=true):=by and_intros<;>rfl
def h84:Hint:=hk [0,1,2] [] [] [] (roots:=[(3,1),(8,1),(14,1),(16,1)])
@[simp] theorem h84f:HF h84 [0,1,2] [] [] [] (roots:=[(3,1),(8,1),(14,1),(16,1)]):=by and_intros<;>rfl
def h85:Hint:=hk [0,1,2] [] [] [] (glob:=[1])
@[simp] theorem h85f:HF h85 [0,1,2] [] [] [] (glob:=[1]):=by and_intros<;>rfl
def h92:Hint:=hk [0,1,4,5,7,8] [9,16] [17] [(2,[0,1,7,8])] (gc:=true)
@[simp] theorem h92f:HF h92 [0,1,4,5,7,8] [9,16] [17] [(2,[0,1,7,8])] (gc:=true):=by and_intros<;>rfl
def h93:Hint:=hk [0,1,2] [] [] [] (glob:=[1])
@[simp] theorem h93f:HF h93 [0,1,2] [] [] [] (glob:=[1]):=by and_intros<;>rfl
def h94:Hint:=hk [0,1,2,4,6,7,8] [] [10,11,12,14,15,16,21] []
@[simp] theorem h94f:HF h94 [0,1,2,4,6,7,8] [] [10,11,12,14,15,16,21] []:=by and_intros<;>rfl
def h95:Hint:=hk [0,1,2,4,5] [7] [9] []
@[simp] theorem h95f:HF h95 [0,1,2,4,5] [7] [9] []:=by and_intros<;>rfl
def h96:Hint:=hk [0,1,4,5,6] [] [9,11,14] [] (alt:=[(8,1)]) (fz:=3) (gc:=true) (rt:=true) (mv:=[(10,0)])
@[simp] theorem h96f:HF h96 [0,1,4,5,6] [] [9,11,14] [] (alt:=[(8,1)]) (fz:=3) (gc:=true) (rt:=true) (mv:=[(10,0)]):=by and_intros<;>rfl
def h112:Hint:=hk [0,1] [5] [6,10] []
@[simp] theorem h112f:HF h112 [0,1] [5] [6,10] []:=by and_intros<;>rfl
def h114:Hint:=hk [0,1,4,5,6,7,8] [12,39,44,59,66,75] [21,27,33,40,47,56,69,73,79,80,84,86] [(3,[0,1,5,6]),(6,[0,1,5,6,8])] (glob:=[54,83]) (msd:=[54,83]) (fz:=2) (gc:=true)
@[simp] theorem h114f:HF h114 [0,1,4,5,6,7,8] [12,39,44,59,66,75] [21,27,33,40,47,56,69,73,79,80,84,86] [(3,[0,1,5,6]),(6,[0,1,5,6,8])] (glob:=[54,83]) (msd:=[54,83]) (fz:=2) (gc:=true):=by and_intros<;>rfl
def h115:Hint:=hk [0,1,4,5,6,7,8,14,15,16] [13,17,26,29] [14,30,36] [(5,[1,6,14,15,16])] (roots:=[(21,8)])
@[simp] theorem h115f:HF h115 [0,1,4,5,6,7,8,14,15,16] [13,17,26,29] [14,30,36] [(5,[1,6,14,15,16])] (roots:=[(21,8)]):=by and_intros<;>rfl
def h122:Hint:=hk [0,1,4,5] [] [9,12,14] [] (glob:=[10]) (msd:=[10]) (fz:=2) (gc:=true)
@[simp] theorem h122f:HF h122 [0,1,4,5] [] [9,12,14] [] (glob:=[10]) (msd:=[10]) (fz:=2) (gc:=true):=by and_intros<;>rfl
def h123:Hint:=hk [0,1,2,3,4] [] [] [] (roots:=[(5,2),(7,3),(10,2),(12,3)]) (sw:=[14])
@[simp] theorem h123f:HF h123 [0,1,2,3,4] [] [] [] (roots:=[(5,2),(7,3),(10,2),(12,3)]) (sw:=[14]):=by and_intros<;>rfl
def h124:Hint:=hk [0,1,2,6,7,8,9] [13,30,35,54] [15,20,24,38,45,56,57,61] [(2,[0,1,2,6,7,8]),(7,[0,1,2,6]),(9,[0,1,2,6,7,8])]
@[simp] theorem h124f:HF h124 [0,1,2,6,7,8,9] [13,30,35,54] [15,20,24,38,45,56,57,61] [(2,[0,1,2,6,7,8]),(7,[0,1,2,6]),(9,[0,1,2,6,7,8])]:=by and_intros<;>rfl
def h126:Hint:=hk [0,1,2,6,7,8,9] [13,30,35,54] [15,20,24,38,45,56,57,61] [(2,[0,1,2,6,7,8]),(7,[0,1,2,6]),(9,[0,1,2,6,7,8])]
@[simp] theorem h126f:HF h126 [0,1,2,6,7,8,9] [13,30,35,54] [15,20,24,38,45,56,57,61] [(2,[0,1,2,6,7,8]),(7,[0,1,2,6]),(9,[0,1,2,6,7,8])]:=by and_intros<;>rfl
def h127:Hint:=hk [0,2,3,4,5,6,7,8,9,10,11,12,13] [21,34,74] [17,23,24,29,30,36,42,43,49,50,51,56,57,59,60,63,64,67,68,69,76,77,78,79] []
@[simp] theorem h127f:HF h127 [0,2,3,4,5,6,7,8,9,10,11,12,13] [21,34,74] [17,23,24,29,30,36,42,43,49,50,51,56,57,59,60,63,64,67,68,69,76,77,78,79] []:=by and_intros<;>rfl
def h128:Hint:=hk [0,1,4,5,6] [11,12,13,16,19] [11,12,13,17,18] []
@[simp] theorem h128f:HF h128 [0,1,4,5,6] [11,12,13,16,19] [11,12,13,17,18] []:=by and_intros<;>rfl
def h129:Hint:=hk [0,1,4] [10] [7,11,14,18,20] []
@[simp] theorem h129f:HF h129 [0,1,4] [10] [7,11,14,18,20] []:=by and_intros<;>rfl
def h130:Hint:=hk [0,1,2,6,7,8,9] [13,30,35,54] [15,20,24,38,45,56,57,61] [(2,[0,1,2,6,7,8]),(7,[0,1,2,6]),(9,[0,1,2,6,7,8])]
@[simp] theorem h130f:HF h130 [0,1,2,6,7,8,9] [13,30,35,54] [15,20,24,38,45,56,57,61] [(2,[0,1,2,6,7,8]),(7,[0,1,2,6]),(9,[0,1,2,6,7,8])]:=by and_intros<;>rfl
def h132:Hint:=hk [0,1,2,3] [] [] []
@[simp] theorem h132f:HF h132 [0,1,2,3] [] [] []:=by and_intros<;>rfl
def h136:Hint:=hk [0,2] [] [5,9,10] []
@[simp] theorem h136f:HF h136 [0,2] [] [5,9,10] []:=by and_intros<;>rfl
def h137:Hint:=hk [0,2] [] [5,6] []
@[simp] theorem h137f:HF h137 [0,2] [] [5,6] []:=by and_intros<;>rfl
def h138:Hint:=hk [0,1,4,6,8,9,10] [11,30] [7,18,23,25] [(2,[1,8,9,10])]
@[simp] theorem h138f:HF h138 [0,1,4,6,8,9,10] [11,30] [7,18,23,25] [(2,[1,8,9,10])]:=by and_intros<;>rfl
def h139:Hint:=hk [0,1,2] [] [] [] (glob:=[1])
@[simp] theorem h139f:HF h139 [0,1,2] [] [] [] (glob:=[1]):=by and_intros<;>rfl
def h141:Hint:=hk [0,1,4,5] [9,16] [10] [(2,[0,1,5])] (gc:=true)
@[simp] theorem h141f:HF h141 [0,1,4,5] [9,16] [10] [(2,[0,1,5])] (gc:=true):=by and_intros<;>rfl
def h143:Hint:=hk [0,2,3,4,5,6,7,8] [12,36] [13,14,21,22,23,26,27,29,30,33,37,38,39,41] []
@[simp] theorem h143f:HF h143 [0,2,3,4,5,6,7,8] [12,36] [13,14,21,22,23,26,27,29,30,33,37,38,39,41] []:=by and_intros<;>rfl
def h144:Hint:=hk [0,1,4,5] [9,17] [10,18] [(2,[0,1,5])] (gc:=true)
@[simp] theorem h144f:HF h144 [0,1,4,5] [9,17] [10,18] [(2,[0,1,5])] (gc:=true):=by and_intros<;>rfl
def h145:Hint:=hk [0,2] [] [5,6] []
@[simp] theorem h145f:HF h145 [0,2] [] [5,6] []:=by and_intros<;>rfl
def h146:Hint:=hk [0,2,4] [] [5,6,9,10] []
@[simp] theorem h146f:HF h146 [0,2,4] [] [5,6,9,10] []:=by and_intros<;>rfl
def h147:Hint:=hk [0,1,4,5,6,8] [] [9,10,13,14,15,18,19,20,25,26,28] []
@[simp] theorem h147f:HF h147 [0,1,4,5,6,8] [] [9,10,13,14,15,18,19,20,25,26,28] []:=by and_intros<;>rfl
def h148:Hint:=hk [0,1,4] [] [5,6] []
@[simp] theorem h148f:HF h148 [0,1,4] [] [5,6] []:=by and_intros<;>rfl
def h149:Hint:=hk [0,1,2,3] [] [] []
@[simp] theorem h149f:HF h149 [0,1,2,3] [] [] []:=by and_intros<;>rfl
def h150:Hint:=hk [0,1,4] [] [5,6] []
@[simp] theorem h150f:HF h150 [0,1,4] [] [5,6] []:=by and_intros<;>rfl
def h151:Hint:=hk [0,1,4] [] [5,6] []
@[simp] theorem h151f:HF h151 [0,1,4] [] [5,6] []:=by and_intros<;>rfl
def h152:Hint:=hk [0,1,2,3] [] [] []
@[simp] theorem h152f:HF h152 [0,1,2,3] [] [] []:=by and_intros<;>rfl
def h160:Hint:=hk [0,1,2,3] [] [] []
@[simp] theorem h160f:HF h160 [0,1,2,3] [] [] []:=by and_intros<;>rfl
def h161:Hint:=hk [0,1,4,5,6,7] [12,19,29] [13,20,34,39,40] [(5,[0,1,5,6])] (fz:=2) (gc:=true)
@[simp] theorem h161f:HF h161 [0,1,4,5,6,7] [12,19,29] [13,20,34,39,40] [(5,[0,1,5,6])] (fz:=2) (gc:=true):=by and_intros<;>rfl
def h176:Hint:=hk [0,1,4] [] [5,6] []
@[simp] theorem h176f:HF h176 [0,1,4] [] [5,6] []:=by and_intros<;>rfl
def h177:Hint:=hk [0,1,4] [] [6,22,23] []
@[simp] theorem h177f:HF h177 [0,1,4] [] [6,22,23] []:=by and_intros<;>rfl
def h178:Hint:=hk [0,1,4,6] [] [8,12,16,31,32] []
@[simp] theorem h178f:HF h178 [0,1,4,6] [] [8,12,16,31,32] []:=by and_intros<;>rfl
def h179:Hint:=hk [0,1,4,5] [] [7] [] (roots:=[(5,5),(37,5)]) (sw:=[39,50,56]) (msd:=[50]) (gc:=true) (ad:=[39])
@[simp] theorem h179f:HF h179 [0,1,4,5] [] [7] [] (roots:=[(5,5),(37,5)]) (sw:=[39,50,56]) (msd:=[50]) (gc:=true) (ad:=[39]):=by and_intros<;>rfl
def h180:Hint:=hk [0,1,4,5] [] [7] [] (roots:=[(5,5)]) (sw:=[43,49]) (msd:=[43])
@[simp] theorem h180f:HF h180 [0,1,4,5] [] [7] [] (roots:=[(5,5)]) (sw:=[43,49]) (msd:=[43]):=by and_intros<;>rfl
def h181:Hint:=hk [0,1,4,5,6] [12] [7,11,12,24] [] (roots:=[(6,6)]) (sw:=[58,69,75]) (msd:=[69]) (gc:=true) (ad:=[58])
@[simp] theorem h181f:HF h181 [0,1,4,5,6] [12] [7,11,12,24] [] (roots:=[(6,6)]) (sw:=[58,69,75]) (msd:=[69]) (gc:=true) (ad:=[58]):=by and_intros<;>rfl
def h182:Hint:=hk [0,1,4,5,6] [12] [7,11,12,21] [] (roots:=[(6,6)]) (sw:=[57,63]) (msd:=[57])
@[simp] theorem h182f:HF h182 [0,1,4,5,6] [12] [7,11,12,21] [] (roots:=[(6,6)]) (sw:=[57,63]) (msd:=[57]):=by and_intros<;>rfl
def h184:Hint:=hk [0,1] [] [5,7] []
@[simp] theorem h184f:HF h184 [0,1] [] [5,7] []:=by and_intros<;>rfl
def h185:Hint:=hk [0,1,2,3,8,9] [14,34] [15,35] [(1,[0,1,2,3,8]),(4,[0,1,2,3,8,9])] (sw:=[32,51,52]) (gc:=true)
@[simp] theorem h185f:HF h185 [0,1,2,3,8,9] [14,34] [15,35] [(1,[0,1,2,3,8]),(4,[0,1,2,3,8,9])] (sw:=[32,51,52]) (gc:=true):=by and_intros<;>rfl
def h186:Hint:=hk [0,1,2,3,4,10,11,12,13,14,15,16,17,18,19,20,21,22,23,24] [28,33,50,58,80,85,103,110,140,151,171,185,199,213] [29,30,51,53,54,59,81,104,106,107,111,172,174,175,181,188,195,201,202,209,214,215,216,217,218] [(3,[0,1,4,10,11]),(9,[0,10,13]),(15,[0,2,4,14,15]),(21,[0,14,17]),(33,[0,1,2,3,4,18,19,20,21,22])] (sw:=[49,75,76,101,127,128,169]) (gc:=true)
@[simp] theorem h186f:HF h186 [0,1,2,3,4,10,11,12,13,14,15,16,17,18,19,20,21,22,23,24] [28,33,50,58,80,85,103,110,140,151,171,185,199,213] [29,30,51,53,54,59,81,104,106,107,111,172,174,175,181,188,195,201,202,209,214,215,216,217,218] [(3,[0,1,4,10,11]),(9,[0,10,13]),(15,[0,2,4,14,15]),(21,[0,14,17]),(33,[0,1,2,3,4,18,19,20,21,22])] (sw:=[49,75,76,101,127,128,169]) (gc:=true):=by and_intros<;>rfl
def h188:Hint:=hk [0,1,2,3,8,9] [14,34] [15,35] [(1,[0,1,2,3,8]),(4,[0,1,2,3,8,9])] (sw:=[32,51,52]) (gc:=true)
@[simp] theorem h188f:HF h188 [0,1,2,3,8,9] [14,34] [15,35] [(1,[0,1,2,3,8]),(4,[0,1,2,3,8,9])] (sw:=[32,51,52]) (gc:=true):=by and_intros<;>rfl
def h189:Hint:=hk [0,1,2,3,4,10,11,12,13,14,15,16,17,18,19,20,21,22,23,24] [28,33,50,58,80,85,103,110,140,151,171,185,199,213] [29,30,51,53,54,59,81,104,106,107,111,172,174,175,181,188,195,201,202,209,214,215,216,217,218] [(3,[0,1,4,10,11]),(9,[0,10,13]),(15,[0,2,4,14,15]),(21,[0,14,17]),(33,[0,1,2,3,4,18,19,20,21,22])] (sw:=[49,75,76,101,127,128,169]) (gc:=true)
@[simp] theorem h189f:HF h189 [0,1,2,3,4,10,11,12,13,14,15,16,17,18,19,20,21,22,23,24] [28,33,50,58,80,85,103,110,140,151,171,185,199,213] [29,30,51,53,54,59,81,104,106,107,111,172,174,175,181,188,195,201,202,209,214,215,216,217,218] [(3,[0,1,4,10,11]),(9,[0,10,13]),(15,[0,2,4,14,15]),(21,[0,14,17]),(33,[0,1,2,3,4,18,19,20,21,22])] (sw:=[49,75,76,101,127,128,169]) (gc:=true):=by and_intros<;>rfl
def h192:Hint:=hk [0,2,3,4,5] [18] [9,14,19,20,23] []
@[simp] theorem h192f:HF h192 [0,2,3,4,5] [18] [9,14,19,20,23] []:=by and_intros<;>rfl
def h193:Hint:=hk [0,2,4,6,7,8] [9,24] [5,16,19,20] [(2,[6,7,8])] (gc:=true)
@[simp] theorem h193f:HF h193 [0,2,4,6,7,8] [9,24] [5,16,19,20] [(2,[6,7,8])] (gc:=true):=by and_intros<;>rfl
def h194:Hint:=hk [0,2] [] [4] []
@[simp] theorem h194f:HF h194 [0,2] [] [4] []:=by and_intros<;>rfl
def h195:Hint:=hk [0,1,2,6,7,8,9,10,11,12,13] [14,21,31,38] [23,27,28,32,34,36] [(2,[0,1,2,11,12,13])] (gc:=true)
@[simp] theorem h195f:HF h195 [0,1,2,6,7,8,9,10,11,12,13] [14,21,31,38] [23,27,28,32,34,36] [(2,[0,1,2,11,12,13])] (gc:=true):=by and_intros<;>rfl
def h196:Hint:=hk [0,1,4,5,6] [11,26,28] [13,21,22,27,29,30,31] []
@[simp] theorem h196f:HF h196 [0,1,4,5,6] [11,26,28] [13,21,22,27,29,30,31] []:=by and_intros<;>rfl
def h197:Hint:=hk [0,1,2,3,8,9] [14,34] [15,35] [(1,[0,1,2,3,8]),(4,[0,1,2,3,8,9])] (sw:=[32,51,52]) (gc:=true)
@[simp] theorem h197f:HF h197 [0,1,2,3,8,9] [14,34] [15,35] [(1,[0,1,2,3,8]),(4,[0,1,2,3,8,9])] (sw:=[32,51,52]) (gc:=true):=by and_intros<;>rfl
def h198:Hint:=hk [0,1,2,3,4,10,11,12,13,14,15,16,17,18,19,20,21,22,23,24] [28,33,50,58,80,85,103,110,140,151,171,185,199,213] [29,30,51,53,54,59,81,104,106,107,111,172,174,175,181,188,195,201,202,209,214,215,216,217,218] [(3,[0,1,4,10,11]),(9,[0,10,13]),(15,[0,2,4,14,15]),(21,[0,14,17]),(33,[0,1,2,3,4,18,19,20,21,22])] (sw:=[49,75,76,101,127,128,169]) (gc:=true)
@[simp] theorem h198f:HF h198 [0,1,2,3,4,10,11,12,13,14,15,16,17,18,19,20,21,22,23,24] [28,33,50,58,80,85,103,110,140,151,171,185,199,213] [29,30,51,53,54,59,81,104,106,107,111,172,174,175,181,188,195,201,202,209,214,215,216,217,218] [(3,[0,1,4,10,11]),(9,[0,10,13]),(15,[0,2,4,14,15]),(21,[0,14,17]),(33,[0,1,2,3,4,18,19,20,21,22])] (sw:=[49,75,76,101,127,128,169]) (gc:=true):=by and_intros<;>rfl
def h208:Hint:=hk [0,1,3] [] [6,10,14,16] []
@[simp] theorem h208f:HF h208 [0,1,3] [] [6,10,14,16] []:=by and_intros<;>rfl
def h209:Hint:=hk [0,2] [] [5,6] []
@[simp] theorem h209f:HF h209 [0,2] [] [5,6] []:=by and_intros<;>rfl
def h213:Hint:=hk [0,1,4,5,7,8] [9,16] [17] [(2,[0,1,7,8])] (gc:=true)
@[simp] theorem h213f:HF h213 [0,1,4,5,7,8] [9,16] [17] [(2,[0,1,7,8])] (gc:=true):=by and_intros<;>rfl
def h214:Hint:=hk [0,1,4,5,7,8] [9,16] [17] [(2,[0,1,7,8])] (gc:=true)
@[simp] theorem h214f:HF h214 [0,1,4,5,7,8] [9,16] [17] [(2,[0,1,7,8])] (gc:=true):=by and_intros<;>rfl
def h232:Hint:=hk [0,1,2,6,7,8] [] [9,10,11,14,15,16,20] []
@[simp] theorem h232f:HF h232 [0,1,2,6,7,8] [] [9,10,11,14,15,16,20] []:=by and_intros<;>rfl
def h233:Hint:=hk [0,1] [] [4,5] []
@[simp] theorem h233f:HF h233 [0,1] [] [4,5] []:=by and_intros<;>rfl
def h234:Hint:=hk [0,1,3,4] [] [5] []
@[simp] theorem h234f:HF h234 [0,1,3,4] [] [5] []:=by and_intros<;>rfl
def h235:Hint:=hk [0,1,3,4] [] [5] []
@[simp] theorem h235f:HF h235 [0,1,3,4] [] [5] []:=by and_intros<;>rfl
def h236:Hint:=hk [0,1,2,6,7,8,9] [13,30,35,54] [15,20,24,38,45,56,57,61] [(2,[0,1,2,6,7,8]),(7,[0,1,2,6]),(9,[0,1,2,6,7,8])]
@[simp] theorem h236f:HF h236 [0,1,2,6,7,8,9] [13,30,35,54] [15,20,24,38,45,56,57,61] [(2,[0,1,2,6,7,8]),(7,[0,1,2,6]),(9,[0,1,2,6,7,8])]:=by and_intros<;>rfl
def h237:Hint:=hk [0,1,2,3,4,10,11] [20,23] [13,15,32,47,50,54,55,56] [(2,[0,2,4,10,11])]
@[simp] theorem h237f:HF h237 [0,1,2,3,4,10,11] [20,23] [13,15,32,47,50,54,55,56] [(2,[0,2,4,10,11])]:=by and_intros<;>rfl
def h238:Hint:=hk [0,1,2,3,4,10,11] [20,23] [13,15,32,47,50,54,55,56] [(2,[0,2,4,10,11])]
@[simp] theorem h238f:HF h238 [0,1,2,3,4,10,11] [20,23] [13,15,32,47,50,54,55,56] [(2,[0,2,4,10,11])]:=by and_intros<;>rfl
def h241:Hint:=hk [0,2] [] [5,8,9] []
@[simp] theorem h241f:HF h241 [0,2] [] [5,8,9] []:=by and_intros<;>rfl
def h242:Hint:=hk [0,1,2,3,4,10,11] [20,23] [13,15,32,47,50,54,55,56] [(2,[0,2,4,10,11])]
@[simp] theorem h242f:HF h242 [0,1,2,3,4,10,11] [20,23] [13,15,32,47,50,54,55,56] [(2,[0,2,4,10,11])]:=by and_intros<;>rfl
def h257:Hint:=hk [0,1,3,4,5,7,8] [9,16] [17] [(2,[0,3,7,8])] (roots:=[(3,3)])
@[simp] theorem h257f:HF h257 [0,1,3,4,5,7,8] [9,16] [17] [(2,[0,3,7,8])] (roots:=[(3,3)]):=by and_intros<;>rfl
def h258:Hint:=hk [0,1,3,4,5,7,8] [9,16] [17] [(2,[0,3,7,8])] (roots:=[(3,3)])
@[simp] theorem h258f:HF h258 [0,1,3,4,5,7,8] [9,16] [17] [(2,[0,3,7,8])] (roots:=[(3,3)]):=by and_intros<;>rfl
def h259:Hint:=hk [0,1,2,3,8,9] [14,34] [15,35] [(1,[0,1,2,3,8]),(4,[0,1,2,3,8,9])] (sw:=[32,51,52]) (gc:=true)
@[simp] theorem h259f:HF h259 [0,1,2,3,8,9] [14,34] [15,35] [(1,[0,1,2,3,8]),(4,[0,1,2,3,8,9])] (sw:=[32,51,52]) (gc:=true):=by and_intros<;>rfl
def h260:Hint:=hk [0,1,2,3,4,10,11,12,13,14,15,16,17,18,19,20,21,22,23,24] [28,33,50,58,80,85,103,110,140,151,171,185,199,213] [29,30,51,53,54,59,81,104,106,107,111,172,174,175,181,188,195,201,202,209,214,215,216,217,218] [(3,[0,1,4,10,11]),(9,[0,10,13]),(15,[0,2,4,14,15]),(21,[0,14,17]),(33,[0,1,2,3,4,18,19,20,21,22])] (sw:=[49,75,76,101,127,128,169]) (gc:=true)
@[simp] theorem h260f:HF h260 [0,1,2,3,4,10,11,12,13,14,15,16,17,18,19,20,21,22,23,24] [28,33,50,58,80,85,103,110,140,151,171,185,199,213] [29,30,51,53,54,59,81,104,106,107,111,172,174,175,181,188,195,201,202,209,214,215,216,217,218] [(3,[0,1,4,10,11]),(9,[0,10,13]),(15,[0,2,4,14,15]),(21,[0,14,17]),(33,[0,1,2,3,4,18,19,20,21,22])] (sw:=[49,75,76,101,127,128,169]) (gc:=true):=by and_intros<;>rfl
def h261:Hint:=hk [0,1,2,3,4,10] [13] [14] [(1,[0,1,2,3,10])] (sw:=[36,37])
@[simp] theorem h261f:HF h261 [0,1,2,3,4,10] [13] [14] [(1,[0,1,2,3,10])] (sw:=[36,37]):=by and_intros<;>rfl
def h262:Hint:=hk [0,1,2,3,4,10] [13] [14] [(1,[0,1,2,3,10])] (sw:=[36,37])
@[simp] theorem h262f:HF h262 [0,1,2,3,4,10] [13] [14] [(1,[0,1,2,3,10])] (sw:=[36,37]):=by and_intros<;>rfl
def h265:Hint:=hk [0,1,2,3,4,10] [13] [14] [(1,[0,1,2,3,10])] (sw:=[36,37])
@[simp] theorem h265f:HF h265 [0,1,2,3,4,10] [13] [14] [(1,[0,1,2,3,10])] (sw:=[36,37]):=by and_intros<;>rfl
def h275:Hint:=hk [0,1,2,3,4,10,11] [20,23] [13,15,32,47,50,54,55,56] [(2,[0,2,4,10,11])]
@[simp] theorem h275f:HF h275 [0,1,2,3,4,10,11] [20,23] [13,15,32,47,50,54,55,56] [(2,[0,2,4,10,11])]:=by and_intros<;>rfl
def h285:Hint:=hk [0,1,2,3,4,10] [13] [14] [(1,[0,1,2,3,10])] (sw:=[36,37])
@[simp] theorem h285f:HF h285 [0,1,2,3,4,10] [13] [14] [(1,[0,1,2,3,10])] (sw:=[36,37]):=by and_intros<;>rfl
def h100053:Hint:=hk [0,2] [] [6] [] (glob:=[7]) (msd:=[7])
@[simp] theorem h100053f:HF h100053 [0,2] [] [6] [] (glob:=[7]) (msd:=[7]):=by and_intros<;>rfl
def h100055:Hint:=hk [0,2] [] [6] [] (glob:=[7]) (msd:=[7])
@[simp] theorem h100055f:HF h100055 [0,2] [] [6] [] (glob:=[7]) (msd:=[7]):=by and_intros<;>rfl
def h100056:Hint:=hk [0,2] [] [6] [] (glob:=[7]) (msd:=[7])
@[simp] theorem h100056f:HF h100056 [0,2] [] [6] [] (glob:=[7]) (msd:=[7]):=by and_intros<;>rfl
def h100015:Hint:=hk [0,1,2] [] [] [] (roots:=[(3,1),(6,1),(9,1),(12,1),(15,1),(16,1),(17,1),(18,1)]) (sw:=[5,8,11,14]) (alt:=[(5,1),(8,1),(11,1),(14,1)])
@[simp] theorem h100015f:HF h100015 [0,1,2] [] [] [] (roots:=[(3,1),(6,1),(9,1),(12,1),(15,1),(16,1),(17,1),(18,1)]) (sw:=[5,8,11,14]) (alt:=[(5,1),(8,1),(11,1),(14,1)]):=by and_intros<;>rfl
def h100054:Hint:=hk [0,2] [] [3] [] (alt:=[(4,1)])
@[simp] theorem h100054f:HF h100054 [0,2] [] [3] [] (alt:=[(4,1)]):=by and_intros<;>rfl
def h100122:Hint:=hk [0,1,4,5] [] [9,12,14] [] (glob:=[10]) (msd:=[10])
@[simp] theorem h100122f:HF h100122 [0,1,4,5] [] [9,12,14] [] (glob:=[10]) (msd:=[10]):=by and_intros<;>rfl
def H:FuncId→Hint
 | 4=>h4
 | 6=>h6
 | 8=>h8
 | 9=>h9
 | 11=>h11
 | 12=>h12
 | 13=>h13
 | 14=>h14
 | 15=>h15
 | 16=>h16
 | 17=>h17
 | 18=>h18
 | 21=>h21
 | 23=>h23
 | 29=>h29
 | 30=>h30
 | 32=>h32
 | 34=>h34
 | 35=>h35
 | 40=>h40
 | 41=>h41
 | 42=>h42
 | 43=>h43
 | 44=>h44
 | 45=>h45
 | 46=>h46
 | 47=>h47
 | 48=>h48
 | 49=>h49
 | 50=>h50
 | 51=>h51
 | 53=>h53
 | 54=>h54
 | 55=>h55
 | 56=>h56
 | 57=>h57
 | 58=>h58
 | 59=>h59
 | 60=>h60
 | 61=>h61
 | 62=>h62
 | 63=>h63
 | 64=>h64
 | 65=>h65
 | 70=>h70
 | 71=>h71
 | 72=>h72
 | 73=>h73
 | 74=>h74
 | 75=>h75
 | 76=>h76
 | 77=>h77
 | 78=>h78
 | 79=>h79
 | 80=>h80
 | 81=>h81
 | 82=>h82
 | 83=>h83
 | 84=>h84
 | 85=>h85
 | 92=>h92
 | 93=>h93
 | 94=>h94
 | 95=>h95
 | 96=>h96
 | 112=>h112
 | 114=>h114
 | 115=>h115
 | 122=>h122
 | 123=>h123
 | 124=>h124
 | 126=>h126
 | 127=>h127
 | 128=>h128
 | 129=>h129
 | 130=>h130
 | 132=>h132
 | 136=>h136
 | 137=>h137
 | 138=>h138
 | 139=>h139
 | 141=>h141
 | 143=>h143
 | 144=>h144
 | 145=>h145
 | 146=>h146
 | 147=>h147
 | 148=>h148
 | 149=>h149
 | 150=>h150
 | 151=>h151
 | 152=>h152
 | 160=>h160
 | 161=>h161
 | 176=>h176
 | 177=>h177
 | 178=>h178
 | 179=>h179
 | 180=>h180
 | 181=>h181
 | 182=>h182
 | 184=>h184
 | 185=>h185
 | 186=>h186
 | 188=>h188
 | 189=>h189
 | 192=>h192
 | 193=>h193
 | 194=>h194
 | 195=>h195
 | 196=>h196
 | 197=>h197
 | 198=>h198
 | 208=>h208
 | 209=>h209
 | 213=>h213
 | 214=>h214
 | 232=>h232
 | 233=>h233
 | 234=>h234
 | 235=>h235
 | 236=>h236
 | 237=>h237
 | 238=>h238
 | 241=>h241
 | 242=>h242
 | 257=>h257
 | 258=>h258
 | 259=>h259
 | 260=>h260
 | 261=>h261
 | 262=>h262
 | 265=>h265
 | 275=>h275
 | 285=>h285
 | 100053=>h100053
 | 100055=>h100055
 | 100056=>h100056
 | 100015=>h100015
 | 100054=>h100054
 | 100122=>h100122
 | _=>{}
@[simp] theorem H4:H 4=h4:=rfl
@[simp] theorem H6:H 6=h6:=rfl
@[simp] theorem H8:H 8=h8:=rfl
@[simp] theorem H9:H 9=h9:=rfl
@[simp] theorem H11:H 11=h11:=rfl
@[simp] theorem H12:H 12=h12:=rfl
@[simp] theorem H13:H 13=h13:=rfl
@[simp] theorem H14:H 14=h14:=rfl
@[simp] theorem H15:H 15=h15:=rfl
@[simp] theorem H16:H 16=h16:=rfl
@[simp] theorem H17:H 17=h17:=rfl
@[simp] theorem H18:H 18=h18:=rfl
@[simp] theorem H21:H 21=h21:=rfl
@[simp] theorem H23:H 23=h23:=rfl
@[simp] theorem H29:H 29=h29:=rfl
@[simp] theorem H30:H 30=h30:=rfl
@[simp] theorem H32:H 32=h32:=rfl
@[simp] theorem H34:H 34=h34:=rfl
@[simp] theorem H35:H 35=h35:=rfl
@[simp] theorem H40:H 40=h40:=rfl
@[simp] theorem H41:H 41=h41:=rfl
@[simp] theorem H42:H 42=h42:=rfl
@[simp] theorem H43:H 43=h43:=rfl
@[simp] theorem H44:H 44=h44:=rfl
@[simp] theorem H45:H 45=h45:=rfl
@[simp] theorem H46:H 46=h46:=rfl
@[simp] theorem H47:H 47=h47:=rfl
@[simp] theorem H48:H 48=h48:=rfl
@[simp] theorem H49:H 49=h49:=rfl
@[simp] theorem H50:H 50=h50:=rfl
@[simp] theorem H51:H 51=h51:=rfl
@[simp] theorem H53:H 53=h53:=rfl
@[simp] theorem H54:H 54=h54:=rfl
@[simp] theorem H55:H 55=h55:=rfl
@[simp] theorem H56:H 56=h56:=rfl
@[simp] theorem H57:H 57=h57:=rfl
@[simp] theorem H58:H 58=h58:=rfl
@[simp] theorem H59:H 59=h59:=rfl
@[simp] theorem H60:H 60=h60:=rfl
@[simp] theorem H61:H 61=h61:=rfl
@[simp] theorem H62:H 62=h62:=rfl
@[simp] theorem H63:H 63=h63:=rfl
@[simp] theorem H64:H 64=h64:=rfl
@[simp] theorem H65:H 65=h65:=rfl
@[simp] theorem H70:H 70=h70:=rfl
@[simp] theorem H71:H 71=h71:=rfl
@[simp] theorem H72:H 72=h72:=rfl
@[simp] theorem H73:H 73=h73:=rfl
@[simp] theorem H74:H 74=h74:=rfl
@[simp] theorem H75:H 75=h75:=rfl
@[simp] theorem H76:H 76=h76:=rfl
@[simp] theorem H77:H 77=h77:=rfl
@[simp] theorem H78:H 78=h78:=rfl
@[simp] theorem H79:H 79=h79:=rfl
@[simp] theorem H80:H 80=h80:=rfl
@[simp] theorem H81:H 81=h81:=rfl
@[simp] theorem H82:H 82=h82:=rfl
@[simp] theorem H83:H 83=h83:=rfl
@[simp] theorem H84:H 84=h84:=rfl
@[simp] theorem H85:H 85=h85:=rfl
@[simp] theorem H92:H 92=h92:=rfl
@[simp] theorem H93:H 93=h93:=rfl
@[simp] theorem H94:H 94=h94:=rfl
@[simp] theorem H95:H 95=h95:=rfl
@[simp] theorem H96:H 96=h96:=rfl
@[simp] theorem H112:H 112=h112:=rfl
@[simp] theorem H114:H 114=h114:=rfl
@[simp] theorem H115:H 115=h115:=rfl
@[simp] theorem H122:H 122=h122:=rfl
@[simp] theorem H123:H 123=h123:=rfl
@[simp] theorem H124:H 124=h124:=rfl
@[simp] theorem H126:H 126=h126:=rfl
@[simp] theorem H127:H 127=h127:=rfl
@[simp] theorem H128:H 128=h128:=rfl
@[simp] theorem H129:H 129=h129:=rfl
@[simp] theorem H130:H 130=h130:=rfl
@[simp] theorem H132:H 132=h132:=rfl
@[simp] theorem H136:H 136=h136:=rfl
@[simp] theorem H137:H 137=h137:=rfl
@[simp] theorem H138:H 138=h138:=rfl
@[simp] theorem H139:H 139=h139:=rfl
@[simp] theorem H141:H 141=h141:=rfl
@[simp] theorem H143:H 143=h143:=rfl
@[simp] theorem H144:H 144=h144:=rfl
@[simp] theorem H145:H 145=h145:=rfl
@[simp] theorem H146:H 146=h146:=rfl
@[simp] theorem H147:H 147=h147:=rfl
@[simp] theorem H148:H 148=h148:=rfl
@[simp] theorem H149:H 149=h149:=rfl
@[simp] theorem H150:H 150=h150:=rfl
@[simp] theorem H151:H 151=h151:=rfl
@[simp] theorem H152:H 152=h152:=rfl
@[simp] theorem H160:H 160=h160:=rfl
@[simp] theorem H161:H 161=h161:=rfl
@[simp] theorem H176:H 176=h176:=rfl
@[simp] theorem H177:H 177=h177:=rfl
@[simp] theorem H178:H 178=h178:=rfl
@[simp] theorem H179:H 179=h179:=rfl
@[simp] theorem H180:H 180=h180:=rfl
@[simp] theorem H181:H 181=h181:=rfl
@[simp] theorem H182:H 182=h182:=rfl
@[simp] theorem H184:H 184=h184:=rfl
@[simp] theorem H185:H 185=h185:=rfl
@[simp] theorem H186:H 186=h186:=rfl
@[simp] theorem H188:H 188=h188:=rfl
@[simp] theorem H189:H 189=h189:=rfl
@[simp] theorem H192:H 192=h192:=rfl
@[simp] theorem H193:H 193=h193:=rfl
@[simp] theorem H194:H 194=h194:=rfl
@[simp] theorem H195:H 195=h195:=rfl
@[simp] theorem H196:H 196=h196:=rfl
@[simp] theorem H197:H 197=h197:=rfl
@[simp] theorem H198:H 198=h198:=rfl
@[simp] theorem H208:H 208=h208:=rfl
@[simp] theorem H209:H 209=h209:=rfl
@[simp] theorem H213:H 213=h213:=rfl
@[simp] theorem H214:H 214=h214:=rfl
@[simp] theorem H232:H 232=h232:=rfl
@[simp] theorem H233:H 233=h233:=rfl
@[simp] theorem H234:H 234=h234:=rfl
@[simp] theorem H235:H 235=h235:=rfl
@[simp] theorem H236:H 236=h236:=rfl
@[simp] theorem H237:H 237=h237:=rfl
@[simp] theorem H238:H 238=h238:=rfl
@[simp] theorem H241:H 241=h241:=rfl
@[simp] theorem H242:H 242=h242:=rfl
@[simp] theorem H257:H 257=h257:=rfl
@[simp] theorem H258:H 258=h258:=rfl
@[simp] theorem H259:H 259=h259:=rfl
@[simp] theorem H260:H 260=h260:=rfl
@[simp] theorem H261:H 261=h261:=rfl
@[simp] theorem H262:H 262=h262:=rfl
@[simp] theorem H265:H 265=h265:=rfl
@[simp] theorem H275:H 275=h275:=rfl
@[simp] theorem H285:H 285=h285:=rfl
@[simp] theorem H100053:H 100053=h100053:=rfl
@[simp] theorem H100055:H 100055=h100055:=rfl
@[simp] theorem H100056:H 100056=h100056:=rfl
@[simp] theorem H100015:H 100015=h100015:=rfl
@[simp] theorem H100054:H 100054=h100054:=rfl
@[simp] theorem H100122:H 100122=h100122:=rfl
end Go.Proofs.Tryz.Ai
end
section
namespace Go.Proofs.Tryz.Ai
open Go Go.AI Go.RowKit Go.Proofs
set_option linter.unusedVariables false
noncomputable def T:Table
 | 121=>some copyCheckT
 | 52=>some stringT
 | 224=>some indexT
 | 125=>some compareT
 | 264=>some countT
 | 135=>some itoaT
 | 168=>some indexST
 | 134=>some atoiT
 | 142=>some lastIndexT
 | 33=>some cutT
 | 191=>some splitT
 | 133=>some cutPrefixT
 | 190=>some hasPrefixT
 | 140=>some containsT
 | 113=>some trimT
 | 116=>some statementsT
 | 9=>some fun _ _=>none
 | _=>none
theorem qfr:AI.Enters Tryz.prog 121:=⟨_,Tryz.func121,by kernel_rfl,by kernel_rfl⟩
theorem qjd:AI.Enters Tryz.prog 52:=⟨_,Tryz.func52,by kernel_rfl,by kernel_rfl⟩
theorem qk3:AI.Enters Tryz.prog 224:=⟨_,Tryz.func224,by kernel_rfl,by kernel_rfl⟩
theorem qhl:AI.Enters Tryz.prog 125:=⟨_,Tryz.func125,by kernel_rfl,by kernel_rfl⟩
theorem qk4:AI.Enters Tryz.prog 264:=⟨_,Tryz.func264,by kernel_rfl,by kernel_rfl⟩
theorem qmj:AI.Enters Tryz.prog 135:=⟨_,Tryz.func135,by kernel_rfl,by kernel_rfl⟩
theorem T_ok {W0:World} (hl:LaidAll W0):TableOk Tryz.prog W0.heap.size W0 T:=by
 intro f p hf xs s r s' e
 unfold T at hf
 split at hf
 ·injection hf with hf;subst hf;exact⟨qfr,qk0 e⟩
 ·injection hf with hf;subst hf;exact⟨qjd,qrl e⟩
 ·injection hf with hf;subst hf;exact⟨qk3,qvo e⟩
 ·injection hf with hf;subst hf;exact⟨qhl,qoy e⟩
 ·injection hf with hf;subst hf;exact⟨qk4,qvp e⟩
 ·injection hf with hf;subst hf;exact⟨qmj,qy9 hl.tab e⟩
 ·injection hf with hf;subst hf;exact⟨⟨_,Tryz.func168,by kernel_rfl,by kernel_rfl⟩,qro hl e⟩
 ·injection hf with hf;subst hf;exact⟨⟨_,Tryz.func134,by kernel_rfl,by kernel_rfl⟩,qza hl e⟩
 ·injection hf with hf;subst hf;exact⟨⟨_,Tryz.func142,by kernel_rfl,by kernel_rfl⟩,qk1 e⟩
 ·injection hf with hf;subst hf;exact⟨⟨_,Tryz.func33,by kernel_rfl,by kernel_rfl⟩,q2m hl e⟩
 ·injection hf with hf;subst hf;exact⟨⟨_,Tryz.func191,by kernel_rfl,by kernel_rfl⟩,qvr hl e⟩
 ·injection hf with hf;subst hf;exact⟨⟨_,Tryz.func133,by kernel_rfl,by kernel_rfl⟩,qk2 e⟩
 ·injection hf with hf;subst hf;exact⟨⟨_,Tryz.func190,by kernel_rfl,by kernel_rfl⟩,hasPrefix_ok e⟩
 ·injection hf with hf;subst hf;exact⟨⟨_,Tryz.func140,by kernel_rfl,by kernel_rfl⟩,qmh hl e⟩
 ·injection hf with hf;subst hf;exact⟨⟨_,Tryz.func113,by kernel_rfl,by kernel_rfl⟩,trim_ok e⟩
 ·injection hf with hf;subst hf;exact⟨⟨_,Tryz.func116,by kernel_rfl,by kernel_rfl⟩,qjc e⟩
 ·injection hf with hf;subst hf;cases e
 ·cases hf
noncomputable abbrev ev:Oracle:=EV Tryz.prog H T
theorem qje (xs:List AV) (s:List (List AV)):ev 116 xs s=statementsT xs s:=qas rfl xs s
theorem qfl (xs:List AV) (s:List (List AV)):ev 121 xs s=copyCheckT xs s:=qas rfl xs s
theorem qrp (xs:List AV) (s:List (List AV)):ev 52 xs s=stringT xs s:=qas rfl xs s
theorem qvs (xs:List AV) (s:List (List AV)):ev 224 xs s=indexT xs s:=qas rfl xs s
theorem qo0 (xs:List AV) (s:List (List AV)):ev 125 xs s=compareT xs s:=qas rfl xs s
theorem qzb (xs:List AV) (s:List (List AV)):ev 135 xs s=itoaT xs s:=qas rfl xs s
theorem qrq (xs:List AV) (s:List (List AV)):ev 134 xs s=atoiT xs s:=qas rfl xs s
theorem qk5 (xs:List AV) (s:List (List AV)):ev 142 xs s=lastIndexT xs s:=qas rfl xs s
theorem qk6 (xs:List AV) (s:List (List AV)):ev 33 xs s=cutT xs s:=qas rfl xs s
theorem qvt (xs:List AV) (s:List (List AV)):ev 191 xs s=splitT xs s:=qas rfl xs s
theorem qk7 (xs:List AV) (s:List (List AV)):ev 133 xs s=cutPrefixT xs s:=qas rfl xs s
theorem qk8 (xs:List AV) (s:List (List AV)):ev 190 xs s=hasPrefixT xs s:=qas rfl xs s
theorem qmk (xs:List AV) (s:List (List AV)):ev 140 xs s=containsT xs s:=qas rfl xs s
theorem qzc (xs:List AV) (s:List (List AV)):ev 113 xs s=trimT xs s:=qas rfl xs s
end Go.Proofs.Tryz.Ai
end
section
namespace Go.Proofs.Tryz.Ai
open Go Go.AI Go.Proofs
set_option maxHeartbeats 1000000
set_option linter.unusedVariables false
def bc (b:Nat):Option (List UInt8)→List AV
 | none=>[.nilp,.sl .nil []]
 | some l=>[.gp b 0 (some (SB,2)),.sl (.ex U8 1) (l.map .u8)]
def bs (b:Nat):Option (List UInt8)→List AV
 | none=>[.nilp,.sl .nil []]
 | some l=>[.gp b 0 (some (SB,2)),.sl .sh (l.map .u8)]
def txt (o:Option (List UInt8)):List UInt8:=o.getD []
@[simp] theorem txt_some (l:List UInt8):txt (some l)=l:=rfl
@[simp] theorem txt_none:txt none=[]:=rfl
@[simp] theorem qjf (b:Nat) (o:Option (List UInt8)) (n:Nat):lowL n (bc b o)↔o=none∨b<n:=by cases o<;>simp[bc]
@[simp] theorem bs_lowL (b:Nat) (o:Option (List UInt8)) (n:Nat):lowL n (bs b o)↔o=none∨b<n:=by cases o<;>simp[bs]
theorem q7 (b:Nat) (σ:List (List AV)) (o:Option (List UInt8)) (m:List UInt8) (hl:(txt o).length+m.length≤most) (hb:σ[b]? = some (bc b o)) :
  ev 41 [.gp b 0 (some (SB,2)),.str m] σ=some (.tup [.int .i64 m.length,.nili],σ.set b (bc b (some (txt o++m)))):=by
 have hlt:b<σ.length:=(List.getElem?_eq_some_iff.1 hb).1
 have h1:m.length≤most:=by omega
 refine qf rfl Tryz.func41 rfl (by simp[Tryz.ntmps41]) (by kernel_rfl) (by kernel_rfl) ?_
 cases o with
 | none =>
  simp only[bc,txt_none] at hb hl ⊢
  simp (maxSteps:=4000000) (disch:=omega) [dT,dF,qh,-getElem?_pos,List.getElem?_cons_zero,List.getElem?_cons_succ,List.getElem?_set,qfl,copyCheckT,hb,hlt,Tryz.results41,h1,SB,U8]
 | some l =>
  simp only[bc,txt_some] at hb hl ⊢
  simp (maxSteps:=4000000) (disch:=omega) [dT,dF,qh,-getElem?_pos,List.getElem?_cons_zero,List.getElem?_cons_succ,List.getElem?_set,qfl,copyCheckT,hb,hlt,Tryz.results41,hl,SB,U8]
theorem qeb (σ τ:List (List AV)) (o:Option (List UInt8)) (m:List UInt8) (hl:(txt o).length+m.length≤most) :
  ev 41 [.gp σ.length 0 (some (SB,2)),.str m] (σ++bc σ.length o::τ)=some (.tup [.int .i64 m.length,.nili],σ++bc σ.length (some (txt o++m))::τ):=by
 have:=q7 σ.length (σ++bc σ.length o::τ) o m hl (by simp)
 rw[this];simp
theorem qml (l:List UInt8):bytesOf (l.map .u8)=some l:=by
 induction l with
 | nil=>rfl
 | cons x r ih=>simp only[List.map_cons,AV.u8] at ih ⊢;unfold bytesOf;simp[ih]
theorem qvu (b:Nat) (σ:List (List AV)) (o:Option (List UInt8)) (hb:σ[b]? = some (bc b o)) :
  ev 52 [.gp b 0 (some (SB,2))] σ=some (.str (txt o),σ.set b (bs b o)):=by
 show ev 52 _ _=_
 rw[qrp]
 cases o with
 | none =>
  simp only[bc,bs,txt_none] at hb ⊢
  have:σ.set b [AV.nilp,.sl .nil []]=σ:=by
   apply List.ext_getElem?;intro i;rw[List.getElem?_set]
   split
   ·rename_i e;subst e;rw[hb];simp[(List.getElem?_eq_some_iff.1 hb).1]
   ·rfl
  rw[this]
  simp[-getElem?_pos,stringT,hb]
 | some l =>
  simp only[bc,bs,txt_some] at hb ⊢
  simp[-getElem?_pos,-AV.u8,stringT,hb,qml,bnd]
end Go.Proofs.Tryz.Ai
end
section
namespace Go.Proofs.Tryz.Ai
open Go Go.AI Go.Proofs
set_option maxHeartbeats 2000000
set_option linter.unusedVariables false
theorem HasPrefix_eq (a b:List UInt8) (σ):ev 190 [.str a,.str b] σ=some (.bool (b.isPrefixOf a),σ):=by
 rw[qk8];rfl
end Go.Proofs.Tryz.Ai
end
section
namespace Go.AI
@[simp] theorem qzd {n k:Nat}:((n:Int)≤(no_index (OfNat.ofNat k):Int))↔n≤k:=by
 show (n:Int)≤(k:Int)↔n≤k;omega
@[simp] theorem qze {n k:Nat}:((no_index (OfNat.ofNat k):Int)≤(n:Int))↔k≤n:=by
 show (k:Int)≤(n:Int)↔k≤n;omega
@[simp] theorem qzf {n k:Nat}:((n:Int)<(no_index (OfNat.ofNat k):Int))↔n<k:=by
 show (n:Int)<(k:Int)↔n<k;omega
@[simp] theorem qzg {n k:Nat}:((no_index (OfNat.ofNat k):Int)<(n:Int))↔k<n:=by
 show (k:Int)<(n:Int)↔k<n;omega
@[simp] theorem qzh {n k:Nat}:((n:Int)=(no_index (OfNat.ofNat k):Int))↔n=k:=by
 show (n:Int)=(k:Int)↔n=k;omega
@[simp] theorem qzi {n k:Nat}:((no_index (OfNat.ofNat k):Int)=(n:Int))↔k=n:=by
 show (k:Int)=(n:Int)↔k=n;omega
@[simp] theorem qtv {n k:Nat}:(0≤(n:Int)+(no_index (OfNat.ofNat k):Int))↔True:=by
 show 0≤(n:Int)+(k:Int)↔True;constructor;intro _;trivial;intro _;omega
@[simp] theorem qrr {n k:Nat}:(0≤(n:Int)+(k:Int))↔True:=by constructor;intro _;trivial;intro _;omega
@[simp] theorem qzj {n k:Nat}:((n:Int)+(no_index (OfNat.ofNat k):Int)<0)↔False:=by
 show (n:Int)+(k:Int)<0↔False;constructor;intro _;omega;intro h;cases h
@[simp] theorem qxm {n k:Nat}:((n:Int)+(k:Int)<0)↔False:=by constructor;intro _;omega;intro h;cases h
@[simp] theorem toNat_add_lit {n k:Nat}:((n:Int)+(no_index (OfNat.ofNat k):Int)).toNat=n+k:=by
 show ((n:Int)+(k:Int)).toNat=n+k;omega
@[simp] theorem toNat_add_cast {n k:Nat}:((n:Int)+(k:Int)).toNat=n+k:=by omega
@[simp] theorem q2n {n k:Nat}:((n:Int)=(k:Int))↔n=k:=by omega
@[simp] theorem cast_lt' {n k:Nat}:((n:Int)<(k:Int))↔n<k:=by omega
@[simp] theorem cast_le' {n k:Nat}:((n:Int)≤(k:Int))↔n≤k:=by omega
@[simp] theorem u8_inj {n k:UInt8}:n.toNat=k.toNat↔n=k:=UInt8.toNat_inj
@[simp] theorem u8_lit {a:UInt8} {k:Nat} (h:k<256):a.toNat=(no_index (OfNat.ofNat k))↔a=UInt8.ofNat k:=by
 show a.toNat=k↔_
 constructor
 ·intro e;apply UInt8.toNat_inj.1;rw[e];simp;omega
 ·intro e;rw[e];simp;omega
@[simp] theorem u8_beq {a b:UInt8}:(a==b)=decide (a=b):=by
 by_cases h:a=b<;>simp[h]
end Go.AI
end
