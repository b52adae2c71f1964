/- Part 6 of a proof: Go functions are evaluated on abstract values; no conditions beyond those of each theorem. -/
import Derived.Test.YtjkkcelnfokplaaGreatDoorBi5
import Derived.Test.YtjkkcelnfokplaaGreatDoorProg
import Derived.KernelRfl
set_option linter.all false
set_option maxHeartbeats 16000000
set_option maxRecDepth 4000
section
namespace Go.Proofs.Tryz.Ai
open Go Go.AI Go.Proofs
attribute [simp] List.getElem?_cons_zero List.getElem?_cons_succ
def hk (vars conds steal:List Nat) (live:List (Nat×List Nat)) (roots:List (Nat×Nat):=[]) (glob sw msd:List Nat:=[]) (alt:List (Nat×Nat):=[]) (fz:Nat:=0) (gc wk rt:Bool:=false) (inv:List (Nat×FuncId):=[]) (mv:List (Nat×Nat):=[]) (ad:List Nat:=[]):Hint:={rets:=true,vars:=vars,conds:=conds,steal:=steal,live:=live,roots:=roots,glob:=glob,sw:=sw,msd:=msd,alt:=alt,fz:=fz,gc:=gc,wk:=wk,rt:=rt,inv:=inv,mv:=mv,ad:=ad}
abbrev HF (h:Hint) (vars conds steal:List Nat) (live:List (Nat×List Nat)) (roots:List (Nat×Nat):=[]) (glob sw msd:List Nat:=[]) (alt:List (Nat×Nat):=[]) (fz:Nat:=0) (gc wk rt:Bool:=false) (inv:List (Nat×FuncId):=[]) (mv:List (Nat×Nat):=[]) (ad:List Nat:=[]):Prop:=h.rets=true∧h.vars=vars∧h.conds=conds∧h.steal=steal∧h.live=live∧h.roots=roots∧h.glob=glob∧h.sw=sw∧h.msd=msd∧h.alt=alt∧h.fz=fz∧h.gc=gc∧h.wk=wk∧h.rt=rt∧h.inv=inv∧h.mv=mv∧h.ad=ad
theorem hf {h:Hint} {a b c:List Nat} {d:List (Nat×List Nat)} {e:List (Nat×Nat)} {i j k:List Nat} {l:List (Nat×Nat)} {m:Nat} {n o p:Bool} {q:List (Nat×FuncId)} {r:List (Nat×Nat)} {s:List Nat} (u:h=hk a b c d e i j k l m n o p q r s):HF h a b c d e i j k l m n o p q r s:=by subst u;and_intros<;>rfl
abbrev TF (t:TypeId) (n b:Nat) (g:Bool) (e:Option TypeId):Prop:=sizeA prog t=some n∧bytesA prog t=some b∧isAggA prog t=some g∧elemA prog t=e
def h6:Hint:=hk [0,1,2,3,4,5,6,7,8,10,11,12,13,14,15,16,17,18,19,20,21,22,23,24] [63,80,88,99,142,147,167] [30,31,34,52,58,64,65,71,72,77,78,89,100,102,108,109,115,148,153,154,159,163,168,169,171,176,177,180] [(11,[3,4,5,10,11,13,14])] (roots:=[(3,3),(17,17),(91,11),(97,4),(120,4)]) (sw:=[138,139])
@[simp] def h6f:=hf (h:=h6) rfl
def h8:Hint:=hk [0,1,2,3,4,5,7,8] [] [9,13,14,18,19,23,24,26,27,31,32,36,37,40,41,44,45] []
@[simp] def h8f:=hf (h:=h8) rfl
def h9:Hint:=hk [0,2,3,4,5,6,7,8] [12,19] [17,20,21,25,27,29,32] [(6,[2,3,4,5,6])] (glob:=[2,3,4,16]) (gc:=true)
@[simp] def h9f:=hf (h:=h9) rfl
def h11:Hint:=hk [0,1,2,3,4,5,6,7] [46,51,96,101,131,136,166] [13,20,29,38,52,102,137] [(4,[2,3,5]),(9,[2,3,6]),(14,[2,3,7])] (roots:=[(54,2),(60,3),(68,2),(74,3),(83,2),(89,3),(104,2),(110,3),(118,2),(124,3),(139,2),(145,3),(153,2),(159,3)])
@[simp] def h11f:=hf (h:=h11) rfl
def h12:Hint:=hk [0,2] [] [3] []
@[simp] def h12f:=hf (h:=h12) rfl
def h13:Hint:=hk [0,1,2,3,4,5,6,7,8] [39,44,71,98,136] [22,28,34,45,72,99,106,137,159] [(5,[1,3,4]),(9,[1,3,5]),(13,[1,3,6]),(18,[1,3,8])] (roots:=[(48,1),(57,1),(75,1),(84,1),(140,1),(149,1)])
@[simp] def h13f:=hf (h:=h13) rfl
def h14:Hint:=hk [0,1,2,3,4,5] [9,20,39] [10] [] (glob:=[5]) (gc:=true)
@[simp] def h14f:=hf (h:=h14) rfl
def h15:Hint:=hk [0,1,2] [] [] [] (roots:=[(3,1),(6,1),(9,1),(12,1),(15,1),(16,1),(17,1),(18,1)]) (sw:=[5,11,14]) (alt:=[(5,1),(11,1),(14,1)]) (fz:=1) (gc:=true)
@[simp] def h15f:=hf (h:=h15) rfl
def h17:Hint:=hk [0,1,2,3,4] [] [] [] (roots:=[(2,2),(3,3)]) (sw:=[7,8])
@[simp] def h17f:=hf (h:=h17) rfl
def h18:Hint:=hk [0,1,2,3,4,5,6] [20,51,76] [21,52,77] [(3,[1,2,3,4]),(7,[1,2,3,5]),(11,[1,2,3,6])] (roots:=[(7,1),(9,1),(12,1),(25,1),(31,1),(37,1),(56,1),(62,1),(81,1),(87,1)]) (glob:=[3]) (sw:=[3,24,46,55,71,80,96]) (msd:=[24,55,80]) (gc:=true)
@[simp] def h18f:=hf (h:=h18) rfl
def h21:Hint:=hk [0,1,2,4,5,6] [13] [16] [] (roots:=[(7,2)]) (sw:=[10,11]) (gc:=true)
@[simp] def h21f:=hf (h:=h21) rfl
def h23:Hint:=hk [0,1,2,4,5,6,7,8,9,10,50,51,52] [47,53,80] [11,16,48,75,81] [(7,[1,50,51,52])] (roots:=[(30,1),(33,1),(57,1),(61,8),(66,8),(68,1),(83,1),(86,1),(89,1)]) (sw:=[63,64]) (gc:=true)
@[simp] def h23f:=hf (h:=h23) rfl
def h29:Hint:=hk [0,1,2,3,4,5,6,7] [] [18] [] (roots:=[(2,2),(3,3),(4,4),(9,2),(12,3),(24,3),(26,2)]) (sw:=[14,15]) (gc:=true)
@[simp] def h29f:=hf (h:=h29) rfl
def h30:Hint:=hk [0,1,2,4,5,6,7] [] [16,20] [] (roots:=[(9,2)]) (sw:=[12,13]) (gc:=true)
@[simp] def h30f:=hf (h:=h30) rfl
def h32:Hint:=hk [0,1,2,4,5,6,11] [8,10] [7,11] [] (roots:=[(13,4),(15,4)]) (sw:=[0,1,2])
@[simp] def h32f:=hf (h:=h32) rfl
def h34:Hint:=hk [0,1,4,6,8,9,11] [42,47,53,98] [25,26,30,32,38,48,52,53,54,78,83,84,85,92,99,100,106,107] [] (sw:=[65]) (gc:=true)
@[simp] def h34f:=hf (h:=h34) rfl
def h35:Hint:=hk [0] [] [] [] (sw:=[39]) (gc:=true) (ad:=[39])
@[simp] def h35f:=hf (h:=h35) rfl
def h40:Hint:=hk [0,1,4,5] [10,14,25] [15] [(4,[0,1,5])]
@[simp] def h40f:=hf (h:=h40) rfl
def h41:Hint:=hk [0,1,4,5] [] [9,17] [] (msd:=[12])
@[simp] def h41f:=hf (h:=h41) rfl
def h42:Hint:=hk [0,1,2,3,9,18,19,20] [12,21] [14,18,32] [(3,[0,3,18,19,20])] (gc:=true)
@[simp] def h42f:=hf (h:=h42) rfl
def h43:Hint:=hk [0,1,2] [4] [] []
@[simp] def h43f:=hf (h:=h43) rfl
def h44:Hint:=hk [0,1,2] [5] [] []
@[simp] def h44f:=hf (h:=h44) rfl
def h45:Hint:=hk [0,1,2] [] [] []
@[simp] def h45f:=hf (h:=h45) rfl
def h46:Hint:=hk [0,1,2,3,9,18,19,20] [12,21] [14,18,32] [(3,[0,3,18,19,20])] (gc:=true)
@[simp] def h46f:=hf (h:=h46) rfl
def h47:Hint:=hk [0,1,2,3,9,18,19,20] [12,21] [14,18,32] [(3,[0,3,18,19,20])] (gc:=true)
@[simp] def h47f:=hf (h:=h47) rfl
def h48:Hint:=hk [0,1,2] [] [] [] (roots:=[(3,1),(7,1)]) (sw:=[5,9])
@[simp] def h48f:=hf (h:=h48) rfl
def h49:Hint:=hk [0,1,2,3,9,18,19,20] [12,21] [14,18,32] [(3,[0,3,18,19,20])] (gc:=true)
@[simp] def h49f:=hf (h:=h49) rfl
def h50:Hint:=hk [0,1,2] [7] [] []
@[simp] def h50f:=hf (h:=h50) rfl
def h51:Hint:=hk [0,2] [] [3] []
@[simp] def h51f:=hf (h:=h51) rfl
def h53:Hint:=hk [0,2] [] [6] []
@[simp] def h53f:=hf (h:=h53) rfl
def h54:Hint:=hk [0,2] [] [3] []
@[simp] def h54f:=hf (h:=h54) rfl
def h55:Hint:=hk [0,2] [] [6] []
@[simp] def h55f:=hf (h:=h55) rfl
def h56:Hint:=hk [0,2] [] [6] []
@[simp] def h56f:=hf (h:=h56) rfl
def h57:Hint:=hk [0,1] [] [5,7] []
@[simp] def h57f:=hf (h:=h57) rfl
def h58:Hint:=hk [0,1,2,3,4] [] [] []
@[simp] def h58f:=hf (h:=h58) rfl
def h59:Hint:=hk [0,1,4] [] [5,6] []
@[simp] def h59f:=hf (h:=h59) rfl
def h60:Hint:=hk [0,1] [] [5,7] []
@[simp] def h60f:=hf (h:=h60) rfl
def h61:Hint:=hk [0,1,2,3,4] [] [] [] (roots:=[(6,2),(9,3),(13,2),(16,3)]) (sw:=[18])
@[simp] def h61f:=hf (h:=h61) rfl
def h62:Hint:=hk [0,2,3,5,6,7,8] [9,14] [6,15,17] [(3,[3,6,7,8])]
@[simp] def h62f:=hf (h:=h62) rfl
def h63:Hint:=hk [0,1,4,5,6,7,8] [19,29,32] [9,13,14,18,22,26,27,30,33] [] (roots:=[(35,5),(37,7),(40,5),(42,7),(45,5),(47,7),(50,5),(52,7)])
@[simp] def h63f:=hf (h:=h63) rfl
def h64:Hint:=hk [0,1] [] [5,7] []
@[simp] def h64f:=hf (h:=h64) rfl
def h65:Hint:=hk [0,1,2,3,4] [] [] [] (roots:=[(5,2),(7,3),(10,2),(12,3)]) (sw:=[14])
@[simp] def h65f:=hf (h:=h65) rfl
def h70:Hint:=hk [0,1,4,5,7,8] [9,16] [17] [(2,[0,1,7,8])] (gc:=true)
@[simp] def h70f:=hf (h:=h70) rfl
def h71:Hint:=hk [0,1,2] [] [] [] (glob:=[1])
@[simp] def h71f:=hf (h:=h71) rfl
def h72:Hint:=hk [0,2,3,4,5,6,7] [] [8,9,12,13,17,19,20,21,24,28,32,33,35] []
@[simp] def h72f:=hf (h:=h72) rfl
def h73:Hint:=hk [0,2,4,5,6,7] [8,12] [5,13] [(2,[5,6,7])]
@[simp] def h73f:=hf (h:=h73) rfl
def h74:Hint:=hk [0,2,3,5,6,7,9] [12,37,62] [13,18,23,28,30,33,34,43,44,47,48,49,54,55,59,60] [] (gc:=true)
@[simp] def h74f:=hf (h:=h74) rfl
def h75:Hint:=hk [0,1,4] [5] [5,6] []
@[simp] def h75f:=hf (h:=h75) rfl
def h76:Hint:=hk [0,1,4] [] [5,6] []
@[simp] def h76f:=hf (h:=h76) rfl
def h77:Hint:=hk [0,1,2,3] [8,13,19] [9] []
@[simp] def h77f:=hf (h:=h77) rfl
def h78:Hint:=hk [0,1,2,6,7,8,9,10,11,12] [13,31] [32] [(2,[0,1,2,10,11,12])] (roots:=[(8,8)]) (sw:=[25]) (gc:=true)
@[simp] def h78f:=hf (h:=h78) rfl
def h79:Hint:=hk [0,1,2] [] [] [] (glob:=[1])
@[simp] def h79f:=hf (h:=h79) rfl
def h80:Hint:=hk [0,1,2,6,7,8,9,10,11,12] [13,31] [32] [(2,[0,1,2,10,11,12])] (roots:=[(8,8)]) (sw:=[25]) (gc:=true)
@[simp] def h80f:=hf (h:=h80) rfl
def h81:Hint:=hk [0,1,2,3] [11] [12,18] []
@[simp] def h81f:=hf (h:=h81) rfl
def h82:Hint:=hk [0,1,2] [] [] []
@[simp] def h82f:=hf (h:=h82) rfl
def h83:Hint:=hk [0,1,2,6,7,8,9,10,11,12] [13,31] [32] [(2,[0,1,2,10,11,12])] (roots:=[(8,8)]) (sw:=[25]) (gc:=true)
@[simp] def h83f:=hf (h:=h83) rfl
def h84:Hint:=hk [0,1,2] [] [] [] (roots:=[(3,1),(8,1),(14,1),(16,1)])
@[simp] def h84f:=hf (h:=h84) rfl
def h85:Hint:=hk [0,1,2] [] [] [] (glob:=[1])
@[simp] def h85f:=hf (h:=h85) rfl
def h92:Hint:=hk [0,1,4,5,7,8] [9,16] [17] [(2,[0,1,7,8])] (gc:=true)
@[simp] def h92f:=hf (h:=h92) rfl
def h93:Hint:=hk [0,1,2] [] [] [] (glob:=[1])
@[simp] def h93f:=hf (h:=h93) rfl
def h94:Hint:=hk [0,1,2,4,6,7,8] [] [10,11,12,14,15,16,21] []
@[simp] def h94f:=hf (h:=h94) rfl
def h95:Hint:=hk [0,1,2,4,5] [7] [9] []
@[simp] def h95f:=hf (h:=h95) rfl
def h96:Hint:=hk [0,1,4,5,6] [] [9,11,14] [] (alt:=[(8,1)]) (fz:=3) (gc:=true) (rt:=true) (mv:=[(10,0)])
@[simp] def h96f:=hf (h:=h96) rfl
def h112:Hint:=hk [0,1] [5] [6,10] []
@[simp] def h112f:=hf (h:=h112) rfl
def h114:Hint:=hk [0,1,4,5,6,7,8] [12,39,44,59,66,75] [21,27,33,40,47,56,69,73,79,80,84,86] [(3,[0,1,5,6]),(6,[0,1,5,6,8])] (glob:=[54,83]) (msd:=[54,83]) (fz:=2) (gc:=true)
@[simp] def h114f:=hf (h:=h114) rfl
def h115:Hint:=hk [0,1,4,5,6,7,8,14,15,16] [13,17,26,29] [14,30,36] [(5,[1,6,14,15,16])] (roots:=[(21,8)])
@[simp] def h115f:=hf (h:=h115) rfl
def h122:Hint:=hk [0,1,4,5] [] [9,12,14] [] (glob:=[10]) (msd:=[10]) (fz:=2) (gc:=true)
@[simp] def h122f:=hf (h:=h122) rfl
def h123:Hint:=hk [0,1,2,3,4] [] [] [] (roots:=[(5,2),(7,3),(10,2),(12,3)]) (sw:=[14])
@[simp] def h123f:=hf (h:=h123) rfl
def h124:Hint:=hk [0,1,2,6,7,8,9] [13,30,35,54] [15,20,24,38,45,56,57,61] [(2,[0,1,2,6,7,8]),(7,[0,1,2,6]),(9,[0,1,2,6,7,8])]
@[simp] def h124f:=hf (h:=h124) rfl
def h126:Hint:=hk [0,1,2,6,7,8,9] [13,30,35,54] [15,20,24,38,45,56,57,61] [(2,[0,1,2,6,7,8]),(7,[0,1,2,6]),(9,[0,1,2,6,7,8])]
@[simp] def h126f:=hf (h:=h126) rfl
def h127:Hint:=hk [0,2,3,4,5,6,7,8,9,10,11,12,13] [21,34,74] [17,23,24,29,30,36,42,43,49,50,51,56,57,59,60,63,64,67,68,69,76,77,78,79] []
@[simp] def h127f:=hf (h:=h127) rfl
def h128:Hint:=hk [0,1,4,5,6] [11,12,13,16,19] [11,12,13,17,18] []
@[simp] def h128f:=hf (h:=h128) rfl
def h129:Hint:=hk [0,1,4] [10] [7,11,14,18,20] []
@[simp] def h129f:=hf (h:=h129) rfl
def h130:Hint:=hk [0,1,2,6,7,8,9] [13,30,35,54] [15,20,24,38,45,56,57,61] [(2,[0,1,2,6,7,8]),(7,[0,1,2,6]),(9,[0,1,2,6,7,8])]
@[simp] def h130f:=hf (h:=h130) rfl
def h132:Hint:=hk [0,1,2,3] [] [] []
@[simp] def h132f:=hf (h:=h132) rfl
def h136:Hint:=hk [0,2] [] [5,9,10] []
@[simp] def h136f:=hf (h:=h136) rfl
def h137:Hint:=hk [0,2] [] [5,6] []
@[simp] def h137f:=hf (h:=h137) rfl
def h138:Hint:=hk [0,1,4,6,8,9,10] [11,30] [7,18,23,25] [(2,[1,8,9,10])]
@[simp] def h138f:=hf (h:=h138) rfl
def h139:Hint:=hk [0,1,2] [] [] [] (glob:=[1])
@[simp] def h139f:=hf (h:=h139) rfl
def h141:Hint:=hk [0,1,4,5] [9,16] [10] [(2,[0,1,5])] (gc:=true)
@[simp] def h141f:=hf (h:=h141) rfl
def h143:Hint:=hk [0,2,3,4,5,6,7,8] [12,36] [13,14,21,22,23,26,27,29,30,33,37,38,39,41] []
@[simp] def h143f:=hf (h:=h143) rfl
def h144:Hint:=hk [0,1,4,5] [9,17] [10,18] [(2,[0,1,5])] (gc:=true)
@[simp] def h144f:=hf (h:=h144) rfl
def h145:Hint:=hk [0,2] [] [5,6] []
@[simp] def h145f:=hf (h:=h145) rfl
def h146:Hint:=hk [0,2,4] [] [5,6,9,10] []
@[simp] def h146f:=hf (h:=h146) rfl
def h147:Hint:=hk [0,1,4,5,6,8] [] [9,10,13,14,15,18,19,20,25,26,28] []
@[simp] def h147f:=hf (h:=h147) rfl
def h148:Hint:=hk [0,1,4] [] [5,6] []
@[simp] def h148f:=hf (h:=h148) rfl
def h149:Hint:=hk [0,1,2,3] [] [] []
@[simp] def h149f:=hf (h:=h149) rfl
def h150:Hint:=hk [0,1,4] [] [5,6] []
@[simp] def h150f:=hf (h:=h150) rfl
def h151:Hint:=hk [0,1,4] [] [5,6] []
@[simp] def h151f:=hf (h:=h151) rfl
def h152:Hint:=hk [0,1,2,3] [] [] []
@[simp] def h152f:=hf (h:=h152) rfl
def h160:Hint:=hk [0,1,2,3] [] [] []
@[simp] def h160f:=hf (h:=h160) rfl
def h161:Hint:=hk [0,1,4,5,6,7] [12,19,29] [13,20,34,39,40] [(5,[0,1,5,6])] (fz:=2) (gc:=true)
@[simp] def h161f:=hf (h:=h161) rfl
def h176:Hint:=hk [0,1,4] [] [5,6] []
@[simp] def h176f:=hf (h:=h176) rfl
def h177:Hint:=hk [0,1,4] [] [6,22,23] []
@[simp] def h177f:=hf (h:=h177) rfl
def h178:Hint:=hk [0,1,4,6] [] [8,12,16,31,32] []
@[simp] def h178f:=hf (h:=h178) rfl
def h179:Hint:=hk [0,1,4,5] [] [7] [] (roots:=[(5,5),(37,5)]) (sw:=[39,50,56]) (msd:=[50]) (gc:=true) (ad:=[39])
@[simp] def h179f:=hf (h:=h179) rfl
def h180:Hint:=hk [0,1,4,5] [] [7] [] (roots:=[(5,5)]) (sw:=[43,49]) (msd:=[43])
@[simp] def h180f:=hf (h:=h180) rfl
def h181:Hint:=hk [0,1,4,5,6] [12] [7,11,12,24] [] (roots:=[(6,6)]) (sw:=[58,69,75]) (msd:=[69]) (gc:=true) (ad:=[58])
@[simp] def h181f:=hf (h:=h181) rfl
def h182:Hint:=hk [0,1,4,5,6] [12] [7,11,12,21] [] (roots:=[(6,6)]) (sw:=[57,63]) (msd:=[57])
@[simp] def h182f:=hf (h:=h182) rfl
def h184:Hint:=hk [0,1] [] [5,7] []
@[simp] def h184f:=hf (h:=h184) rfl
def h185:Hint:=hk [0,1,2,3,8,9] [14,34] [15,35] [(1,[0,1,2,3,8]),(4,[0,1,2,3,8,9])] (sw:=[32,51,52]) (gc:=true)
@[simp] def h185f:=hf (h:=h185) rfl
def h186:Hint:=hk [0,1,2,3,4,10,11,12,13,14,15,16,17,18,19,20,21,22,23,24] [28,33,50,58,80,85,103,110,140,151,171,185,199,213] [29,30,51,53,54,59,81,104,106,107,111,172,174,175,181,188,195,201,202,209,214,215,216,217,218] [(3,[0,1,4,10,11]),(9,[0,10,13]),(15,[0,2,4,14,15]),(21,[0,14,17]),(33,[0,1,2,3,4,18,19,20,21,22])] (sw:=[49,75,76,101,127,128,169]) (gc:=true)
@[simp] def h186f:=hf (h:=h186) rfl
def h188:Hint:=hk [0,1,2,3,8,9] [14,34] [15,35] [(1,[0,1,2,3,8]),(4,[0,1,2,3,8,9])] (sw:=[32,51,52]) (gc:=true)
@[simp] def h188f:=hf (h:=h188) rfl
def h189:Hint:=hk [0,1,2,3,4,10,11,12,13,14,15,16,17,18,19,20,21,22,23,24] [28,33,50,58,80,85,103,110,140,151,171,185,199,213] [29,30,51,53,54,59,81,104,106,107,111,172,174,175,181,188,195,201,202,209,214,215,216,217,218] [(3,[0,1,4,10,11]),(9,[0,10,13]),(15,[0,2,4,14,15]),(21,[0,14,17]),(33,[0,1,2,3,4,18,19,20,21,22])] (sw:=[49,75,76,101,127,128,169]) (gc:=true)
@[simp] def h189f:=hf (h:=h189) rfl
def h192:Hint:=hk [0,2,3,4,5] [18] [9,14,19,20,23] []
@[simp] def h192f:=hf (h:=h192) rfl
def h193:Hint:=hk [0,2,4,6,7,8] [9,24] [5,16,19,20] [(2,[6,7,8])] (gc:=true)
@[simp] def h193f:=hf (h:=h193) rfl
def h194:Hint:=hk [0,2] [] [4] []
@[simp] def h194f:=hf (h:=h194) rfl
def h195:Hint:=hk [0,1,2,6,7,8,9,10,11,12,13] [14,21,31,38] [23,27,28,32,34,36] [(2,[0,1,2,11,12,13])] (gc:=true)
@[simp] def h195f:=hf (h:=h195) rfl
def h196:Hint:=hk [0,1,4,5,6] [11,26,28] [13,21,22,27,29,30,31] []
@[simp] def h196f:=hf (h:=h196) rfl
def h197:Hint:=hk [0,1,2,3,8,9] [14,34] [15,35] [(1,[0,1,2,3,8]),(4,[0,1,2,3,8,9])] (sw:=[32,51,52]) (gc:=true)
@[simp] def h197f:=hf (h:=h197) rfl
def h198:Hint:=hk [0,1,2,3,4,10,11,12,13,14,15,16,17,18,19,20,21,22,23,24] [28,33,50,58,80,85,103,110,140,151,171,185,199,213] [29,30,51,53,54,59,81,104,106,107,111,172,174,175,181,188,195,201,202,209,214,215,216,217,218] [(3,[0,1,4,10,11]),(9,[0,10,13]),(15,[0,2,4,14,15]),(21,[0,14,17]),(33,[0,1,2,3,4,18,19,20,21,22])] (sw:=[49,75,76,101,127,128,169]) (gc:=true)
@[simp] def h198f:=hf (h:=h198) rfl
def h208:Hint:=hk [0,1,3] [] [6,10,14,16] []
@[simp] def h208f:=hf (h:=h208) rfl
def h209:Hint:=hk [0,2] [] [5,6] []
@[simp] def h209f:=hf (h:=h209) rfl
def h213:Hint:=hk [0,1,4,5,7,8] [9,16] [17] [(2,[0,1,7,8])] (gc:=true)
@[simp] def h213f:=hf (h:=h213) rfl
def h214:Hint:=hk [0,1,4,5,7,8] [9,16] [17] [(2,[0,1,7,8])] (gc:=true)
@[simp] def h214f:=hf (h:=h214) rfl
def h220:Hint:=hk [0,1,4,5,6,7] [12,19,29] [13,20,34,39,40] [(5,[0,1,5,6])] (fz:=2) (gc:=true)
@[simp] def h220f:=hf (h:=h220) rfl
def h222:Hint:=hk [0,1,4,5,6,7] [12,19,29] [13,20,34,39,40] [(5,[0,1,5,6])] (fz:=2) (gc:=true)
@[simp] def h222f:=hf (h:=h222) rfl
def h223:Hint:=hk [0,1,4,5,6,7] [12,19,29] [13,20,34,39,40] [(5,[0,1,5,6])] (fz:=2) (gc:=true)
@[simp] def h223f:=hf (h:=h223) rfl
def h232:Hint:=hk [0,1,2,6,7,8] [] [9,10,11,14,15,16,20] []
@[simp] def h232f:=hf (h:=h232) rfl
def h233:Hint:=hk [0,1] [] [4,5] []
@[simp] def h233f:=hf (h:=h233) rfl
def h234:Hint:=hk [0,1,3,4] [] [5] []
@[simp] def h234f:=hf (h:=h234) rfl
def h235:Hint:=hk [0,1,3,4] [] [5] []
@[simp] def h235f:=hf (h:=h235) rfl
def h236:Hint:=hk [0,1,2,6,7,8,9] [13,30,35,54] [15,20,24,38,45,56,57,61] [(2,[0,1,2,6,7,8]),(7,[0,1,2,6]),(9,[0,1,2,6,7,8])]
@[simp] def h236f:=hf (h:=h236) rfl
def h237:Hint:=hk [0,1,2,3,4,10,11] [20,23] [13,15,32,47,50,54,55,56] [(2,[0,2,4,10,11])]
@[simp] def h237f:=hf (h:=h237) rfl
def h238:Hint:=hk [0,1,2,3,4,10,11] [20,23] [13,15,32,47,50,54,55,56] [(2,[0,2,4,10,11])]
@[simp] def h238f:=hf (h:=h238) rfl
def h241:Hint:=hk [0,2] [] [5,8,9] []
@[simp] def h241f:=hf (h:=h241) rfl
def h242:Hint:=hk [0,1,2,3,4,10,11] [20,23] [13,15,32,47,50,54,55,56] [(2,[0,2,4,10,11])]
@[simp] def h242f:=hf (h:=h242) rfl
def h257:Hint:=hk [0,1,3,4,5,7,8] [9,16] [17] [(2,[0,3,7,8])] (roots:=[(3,3)])
@[simp] def h257f:=hf (h:=h257) rfl
def h258:Hint:=hk [0,1,3,4,5,7,8] [9,16] [17] [(2,[0,3,7,8])] (roots:=[(3,3)])
@[simp] def h258f:=hf (h:=h258) rfl
def h259:Hint:=hk [0,1,2,3,8,9] [14,34] [15,35] [(1,[0,1,2,3,8]),(4,[0,1,2,3,8,9])] (sw:=[32,51,52]) (gc:=true)
@[simp] def h259f:=hf (h:=h259) rfl
def h260:Hint:=hk [0,1,2,3,4,10,11,12,13,14,15,16,17,18,19,20,21,22,23,24] [28,33,50,58,80,85,103,110,140,151,171,185,199,213] [29,30,51,53,54,59,81,104,106,107,111,172,174,175,181,188,195,201,202,209,214,215,216,217,218] [(3,[0,1,4,10,11]),(9,[0,10,13]),(15,[0,2,4,14,15]),(21,[0,14,17]),(33,[0,1,2,3,4,18,19,20,21,22])] (sw:=[49,75,76,101,127,128,169]) (gc:=true)
@[simp] def h260f:=hf (h:=h260) rfl
def h261:Hint:=hk [0,1,2,3,4,10] [13] [14] [(1,[0,1,2,3,10])] (sw:=[36,37])
@[simp] def h261f:=hf (h:=h261) rfl
def h262:Hint:=hk [0,1,2,3,4,10] [13] [14] [(1,[0,1,2,3,10])] (sw:=[36,37])
@[simp] def h262f:=hf (h:=h262) rfl
def h265:Hint:=hk [0,1,2,3,4,10] [13] [14] [(1,[0,1,2,3,10])] (sw:=[36,37])
@[simp] def h265f:=hf (h:=h265) rfl
def h275:Hint:=hk [0,1,2,3,4,10,11] [20,23] [13,15,32,47,50,54,55,56] [(2,[0,2,4,10,11])]
@[simp] def h275f:=hf (h:=h275) rfl
def h285:Hint:=hk [0,1,2,3,4,10] [13] [14] [(1,[0,1,2,3,10])] (sw:=[36,37])
@[simp] def h285f:=hf (h:=h285) rfl
def h100053:Hint:=hk [0,2] [] [6] [] (glob:=[7]) (msd:=[7])
@[simp] def h100053f:=hf (h:=h100053) rfl
def h100055:Hint:=hk [0,2] [] [6] [] (glob:=[7]) (msd:=[7])
@[simp] def h100055f:=hf (h:=h100055) rfl
def h100056:Hint:=hk [0,2] [] [6] [] (glob:=[7]) (msd:=[7])
@[simp] def h100056f:=hf (h:=h100056) rfl
def h100015:Hint:=hk [0,1,2] [] [] [] (roots:=[(3,1),(6,1),(9,1),(12,1),(15,1),(16,1),(17,1),(18,1)]) (sw:=[5,8,11,14]) (alt:=[(5,1),(8,1),(11,1),(14,1)])
@[simp] def h100015f:=hf (h:=h100015) rfl
def h100054:Hint:=hk [0,2] [] [3] [] (alt:=[(4,1)])
@[simp] def h100054f:=hf (h:=h100054) rfl
def h100122:Hint:=hk [0,1,4,5] [] [9,12,14] [] (glob:=[10]) (msd:=[10])
@[simp] def h100122f:=hf (h:=h100122) rfl
def H:FuncId→Hint
 | 6=>h6
 | 8=>h8
 | 9=>h9
 | 11=>h11
 | 12=>h12
 | 13=>h13
 | 14=>h14
 | 15=>h15
 | 17=>h17
 | 18=>h18
 | 21=>h21
 | 23=>h23
 | 29=>h29
 | 30=>h30
 | 32=>h32
 | 34=>h34
 | 35=>h35
 | 40=>h40
 | 41=>h41
 | 42=>h42
 | 43=>h43
 | 44=>h44
 | 45=>h45
 | 46=>h46
 | 47=>h47
 | 48=>h48
 | 49=>h49
 | 50=>h50
 | 51=>h51
 | 53=>h53
 | 54=>h54
 | 55=>h55
 | 56=>h56
 | 57=>h57
 | 58=>h58
 | 59=>h59
 | 60=>h60
 | 61=>h61
 | 62=>h62
 | 63=>h63
 | 64=>h64
 | 65=>h65
 | 70=>h70
 | 71=>h71
 | 72=>h72
 | 73=>h73
 | 74=>h74
 | 75=>h75
 | 76=>h76
 | 77=>h77
 | 78=>h78
 | 79=>h79
 | 80=>h80
 | 81=>h81
 | 82=>h82
 | 83=>h83
 | 84=>h84
 | 85=>h85
 | 92=>h92
 | 93=>h93
 | 94=>h94
 | 95=>h95
 | 96=>h96
 | 112=>h112
 | 114=>h114
 | 115=>h115
 | 122=>h122
 | 123=>h123
 | 124=>h124
 | 126=>h126
 | 127=>h127
 | 128=>h128
 | 129=>h129
 | 130=>h130
 | 132=>h132
 | 136=>h136
 | 137=>h137
 | 138=>h138
 | 139=>h139
 | 141=>h141
 | 143=>h143
 | 144=>h144
 | 145=>h145
 | 146=>h146
 | 147=>h147
 | 148=>h148
 | 149=>h149
 | 150=>h150
 | 151=>h151
 | 152=>h152
 | 160=>h160
 | 161=>h161
 | 176=>h176
 | 177=>h177
 | 178=>h178
 | 179=>h179
 | 180=>h180
 | 181=>h181
 | 182=>h182
 | 184=>h184
 | 185=>h185
 | 186=>h186
 | 188=>h188
 | 189=>h189
 | 192=>h192
 | 193=>h193
 | 194=>h194
 | 195=>h195
 | 196=>h196
 | 197=>h197
 | 198=>h198
 | 208=>h208
 | 209=>h209
 | 213=>h213
 | 214=>h214
 | 220=>h220
 | 222=>h222
 | 223=>h223
 | 232=>h232
 | 233=>h233
 | 234=>h234
 | 235=>h235
 | 236=>h236
 | 237=>h237
 | 238=>h238
 | 241=>h241
 | 242=>h242
 | 257=>h257
 | 258=>h258
 | 259=>h259
 | 260=>h260
 | 261=>h261
 | 262=>h262
 | 265=>h265
 | 275=>h275
 | 285=>h285
 | 100053=>h100053
 | 100055=>h100055
 | 100056=>h100056
 | 100015=>h100015
 | 100054=>h100054
 | 100122=>h100122
 | _=>{}
@[simp] theorem fctk0:TF 1 1 8 false none∧zeroA prog 1=some .nilf∧TF 3 1 8 false none∧zeroA prog 3=some (.int .i64 0)∧prog.underlying 3=some (.int .i64)∧TF 4 1 1 false none∧zeroA prog 4=some (.bool false)∧prog.underlying 4=some .bool∧TF 5 1 1 false none∧zeroA prog 5=some (.int .u8 0)∧prog.underlying 5=some (.int .u8)∧TF 9 1 16 false none:=by and_intros<;>kernel_rfl
@[simp] theorem fctk12:zeroA prog 9=some (.str [])∧prog.underlying 9=some .string∧TF 20 1 16 false none∧zeroA prog 20=some .nili∧TF 23 1 24 false (some 41)∧zeroA prog 23=some (.sl .nil [])∧prog.underlying 23=some (.slice 41)∧TF 24 1 24 false (some 52)∧zeroA prog 24=some (.sl .nil [])∧prog.underlying 24=some (.slice 52)∧TF 25 1 24 false (some 54)∧zeroA prog 25=some (.sl .nil []):=by and_intros<;>kernel_rfl
@[simp] theorem fctk24:prog.underlying 25=some (.slice 54)∧TF 26 1 24 false (some 50)∧zeroA prog 26=some (.sl .nil [])∧prog.underlying 26=some (.slice 50)∧TF 28 6 128 true none∧zeroA prog 28=some (.agg [(.str []),(.str []),(.sl .nil []),(.sl .nil []),(.sl .nil []),(.sl .nil [])])∧buildPl prog 28=some (fun i=>[(0,1),(1,1),(2,1),(3,1),(4,1),(5,1)][i]?)∧TF 29 1 8 false none∧zeroA prog 29=some (.int .i64 0)∧prog.underlying 29=some (.int .i64)∧TF 32 1 24 false (some 94)∧zeroA prog 32=some (.sl .nil []):=by and_intros<;>kernel_rfl
@[simp] theorem fctk36:prog.underlying 32=some (.slice 94)∧TF 33 1 24 false (some 95)∧zeroA prog 33=some (.sl .nil [])∧prog.underlying 33=some (.slice 95)∧TF 34 1 24 false (some 96)∧zeroA prog 34=some (.sl .nil [])∧prog.underlying 34=some (.slice 96)∧TF 36 6 128 true none∧zeroA prog 36=some (.agg [(.str []),(.str []),(.sl .nil []),(.sl .nil []),(.sl .nil []),(.sl .nil [])])∧buildPl prog 36=some (fun i=>[(0,1),(1,1),(2,1),(3,1),(4,1),(5,1)][i]?)∧TF 41 3 40 true none∧zeroA prog 41=some (.agg [(.str []),(.str []),(.bool false)]):=by and_intros<;>kernel_rfl
@[simp] theorem fctk48:buildPl prog 41=some (fun i=>[(0,1),(1,1),(2,1)][i]?)∧TF 50 2 32 true none∧zeroA prog 50=some (.agg [(.str []),(.str [])])∧buildPl prog 50=some (fun i=>[(0,1),(1,1)][i]?)∧TF 52 2 32 true none∧zeroA prog 52=some (.agg [(.str []),(.str [])])∧buildPl prog 52=some (fun i=>[(0,1),(1,1)][i]?)∧TF 54 4 64 true none∧zeroA prog 54=some (.agg [(.str []),(.str []),(.str []),(.str [])])∧buildPl prog 54=some (fun i=>[(0,2),(2,2)][i]?)∧TF 81 2 16 true none∧zeroA prog 81=some (.agg [(.int .i64 0),(.int .i64 0)]):=by and_intros<;>kernel_rfl
@[simp] theorem fctk60:buildPl prog 81=some (fun i=>[(0,1),(1,1)][i]?)∧TF 82 1 8 false none∧zeroA prog 82=some .nilp∧TF 84 10 160 true none∧zeroA prog 84=some (.agg [(.str []),(.str []),(.sl .nil []),(.sl .nil []),(.sl .nil []),(.sl .nil []),(.int .i64 0),(.str []),(.bool false),(.bool false)])∧buildPl prog 84=some (fun i=>[(0,6),(6,1),(7,1),(8,1),(9,1)][i]?)∧TF 88 1 24 false (some 9)∧zeroA prog 88=some (.sl .nil [])∧prog.underlying 88=some (.slice 9)∧TF 94 3 40 true none∧zeroA prog 94=some (.agg [(.str []),(.str []),(.bool false)])∧buildPl prog 94=some (fun i=>[(0,1),(1,1),(2,1)][i]?):=by and_intros<;>kernel_rfl
@[simp] theorem fctk72:TF 95 4 64 true none∧zeroA prog 95=some (.agg [(.str []),(.str []),(.str []),(.str [])])∧buildPl prog 95=some (fun i=>[(0,2),(2,2)][i]?)∧TF 96 2 32 true none∧zeroA prog 96=some (.agg [(.str []),(.str [])])∧buildPl prog 96=some (fun i=>[(0,1),(1,1)][i]?)∧TF 98 1 8 false none∧zeroA prog 98=some .nilp∧TF 99 1 24 false (some 5)∧zeroA prog 99=some (.sl .nil [])∧prog.underlying 99=some (.slice 5)∧TF 101 2 32 true none:=by and_intros<;>kernel_rfl
@[simp] theorem fctk84:zeroA prog 101=some (.agg [.nilp,(.sl .nil [])])∧buildPl prog 101=some (fun i=>[(0,1),(1,1)][i]?)∧TF 103 1 16 false none∧zeroA prog 103=some .nili∧TF 107 1 8 false none∧zeroA prog 107=some .nilf∧TF 109 1 8 false none∧zeroA prog 109=some .nilf∧TF 112 1 8 false none∧zeroA prog 112=some .nilf∧TF 114 1 8 false none∧zeroA prog 114=some .nilf:=by and_intros<;>kernel_rfl
@[simp] theorem fctk96:TF 122 1 8 false none∧zeroA prog 122=some .nilf∧TF 123 1 8 false none∧zeroA prog 123=some .nilf∧TF 126 1 8 false none∧zeroA prog 126=some .nilf∧TF 128 1 8 false none∧zeroA prog 128=some .nilf∧TF 133 1 8 false none∧zeroA prog 133=some .nilf∧TF 141 1 8 false none∧zeroA prog 141=some .nilf:=by and_intros<;>kernel_rfl
@[simp] theorem fctk108:TF 143 1 8 false none∧zeroA prog 143=some .nilf∧TF 145 1 8 false none∧zeroA prog 145=some .nilf∧TF 146 1 8 false none∧zeroA prog 146=some .nilf∧TF 148 1 8 false none∧zeroA prog 148=some .nilf∧TF 149 1 8 false none∧zeroA prog 149=some .nilf∧TF 156 1 8 false none∧zeroA prog 156=some .nilf:=by and_intros<;>kernel_rfl
@[simp] theorem fctk120:TF 179 1 24 false (some 187)∧zeroA prog 179=some (.sl .nil [])∧prog.underlying 179=some (.slice 187)∧TF 183 1 8 false none∧zeroA prog 183=some .nilf∧TF 184 1 8 false none∧TF 187 2 24 true none∧zeroA prog 187=some (.agg [(.int .u8 0),(.str [])])∧buildPl prog 187=some (fun i=>[(0,1),(1,1)][i]?)∧TF 188 1 8 false none∧zeroA prog 188=some .nilf∧TF 193 1 8 false none:=by and_intros<;>kernel_rfl
@[simp] theorem fctk132:zeroA prog 193=some .nilf∧TF 196 1 24 false (some 3)∧zeroA prog 196=some (.sl .nil [])∧prog.underlying 196=some (.slice 3)∧TF 198 4 40 true none∧zeroA prog 198=some (.agg [(.int .i64 0),(.int .i64 0),(.int .i64 0),(.str [])])∧buildPl prog 198=some (fun i=>[(0,1),(1,1),(2,1),(3,1)][i]?)∧TF 205 1 24 false (some 29)∧zeroA prog 205=some (.sl .nil [])∧prog.underlying 205=some (.slice 29)∧TF 211 1 8 false none∧zeroA prog 211=some .nilf:=by and_intros<;>kernel_rfl
@[simp] theorem fctk144:TF 214 1 8 false none∧zeroA prog 214=some .nilf∧TF 260 1 8 false none∧zeroA prog 260=some (.int .u64 0)∧prog.underlying 260=some (.int .u64)∧fieldA prog 28 0=some (0,9)∧fieldA prog 28 1=some (1,9)∧fieldA prog 28 2=some (2,23)∧fieldA prog 28 3=some (3,24)∧fieldA prog 28 4=some (4,25)∧fieldA prog 28 5=some (5,26)∧fieldA prog 36 0=some (0,9):=by and_intros<;>kernel_rfl
@[simp] theorem fctk156:fieldA prog 36 1=some (1,9)∧fieldA prog 36 2=some (2,32)∧fieldA prog 36 3=some (3,24)∧fieldA prog 36 4=some (4,33)∧fieldA prog 36 5=some (5,34)∧fieldA prog 41 0=some (0,9)∧fieldA prog 41 1=some (1,9)∧fieldA prog 41 2=some (2,4)∧fieldA prog 50 0=some (0,9)∧fieldA prog 50 1=some (1,9)∧fieldA prog 52 0=some (0,9)∧fieldA prog 52 1=some (1,9):=by and_intros<;>kernel_rfl
@[simp] theorem fctk168:fieldA prog 54 0=some (0,52)∧fieldA prog 54 1=some (2,52)∧fieldA prog 81 0=some (0,3)∧fieldA prog 81 1=some (1,29)∧fieldA prog 84 0=some (0,28)∧fieldA prog 84 1=some (6,3)∧fieldA prog 84 2=some (7,9)∧fieldA prog 84 3=some (8,4)∧fieldA prog 84 4=some (9,4)∧fieldA prog 94 0=some (0,9)∧fieldA prog 94 1=some (1,9)∧fieldA prog 94 2=some (2,4):=by and_intros<;>kernel_rfl
@[simp] theorem fctk180:fieldA prog 95 0=some (0,52)∧fieldA prog 95 1=some (2,52)∧fieldA prog 96 0=some (0,9)∧fieldA prog 96 1=some (1,9)∧fieldA prog 101 1=some (1,99)∧fieldA prog 187 0=some (0,5)∧fieldA prog 187 1=some (1,9)∧fieldA prog 198 0=some (0,3)∧fieldA prog 198 1=some (1,3)∧fieldA prog 198 2=some (2,3)∧fieldA prog 198 3=some (3,9)∧isFuncT prog 1=true:=by and_intros<;>kernel_rfl
@[simp] theorem fctk192:isIface prog 20=true∧isIface prog 103=true∧isFuncT prog 107=true∧isFuncT prog 109=true∧isFuncT prog 112=true∧isFuncT prog 114=true∧isFuncT prog 122=true∧isFuncT prog 123=true∧isFuncT prog 126=true∧isFuncT prog 128=true∧isFuncT prog 133=true∧isFuncT prog 141=true:=by and_intros<;>kernel_rfl
@[simp] theorem fctk204:isFuncT prog 143=true∧isFuncT prog 145=true∧isFuncT prog 146=true∧isFuncT prog 148=true∧isFuncT prog 149=true∧isFuncT prog 156=true∧isFuncT prog 183=true∧isFuncT prog 188=true∧isFuncT prog 193=true∧isFuncT prog 211=true∧isFuncT prog 214=true∧eqShape prog 50=some [.str,.str]:=by and_intros<;>kernel_rfl
@[simp] theorem fctk216:eqShape prog 52=some [.str,.str]:=by and_intros<;>kernel_rfl
@[simp] theorem fctr0:H 6=h6∧H 8=h8∧H 9=h9∧H 11=h11∧H 12=h12∧H 13=h13∧H 14=h14∧H 15=h15∧H 17=h17∧H 18=h18∧H 21=h21∧H 23=h23:=by and_intros<;>rfl
@[simp] theorem fctr12:H 29=h29∧H 30=h30∧H 32=h32∧H 34=h34∧H 35=h35∧H 40=h40∧H 41=h41∧H 42=h42∧H 43=h43∧H 44=h44∧H 45=h45∧H 46=h46:=by and_intros<;>rfl
@[simp] theorem fctr24:H 47=h47∧H 48=h48∧H 49=h49∧H 50=h50∧H 51=h51∧H 53=h53∧H 54=h54∧H 55=h55∧H 56=h56∧H 57=h57∧H 58=h58∧H 59=h59:=by and_intros<;>rfl
@[simp] theorem fctr36:H 60=h60∧H 61=h61∧H 62=h62∧H 63=h63∧H 64=h64∧H 65=h65∧H 70=h70∧H 71=h71∧H 72=h72∧H 73=h73∧H 74=h74∧H 75=h75:=by and_intros<;>rfl
@[simp] theorem fctr48:H 76=h76∧H 77=h77∧H 78=h78∧H 79=h79∧H 80=h80∧H 81=h81∧H 82=h82∧H 83=h83∧H 84=h84∧H 85=h85∧H 92=h92∧H 93=h93:=by and_intros<;>rfl
@[simp] theorem fctr60:H 94=h94∧H 95=h95∧H 96=h96∧H 112=h112∧H 114=h114∧H 115=h115∧H 122=h122∧H 123=h123∧H 124=h124∧H 126=h126∧H 127=h127∧H 128=h128:=by and_intros<;>rfl
@[simp] theorem fctr72:H 129=h129∧H 130=h130∧H 132=h132∧H 136=h136∧H 137=h137∧H 138=h138∧H 139=h139∧H 141=h141∧H 143=h143∧H 144=h144∧H 145=h145∧H 146=h146:=by and_intros<;>rfl
@[simp] theorem fctr84:H 147=h147∧H 148=h148∧H 149=h149∧H 150=h150∧H 151=h151∧H 152=h152∧H 160=h160∧H 161=h161∧H 176=h176∧H 177=h177∧H 178=h178∧H 179=h179:=by and_intros<;>rfl
@[simp] theorem fctr96:H 180=h180∧H 181=h181∧H 182=h182∧H 184=h184∧H 185=h185∧H 186=h186∧H 188=h188∧H 189=h189∧H 192=h192∧H 193=h193∧H 194=h194∧H 195=h195:=by and_intros<;>rfl
@[simp] theorem fctr108:H 196=h196∧H 197=h197∧H 198=h198∧H 208=h208∧H 209=h209∧H 213=h213∧H 214=h214∧H 220=h220∧H 222=h222∧H 223=h223∧H 232=h232∧H 233=h233:=by and_intros<;>rfl
@[simp] theorem fctr120:H 234=h234∧H 235=h235∧H 236=h236∧H 237=h237∧H 238=h238∧H 241=h241∧H 242=h242∧H 257=h257∧H 258=h258∧H 259=h259∧H 260=h260∧H 261=h261:=by and_intros<;>rfl
@[simp] theorem fctr132:H 262=h262∧H 265=h265∧H 275=h275∧H 285=h285∧H 100053=h100053∧H 100055=h100055∧H 100056=h100056∧H 100015=h100015∧H 100054=h100054∧H 100122=h100122:=by and_intros<;>rfl
abbrev mS:Nat:=4000000
theorem qh {f:FuncId} {fn:Func} {c:Code} {xs:List AV} {s:List (List AV)} {r:AV×List (List AV)} {T:Table} (hf:prog.funcs[AI.base f]? = some fn) {n:Nat} (hn:fn.ntmps=n)
  (hp:Post (EXEC prog (H f) (EV prog H T) c ⟨params 0 xs,[],s⟩) fun e st=>finE prog (H f) s fn (some (e,st))=some r) (hT:T f=none:=by rfl) (hb:fn.body=some c:=by rfl) (hl:xs.length≤n:=by simp)
  (hc:codeOk (H f) fn.ntmps c=true:=by kernel_rfl) (hg:(fn.name== "runtime.NumGoroutine")=false:=by kernel_rfl) (h9:f<900000:=by decide):EV prog H T f xs s=some r:=qac hT hf hb (hn▸hl) hc hg hp h9
theorem wr1 (i:Nat) (h:(i:Int)+1≤9223372036854775807):IntKind.i64.wrap ((i:Int)+1)=(i:Int)+1:=ql (by omega)
theorem getS {α:Type} {l:List α} {i:Nat} (h:i<l.length):∃x,l[i]? = some x:=⟨_,List.getElem?_eq_getElem h⟩
end Go.Proofs.Tryz.Ai
end
section
namespace Go.Proofs.Tryz.Ai
open Go Go.AI Go.RowKit Go.Proofs
noncomputable def T:Table
 | 121=>some copyCheckT
 | 52=>some stringT
 | 224=>some indexT
 | 125=>some compareT
 | 264=>some countT
 | 135=>some itoaT
 | 168=>some indexST
 | 134=>some atoiT
 | 142=>some lastIndexT
 | 33=>some cutT
 | 191=>some splitT
 | 133=>some cutPrefixT
 | 190=>some hasPrefixT
 | 140=>some containsT
 | 113=>some trimT
 | 116=>some statementsT
 | 9=>some fun _ _=>none
 | _=>none
theorem qex:AI.Enters prog 121:=⟨_,func121,by kernel_rfl,by kernel_rfl⟩
theorem qie:AI.Enters prog 52:=⟨_,func52,by kernel_rfl,by kernel_rfl⟩
theorem qjy:AI.Enters prog 224:=⟨_,func224,by kernel_rfl,by kernel_rfl⟩
theorem qgs:AI.Enters prog 125:=⟨_,func125,by kernel_rfl,by kernel_rfl⟩
theorem qjz:AI.Enters prog 264:=⟨_,func264,by kernel_rfl,by kernel_rfl⟩
theorem qk5:AI.Enters prog 135:=⟨_,func135,by kernel_rfl,by kernel_rfl⟩
theorem T_ok {W0:World} (hl:LaidAll W0):TableOk prog W0.heap.size W0 T:=by
 intro f p hf xs s r s' e
 unfold T at hf
 split at hf
 ·injection hf with hf;subst hf;exact⟨qex,qjv e⟩
 ·injection hf with hf;subst hf;exact⟨qie,qp3 e⟩
 ·injection hf with hf;subst hf;exact⟨qjy,qt2 e⟩
 ·injection hf with hf;subst hf;exact⟨qgs,qnh e⟩
 ·injection hf with hf;subst hf;exact⟨qjz,qt3 e⟩
 ·injection hf with hf;subst hf;exact⟨qk5,qxq hl.tab e⟩
 ·injection hf with hf;subst hf;exact⟨⟨_,func168,by kernel_rfl,by kernel_rfl⟩,qp6 hl e⟩
 ·injection hf with hf;subst hf;exact⟨⟨_,func134,by kernel_rfl,by kernel_rfl⟩,qxr hl e⟩
 ·injection hf with hf;subst hf;exact⟨⟨_,func142,by kernel_rfl,by kernel_rfl⟩,qjw e⟩
 ·injection hf with hf;subst hf;exact⟨⟨_,func33,by kernel_rfl,by kernel_rfl⟩,q0r hl e⟩
 ·injection hf with hf;subst hf;exact⟨⟨_,func191,by kernel_rfl,by kernel_rfl⟩,qt5 hl e⟩
 ·injection hf with hf;subst hf;exact⟨⟨_,func133,by kernel_rfl,by kernel_rfl⟩,qjx e⟩
 ·injection hf with hf;subst hf;exact⟨⟨_,func190,by kernel_rfl,by kernel_rfl⟩,hasPrefix_ok e⟩
 ·injection hf with hf;subst hf;exact⟨⟨_,func140,by kernel_rfl,by kernel_rfl⟩,qk3 hl e⟩
 ·injection hf with hf;subst hf;exact⟨⟨_,func113,by kernel_rfl,by kernel_rfl⟩,trim_ok e⟩
 ·injection hf with hf;subst hf;exact⟨⟨_,func116,by kernel_rfl,by kernel_rfl⟩,qid e⟩
 ·injection hf with hf;subst hf;cases e
 ·cases hf
noncomputable abbrev ev:Oracle:=EV prog H T
theorem qif (xs:List AV) (s:List (List AV)):ev 116 xs s=statementsT xs s:=qaj rfl xs s
theorem qet (xs:List AV) (s:List (List AV)):ev 121 xs s=copyCheckT xs s:=qaj rfl xs s
theorem qp7 (xs:List AV) (s:List (List AV)):ev 52 xs s=stringT xs s:=qaj rfl xs s
theorem qt6 (xs:List AV) (s:List (List AV)):ev 224 xs s=indexT xs s:=qaj rfl xs s
theorem qnj (xs:List AV) (s:List (List AV)):ev 125 xs s=compareT xs s:=qaj rfl xs s
theorem qxs (xs:List AV) (s:List (List AV)):ev 135 xs s=itoaT xs s:=qaj rfl xs s
theorem qp8 (xs:List AV) (s:List (List AV)):ev 134 xs s=atoiT xs s:=qaj rfl xs s
theorem qj0 (xs:List AV) (s:List (List AV)):ev 142 xs s=lastIndexT xs s:=qaj rfl xs s
theorem ql8 (xs:List AV) (s:List (List AV)):ev 33 xs s=cutT xs s:=qaj rfl xs s
theorem qt7 (xs:List AV) (s:List (List AV)):ev 191 xs s=splitT xs s:=qaj rfl xs s
theorem qj1 (xs:List AV) (s:List (List AV)):ev 133 xs s=cutPrefixT xs s:=qaj rfl xs s
theorem qj2 (xs:List AV) (s:List (List AV)):ev 190 xs s=hasPrefixT xs s:=qaj rfl xs s
theorem qk6 (xs:List AV) (s:List (List AV)):ev 140 xs s=containsT xs s:=qaj rfl xs s
theorem qxt (xs:List AV) (s:List (List AV)):ev 113 xs s=trimT xs s:=qaj rfl xs s
end Go.Proofs.Tryz.Ai
end
section
namespace Go.Proofs.Tryz.Ai
open Go Go.AI Go.Proofs
def bc (b:Nat):Option (List UInt8)→List AV
 | none=>[.nilp,.sl .nil []]
 | some l=>[.gp b 0 (some (SB,2)),.sl (.ex U8 1) (l.map .u8)]
def bs (b:Nat):Option (List UInt8)→List AV
 | none=>[.nilp,.sl .nil []]
 | some l=>[.gp b 0 (some (SB,2)),.sl .sh (l.map .u8)]
def txt (o:Option (List UInt8)):List UInt8:=o.getD []
@[simp] theorem txt_some (l:List UInt8):txt (some l)=l:=rfl
@[simp] theorem txt_none:txt none=[]:=rfl
@[simp] theorem qig (b:Nat) (o:Option (List UInt8)) (n:Nat):lowL n (bc b o)↔o=none∨b<n:=by cases o<;>simp[bc]
@[simp] theorem bs_lowL (b:Nat) (o:Option (List UInt8)) (n:Nat):lowL n (bs b o)↔o=none∨b<n:=by cases o<;>simp[bs]
theorem qy (b:Nat) (σ:List (List AV)) (o:Option (List UInt8)) (m:List UInt8) (hl:(txt o).length+m.length≤most) (hb:σ[b]? = some (bc b o)) :
  ev 41 [.gp b 0 (some (SB,2)),.str m] σ=some (.tup [.int .i64 m.length,.nili],σ.set b (bc b (some (txt o++m)))):=by
 have hlt:b<σ.length:=(List.getElem?_eq_some_iff.1 hb).1
 have h1:m.length≤most:=by omega
 refine qh func41 ntmps41 ?_
 cases o with
 | none =>
  simp only[bc,txt_none] at hb hl ⊢
  simp (maxSteps:=mS) (disch:=omega) [dT,dF,ql,-getElem?_pos,List.getElem?_cons_zero,List.getElem?_cons_succ,List.getElem?_set,qet,copyCheckT,hb,hlt,results41,h1,SB,U8]
 | some l =>
  simp only[bc,txt_some] at hb hl ⊢
  simp (maxSteps:=mS) (disch:=omega) [dT,dF,ql,-getElem?_pos,List.getElem?_cons_zero,List.getElem?_cons_succ,List.getElem?_set,qet,copyCheckT,hb,hlt,results41,hl,SB,U8]
theorem qdj (σ τ:List (List AV)) (o:Option (List UInt8)) (m:List UInt8) (hl:(txt o).length+m.length≤most) :
  ev 41 [.gp σ.length 0 (some (SB,2)),.str m] (σ++bc σ.length o::τ)=some (.tup [.int .i64 m.length,.nili],σ++bc σ.length (some (txt o++m))::τ):=by
 have:=qy σ.length (σ++bc σ.length o::τ) o m hl (by simp)
 rw[this];simp
theorem qk7 (l:List UInt8):bytesOf (l.map .u8)=some l:=by
 induction l with
 | nil=>rfl
 | cons x r ih=>simp only[List.map_cons,AV.u8] at ih ⊢;unfold bytesOf;simp[ih]
theorem qt8 (b:Nat) (σ:List (List AV)) (o:Option (List UInt8)) (hb:σ[b]? = some (bc b o)) :
  ev 52 [.gp b 0 (some (SB,2))] σ=some (.str (txt o),σ.set b (bs b o)):=by
 show ev 52 _ _=_
 rw[qp7]
 cases o with
 | none =>
  simp only[bc,bs,txt_none] at hb ⊢
  have:σ.set b [AV.nilp,.sl .nil []]=σ:=by
   apply List.ext_getElem?;intro i;rw[List.getElem?_set]
   split
   ·rename_i e;subst e;rw[hb];simp[(List.getElem?_eq_some_iff.1 hb).1]
   ·rfl
  rw[this]
  simp[-getElem?_pos,stringT,hb]
 | some l =>
  simp only[bc,bs,txt_some] at hb ⊢
  simp[-getElem?_pos,-AV.u8,stringT,hb,qk7,bnd]
end Go.Proofs.Tryz.Ai
end
section
namespace Go.Proofs.Tryz.Ai
open Go Go.AI Go.Proofs
theorem HasPrefix_eq (a b:List UInt8) (σ):ev 190 [.str a,.str b] σ=some (.bool (b.isPrefixOf a),σ):=by
 rw[qj2];rfl
end Go.Proofs.Tryz.Ai
end
section
namespace Go.AI
@[simp] theorem qxu {n k:Nat}:((n:Int)≤(no_index (OfNat.ofNat k):Int))↔n≤k:=by
 show (n:Int)≤(k:Int)↔n≤k;omega
@[simp] theorem qxv {n k:Nat}:((no_index (OfNat.ofNat k):Int)≤(n:Int))↔k≤n:=by
 show (k:Int)≤(n:Int)↔k≤n;omega
@[simp] theorem qxw {n k:Nat}:((n:Int)<(no_index (OfNat.ofNat k):Int))↔n<k:=by
 show (n:Int)<(k:Int)↔n<k;omega
@[simp] theorem qxx {n k:Nat}:((no_index (OfNat.ofNat k):Int)<(n:Int))↔k<n:=by
 show (k:Int)<(n:Int)↔k<n;omega
@[simp] theorem qxy {n k:Nat}:((n:Int)=(no_index (OfNat.ofNat k):Int))↔n=k:=by
 show (n:Int)=(k:Int)↔n=k;omega
@[simp] theorem qxz {n k:Nat}:((no_index (OfNat.ofNat k):Int)=(n:Int))↔k=n:=by
 show (k:Int)=(n:Int)↔k=n;omega
@[simp] theorem qsa {n k:Nat}:(0≤(n:Int)+(no_index (OfNat.ofNat k):Int))↔True:=by
 show 0≤(n:Int)+(k:Int)↔True;constructor;intro _;trivial;intro _;omega
@[simp] theorem qp9 {n k:Nat}:(0≤(n:Int)+(k:Int))↔True:=by constructor;intro _;trivial;intro _;omega
@[simp] theorem qx0 {n k:Nat}:((n:Int)+(no_index (OfNat.ofNat k):Int)<0)↔False:=by
 show (n:Int)+(k:Int)<0↔False;constructor;intro _;omega;intro h;cases h
@[simp] theorem qv5 {n k:Nat}:((n:Int)+(k:Int)<0)↔False:=by constructor;intro _;omega;intro h;cases h
@[simp] theorem toNat_add_lit {n k:Nat}:((n:Int)+(no_index (OfNat.ofNat k):Int)).toNat=n+k:=by
 show ((n:Int)+(k:Int)).toNat=n+k;omega
@[simp] theorem toNat_add_cast {n k:Nat}:((n:Int)+(k:Int)).toNat=n+k:=by omega
@[simp] theorem q0s {n k:Nat}:((n:Int)=(k:Int))↔n=k:=by omega
@[simp] theorem cast_lt' {n k:Nat}:((n:Int)<(k:Int))↔n<k:=by omega
@[simp] theorem cast_le' {n k:Nat}:((n:Int)≤(k:Int))↔n≤k:=by omega
@[simp] theorem u8_inj {n k:UInt8}:n.toNat=k.toNat↔n=k:=UInt8.toNat_inj
@[simp] theorem u8_lit {a:UInt8} {k:Nat} (h:k<256):a.toNat=(no_index (OfNat.ofNat k))↔a=UInt8.ofNat k:=by
 show a.toNat=k↔_
 constructor
 ·intro e;apply UInt8.toNat_inj.1;rw[e];simp;omega
 ·intro e;rw[e];simp;omega
@[simp] theorem u8_beq {a b:UInt8}:(a==b)=decide (a=b):=by
 by_cases h:a=b<;>simp[h]
end Go.AI
end
