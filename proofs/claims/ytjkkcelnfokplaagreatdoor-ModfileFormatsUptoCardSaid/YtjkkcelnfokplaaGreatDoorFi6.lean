/- Part 6 of a proof: Go functions are evaluated on abstract values; no conditions beyond those of each theorem. -/
import Derived.Test.YtjkkcelnfokplaaGreatDoorFi5
import Derived.Test.YtjkkcelnfokplaaGreatDoorProg
import Derived.KernelRfl
set_option linter.all false
set_option maxHeartbeats 16000000
set_option maxRecDepth 4000
section
namespace Go.Proofs.Tryz.Ai
open Go Go.AI Go.Proofs
attribute [simp] List.getElem?_cons_zero List.getElem?_cons_succ
def hk (vars conds steal:List Nat) (live:List (Nat×List Nat)) (roots:List (Nat×Nat):=[]) (glob sw msd:List Nat:=[]) (alt:List (Nat×Nat):=[]) (fz:Nat:=0) (gc wk rt:Bool:=false) (inv:List (Nat×FuncId):=[]) (mv:List (Nat×Nat):=[]) (ad:List Nat:=[]):Hint:={rets:=true,vars:=vars,conds:=conds,steal:=steal,live:=live,roots:=roots,glob:=glob,sw:=sw,msd:=msd,alt:=alt,fz:=fz,gc:=gc,wk:=wk,rt:=rt,inv:=inv,mv:=mv,ad:=ad}
abbrev HF (h:Hint) (vars conds steal:List Nat) (live:List (Nat×List Nat)) (roots:List (Nat×Nat):=[]) (glob sw msd:List Nat:=[]) (alt:List (Nat×Nat):=[]) (fz:Nat:=0) (gc wk rt:Bool:=false) (inv:List (Nat×FuncId):=[]) (mv:List (Nat×Nat):=[]) (ad:List Nat:=[]):Prop:=h.rets=true∧h.vars=vars∧h.conds=conds∧h.steal=steal∧h.live=live∧h.roots=roots∧h.glob=glob∧h.sw=sw∧h.msd=msd∧h.alt=alt∧h.fz=fz∧h.gc=gc∧h.wk=wk∧h.rt=rt∧h.inv=inv∧h.mv=mv∧h.ad=ad
theorem hf {h:Hint} {a b c:List Nat} {d:List (Nat×List Nat)} {e:List (Nat×Nat)} {i j k:List Nat} {l:List (Nat×Nat)} {m:Nat} {n o p:Bool} {q:List (Nat×FuncId)} {r:List (Nat×Nat)} {s:List Nat} (u:h=hk a b c d e i j k l m n o p q r s):HF h a b c d e i j k l m n o p q r s:=by subst u;and_intros<;>rfl
abbrev TF (t:TypeId) (n b:Nat) (g:Bool) (e:Option TypeId):Prop:=sizeA prog t=some n∧bytesA prog t=some b∧isAggA prog t=some g∧elemA prog t=e
def h5:Hint:=hk [0,1,2,3,4,5,6,7,8,9,10,11,12,13,14,15,16,17,18,19,20] [41,65,77] [26,27,30,36,42,45,49,50,54,66,78,88,94,95,101] [(11,[2,3,7,8,9,10,11,12,13,14]),(15,[2,3,7,8,9,10,11,12,13,15])] (roots:=[(2,2),(3,3),(7,7),(12,12)]) (sw:=[59,60]) (alt:=[(56,1),(60,9)]) (gc:=true)
@[simp] def h5f:=hf (h:=h5) rfl
def h8:Hint:=hk [0,1,2,3,4,5,7,8] [] [9,13,14,18,19,23,24,26,27,31,32,36,37,40,41,44,45] []
@[simp] def h8f:=hf (h:=h8) rfl
def h9:Hint:=hk [0,2,3,4,5,6,7,8] [12,19] [17,20,21,25,27,29,32] [(6,[2,3,4,5,6])] (glob:=[2,3,4,16]) (gc:=true)
@[simp] def h9f:=hf (h:=h9) rfl
def h11:Hint:=hk [0,1,2,3,4,5,6,7] [46,51,96,101,131,136,166] [13,20,29,38,52,102,137] [(4,[2,3,5]),(9,[2,3,6]),(14,[2,3,7])] (roots:=[(54,2),(60,3),(68,2),(74,3),(83,2),(89,3),(104,2),(110,3),(118,2),(124,3),(139,2),(145,3),(153,2),(159,3)])
@[simp] def h11f:=hf (h:=h11) rfl
def h12:Hint:=hk [0,2] [] [3] []
@[simp] def h12f:=hf (h:=h12) rfl
def h13:Hint:=hk [0,1,2,3,4,5,6,7,8] [39,44,71,98,136] [22,28,34,45,72,99,106,137,159] [(5,[1,3,4]),(9,[1,3,5]),(13,[1,3,6]),(18,[1,3,8])] (roots:=[(48,1),(57,1),(75,1),(84,1),(140,1),(149,1)])
@[simp] def h13f:=hf (h:=h13) rfl
def h14:Hint:=hk [0,1,2,3,4,5] [9,20,39] [10] [] (glob:=[5]) (gc:=true)
@[simp] def h14f:=hf (h:=h14) rfl
def h15:Hint:=hk [0,1,2] [] [] [] (roots:=[(3,1),(6,1),(9,1),(12,1),(15,1),(16,1),(17,1),(18,1)]) (sw:=[5,11,14]) (alt:=[(5,1),(11,1),(14,1)]) (fz:=1) (gc:=true)
@[simp] def h15f:=hf (h:=h15) rfl
def h18:Hint:=hk [0,1,2,3,4,5,6] [20,51,76] [21,52,77] [(3,[1,2,3,4]),(7,[1,2,3,5]),(11,[1,2,3,6])] (roots:=[(7,1),(9,1),(12,1),(25,1),(31,1),(37,1),(56,1),(62,1),(81,1),(87,1)]) (glob:=[3]) (sw:=[3,24,46,55,71,80,96]) (msd:=[24,55,80]) (gc:=true)
@[simp] def h18f:=hf (h:=h18) rfl
def h19:Hint:=hk [0,1,2,3,4,5,6,7,8,9,10,11,12,13,14,15,16,17,18] [22,32,43,65,76,100,114,139,159,181] [23,33,44,66,68,69,77,79,101,115,121,122,140,162,163,166,167,170,173,176,182] [(10,[1,5,6,7,8,9,10]),(17,[1,5,6,7,8,9,12]),(21,[1,5,6,7,8,9,13]),(29,[1,5,6,7,8,9,16])] (roots:=[(46,1),(53,1),(80,1),(87,1)])
@[simp] def h19f:=hf (h:=h19) rfl
def h20:Hint:=hk [0,1,2,3,4,5,6,7,8,9,10,11,12] [22,45,77,100,128,149] [23,46,54,62,65,78,101,109,117,120,129,150,158,166,169] [(3,[1,2,3,4]),(6,[1,2,3,4,5]),(13,[1,2,3,7]),(16,[1,2,3,7,8]),(22,[1,2,3,10]),(25,[1,2,3,10,11])] (roots:=[(31,1),(37,3),(86,1),(92,3),(137,1),(142,3)]) (sw:=[99,148])
@[simp] def h20f:=hf (h:=h20) rfl
def h21:Hint:=hk [0,1,2,4,5,6] [13] [16] [] (roots:=[(7,2)]) (sw:=[10,11]) (gc:=true)
@[simp] def h21f:=hf (h:=h21) rfl
def h22:Hint:=hk [0,1,2,4,5,6] [11,21] [12,24] [(2,[1,2,6])]
@[simp] def h22f:=hf (h:=h22) rfl
def h23:Hint:=hk [0,1,2,4,5,6,7,8,9,10,50,51,52] [47,53,80] [11,16,48,75,81] [(7,[1,50,51,52])] (roots:=[(30,1),(33,1),(57,1),(61,8),(66,8),(68,1),(83,1),(86,1),(89,1)]) (sw:=[63,64]) (gc:=true)
@[simp] def h23f:=hf (h:=h23) rfl
def h24:Hint:=hk [0,1,2,3,4,5,6,7,8] [13,23,49,54,79,81,87,101,107,121,127,141] [14,18,29,36,43,47,55,82,88,102,108,122,128,142] [(10,[1,5]),(18,[1,6]),(24,[1,7]),(30,[1,8])] (roots:=[(57,1),(61,1),(70,1),(76,1),(90,1),(94,1),(110,1),(114,1),(130,1),(134,1)]) (sw:=[66,99,119,139])
@[simp] def h24f:=hf (h:=h24) rfl
def h25:Hint:=hk [0,1,2,3,4] [] [5,10,11,12,13] []
@[simp] def h25f:=hf (h:=h25) rfl
def h26:Hint:=hk [0,1,2] [] [] []
@[simp] def h26f:=hf (h:=h26) rfl
def h27:Hint:=hk [0,1,2,3,4,6,7,12,13,14] [15,24] [27] [(2,[2,3,4,12,13,14])] (roots:=[(6,6),(18,2)]) (sw:=[21,22]) (gc:=true)
@[simp] def h27f:=hf (h:=h27) rfl
def h28:Hint:=hk [0,1,2,3,4,5,6] [11,21,32,44] [12,24,33,47] [(2,[2,3,4,5]),(7,[2,3,4,6])] (roots:=[(3,3),(14,2),(35,2),(41,3)])
@[simp] def h28f:=hf (h:=h28) rfl
def h32:Hint:=hk [0,1,2,4,5,6,11] [8,10] [7,11] [] (roots:=[(13,4),(15,4)]) (sw:=[0,1,2])
@[simp] def h32f:=hf (h:=h32) rfl
def h34:Hint:=hk [0,1,4,6,8,9,11] [42,47,53,98] [25,26,30,32,38,48,52,53,54,78,83,84,85,92,99,100,106,107] [] (sw:=[65]) (gc:=true)
@[simp] def h34f:=hf (h:=h34) rfl
def h35:Hint:=hk [0] [] [] [] (sw:=[39]) (gc:=true) (ad:=[39])
@[simp] def h35f:=hf (h:=h35) rfl
def h36:Hint:=hk [0,1,4,5,6,7] [11,24] [12,18,25,27,34] [(4,[0,1,5,6,7])]
@[simp] def h36f:=hf (h:=h36) rfl
def h40:Hint:=hk [0,1,4,5] [10,14,25] [15] [(4,[0,1,5])]
@[simp] def h40f:=hf (h:=h40) rfl
def h41:Hint:=hk [0,1,4,5] [] [9,17] [] (msd:=[12])
@[simp] def h41f:=hf (h:=h41) rfl
def h42:Hint:=hk [0,1,2,3,9,18,19,20] [12,21] [14,18,32] [(3,[0,3,18,19,20])] (gc:=true)
@[simp] def h42f:=hf (h:=h42) rfl
def h43:Hint:=hk [0,1,2] [4] [] []
@[simp] def h43f:=hf (h:=h43) rfl
def h44:Hint:=hk [0,1,2] [5] [] []
@[simp] def h44f:=hf (h:=h44) rfl
def h45:Hint:=hk [0,1,2] [] [] []
@[simp] def h45f:=hf (h:=h45) rfl
def h46:Hint:=hk [0,1,2,3,9,18,19,20] [12,21] [14,18,32] [(3,[0,3,18,19,20])] (gc:=true)
@[simp] def h46f:=hf (h:=h46) rfl
def h47:Hint:=hk [0,1,2,3,9,18,19,20] [12,21] [14,18,32] [(3,[0,3,18,19,20])] (gc:=true)
@[simp] def h47f:=hf (h:=h47) rfl
def h48:Hint:=hk [0,1,2] [] [] [] (roots:=[(3,1),(7,1)]) (sw:=[5,9])
@[simp] def h48f:=hf (h:=h48) rfl
def h49:Hint:=hk [0,1,2,3,9,18,19,20] [12,21] [14,18,32] [(3,[0,3,18,19,20])] (gc:=true)
@[simp] def h49f:=hf (h:=h49) rfl
def h50:Hint:=hk [0,1,2] [7] [] []
@[simp] def h50f:=hf (h:=h50) rfl
def h51:Hint:=hk [0,2] [] [3] []
@[simp] def h51f:=hf (h:=h51) rfl
def h53:Hint:=hk [0,2] [] [6] []
@[simp] def h53f:=hf (h:=h53) rfl
def h54:Hint:=hk [0,2] [] [3] []
@[simp] def h54f:=hf (h:=h54) rfl
def h55:Hint:=hk [0,2] [] [6] []
@[simp] def h55f:=hf (h:=h55) rfl
def h56:Hint:=hk [0,2] [] [6] []
@[simp] def h56f:=hf (h:=h56) rfl
def h57:Hint:=hk [0,1] [] [5,7] []
@[simp] def h57f:=hf (h:=h57) rfl
def h58:Hint:=hk [0,1,2,3,4] [] [] []
@[simp] def h58f:=hf (h:=h58) rfl
def h59:Hint:=hk [0,1,4] [] [5,6] []
@[simp] def h59f:=hf (h:=h59) rfl
def h60:Hint:=hk [0,1] [] [5,7] []
@[simp] def h60f:=hf (h:=h60) rfl
def h61:Hint:=hk [0,1,2,3,4] [] [] [] (roots:=[(6,2),(9,3),(13,2),(16,3)]) (sw:=[18])
@[simp] def h61f:=hf (h:=h61) rfl
def h62:Hint:=hk [0,2,3,5,6,7,8] [9,14] [6,15,17] [(3,[3,6,7,8])]
@[simp] def h62f:=hf (h:=h62) rfl
def h63:Hint:=hk [0,1,4,5,6,7,8] [19,29,32] [9,13,14,18,22,26,27,30,33] [] (roots:=[(35,5),(37,7),(40,5),(42,7),(45,5),(47,7),(50,5),(52,7)])
@[simp] def h63f:=hf (h:=h63) rfl
def h64:Hint:=hk [0,1] [] [5,7] []
@[simp] def h64f:=hf (h:=h64) rfl
def h65:Hint:=hk [0,1,2,3,4] [] [] [] (roots:=[(5,2),(7,3),(10,2),(12,3)]) (sw:=[14])
@[simp] def h65f:=hf (h:=h65) rfl
def h66:Hint:=hk [0,1,4,5,6] [9,16] [10,17,19,27] [(5,[1,5,6])]
@[simp] def h66f:=hf (h:=h66) rfl
def h67:Hint:=hk [0,2,3,4,5,6] [10,28] [11,29,36,43,44,45,48] [(3,[0,3,4]),(6,[0,3,4,5])] (sw:=[27])
@[simp] def h67f:=hf (h:=h67) rfl
def h68:Hint:=hk [0,1,2,3,4] [9] [] []
@[simp] def h68f:=hf (h:=h68) rfl
def h69:Hint:=hk [0,1,2,3,4,5] [] [13,14,16] []
@[simp] def h69f:=hf (h:=h69) rfl
def h70:Hint:=hk [0,1,4,5,7,8] [9,16] [17] [(2,[0,1,7,8])] (gc:=true)
@[simp] def h70f:=hf (h:=h70) rfl
def h71:Hint:=hk [0,1,2] [] [] [] (glob:=[1])
@[simp] def h71f:=hf (h:=h71) rfl
def h72:Hint:=hk [0,2,3,4,5,6,7] [] [8,9,12,13,17,19,20,21,24,28,32,33,35] []
@[simp] def h72f:=hf (h:=h72) rfl
def h73:Hint:=hk [0,2,4,5,6,7] [8,12] [5,13] [(2,[5,6,7])]
@[simp] def h73f:=hf (h:=h73) rfl
def h74:Hint:=hk [0,2,3,5,6,7,9] [12,37,62] [13,18,23,28,30,33,34,43,44,47,48,49,54,55,59,60] [] (gc:=true)
@[simp] def h74f:=hf (h:=h74) rfl
def h75:Hint:=hk [0,1,4] [5] [5,6] []
@[simp] def h75f:=hf (h:=h75) rfl
def h76:Hint:=hk [0,1,4] [] [5,6] []
@[simp] def h76f:=hf (h:=h76) rfl
def h77:Hint:=hk [0,1,2,3] [8,13,19] [9] []
@[simp] def h77f:=hf (h:=h77) rfl
def h78:Hint:=hk [0,1,2,6,7,8,9,10,11,12] [13,31] [32] [(2,[0,1,2,10,11,12])] (roots:=[(8,8)]) (sw:=[25]) (gc:=true)
@[simp] def h78f:=hf (h:=h78) rfl
def h79:Hint:=hk [0,1,2] [] [] [] (glob:=[1])
@[simp] def h79f:=hf (h:=h79) rfl
def h80:Hint:=hk [0,1,2,6,7,8,9,10,11,12] [13,31] [32] [(2,[0,1,2,10,11,12])] (roots:=[(8,8)]) (sw:=[25]) (gc:=true)
@[simp] def h80f:=hf (h:=h80) rfl
def h81:Hint:=hk [0,1,2,3] [11] [12,18] []
@[simp] def h81f:=hf (h:=h81) rfl
def h82:Hint:=hk [0,1,2] [] [] []
@[simp] def h82f:=hf (h:=h82) rfl
def h83:Hint:=hk [0,1,2,6,7,8,9,10,11,12] [13,31] [32] [(2,[0,1,2,10,11,12])] (roots:=[(8,8)]) (sw:=[25]) (gc:=true)
@[simp] def h83f:=hf (h:=h83) rfl
def h84:Hint:=hk [0,1,2] [] [] [] (roots:=[(3,1),(8,1),(14,1),(16,1)])
@[simp] def h84f:=hf (h:=h84) rfl
def h85:Hint:=hk [0,1,2] [] [] [] (glob:=[1])
@[simp] def h85f:=hf (h:=h85) rfl
def h86:Hint:=hk [0,2,3,4,5,6,8] [11,17,26,31,59] [12,18,25,38,42,43,46,51,52,56,57] [(5,[3,4])]
@[simp] def h86f:=hf (h:=h86) rfl
def h87:Hint:=hk [0,2,3,4] [12,28] [8,13,14,18,19,21,25,29] []
@[simp] def h87f:=hf (h:=h87) rfl
def h88:Hint:=hk [0,1,3,4,5,6] [14,19,29] [15,20] [(5,[0,3,6])] (roots:=[(27,3)])
@[simp] def h88f:=hf (h:=h88) rfl
def h89:Hint:=hk [0,1,3,4,5,6] [10,15,23] [11,16] [(5,[0,3,6])] (roots:=[(3,3)])
@[simp] def h89f:=hf (h:=h89) rfl
def h90:Hint:=hk [0,1,3,4,5,6] [18,23,28,33,43] [13,29,34] [(9,[0,3,6])] (roots:=[(41,3)])
@[simp] def h90f:=hf (h:=h90) rfl
def h91:Hint:=hk [0,1,3,4,5] [15,21,25,33] [10,26] [(6,[0,3,5])] (roots:=[(3,3)])
@[simp] def h91f:=hf (h:=h91) rfl
def h92:Hint:=hk [0,1,4,5,7,8] [9,16] [17] [(2,[0,1,7,8])] (gc:=true)
@[simp] def h92f:=hf (h:=h92) rfl
def h93:Hint:=hk [0,1,2] [] [] [] (glob:=[1])
@[simp] def h93f:=hf (h:=h93) rfl
def h112:Hint:=hk [0,1] [5] [6,10] []
@[simp] def h112f:=hf (h:=h112) rfl
def h114:Hint:=hk [0,1,4,5,6,7,8] [12,39,44,59,66,75] [21,27,33,40,47,56,69,73,79,80,84,86] [(3,[0,1,5,6]),(6,[0,1,5,6,8])] (glob:=[54,83]) (msd:=[54,83]) (fz:=2) (gc:=true)
@[simp] def h114f:=hf (h:=h114) rfl
def h115:Hint:=hk [0,1,4,5,6,7,8,14,15,16] [13,17,26,29] [14,30,36] [(5,[1,6,14,15,16])] (roots:=[(21,8)])
@[simp] def h115f:=hf (h:=h115) rfl
def h122:Hint:=hk [0,1,4,5] [] [9,12,14] [] (glob:=[10]) (msd:=[10]) (fz:=2) (gc:=true)
@[simp] def h122f:=hf (h:=h122) rfl
def h123:Hint:=hk [0,1,2,3,4] [] [] [] (roots:=[(5,2),(7,3),(10,2),(12,3)]) (sw:=[14])
@[simp] def h123f:=hf (h:=h123) rfl
def h124:Hint:=hk [0,1,2,6,7,8,9] [13,30,35,54] [15,20,24,38,45,56,57,61] [(2,[0,1,2,6,7,8]),(7,[0,1,2,6]),(9,[0,1,2,6,7,8])]
@[simp] def h124f:=hf (h:=h124) rfl
def h126:Hint:=hk [0,1,2,6,7,8,9] [13,30,35,54] [15,20,24,38,45,56,57,61] [(2,[0,1,2,6,7,8]),(7,[0,1,2,6]),(9,[0,1,2,6,7,8])]
@[simp] def h126f:=hf (h:=h126) rfl
def h127:Hint:=hk [0,2,3,4,5,6,7,8,9,10,11,12,13] [21,34,74] [17,23,24,29,30,36,42,43,49,50,51,56,57,59,60,63,64,67,68,69,76,77,78,79] []
@[simp] def h127f:=hf (h:=h127) rfl
def h128:Hint:=hk [0,1,4,5,6] [11,12,13,16,19] [11,12,13,17,18] []
@[simp] def h128f:=hf (h:=h128) rfl
def h129:Hint:=hk [0,1,4] [10] [7,11,14,18,20] []
@[simp] def h129f:=hf (h:=h129) rfl
def h130:Hint:=hk [0,1,2,6,7,8,9] [13,30,35,54] [15,20,24,38,45,56,57,61] [(2,[0,1,2,6,7,8]),(7,[0,1,2,6]),(9,[0,1,2,6,7,8])]
@[simp] def h130f:=hf (h:=h130) rfl
def h131:Hint:=hk [0,1,4,5,6,7,8,9,10,11,12,13,14,15,16,17,18] [40,41,42,48,54,60,69,96,109] [19,26,27,34,37,41,42,43,44,49,50,55,56,61,62,66,75,77,78,83,85,91,97,110,111,113] [(20,[15,16,17])] (sw:=[107])
@[simp] def h131f:=hf (h:=h131) rfl
def h132:Hint:=hk [0,1,2,3] [] [] []
@[simp] def h132f:=hf (h:=h132) rfl
def h136:Hint:=hk [0,2] [] [5,9,10] []
@[simp] def h136f:=hf (h:=h136) rfl
def h137:Hint:=hk [0,2] [] [5,6] []
@[simp] def h137f:=hf (h:=h137) rfl
def h138:Hint:=hk [0,1,4,6,8,9,10] [11,30] [7,18,23,25] [(2,[1,8,9,10])]
@[simp] def h138f:=hf (h:=h138) rfl
def h139:Hint:=hk [0,1,2] [] [] [] (glob:=[1])
@[simp] def h139f:=hf (h:=h139) rfl
def h141:Hint:=hk [0,1,4,5] [9,16] [10] [(2,[0,1,5])] (gc:=true)
@[simp] def h141f:=hf (h:=h141) rfl
def h143:Hint:=hk [0,2,3,4,5,6,7,8] [12,36] [13,14,21,22,23,26,27,29,30,33,37,38,39,41] []
@[simp] def h143f:=hf (h:=h143) rfl
def h144:Hint:=hk [0,1,4,5] [9,17] [10,18] [(2,[0,1,5])] (gc:=true)
@[simp] def h144f:=hf (h:=h144) rfl
def h145:Hint:=hk [0,2] [] [5,6] []
@[simp] def h145f:=hf (h:=h145) rfl
def h146:Hint:=hk [0,2,4] [] [5,6,9,10] []
@[simp] def h146f:=hf (h:=h146) rfl
def h147:Hint:=hk [0,1,4,5,6,8] [] [9,10,13,14,15,18,19,20,25,26,28] []
@[simp] def h147f:=hf (h:=h147) rfl
def h148:Hint:=hk [0,1,4] [] [5,6] []
@[simp] def h148f:=hf (h:=h148) rfl
def h149:Hint:=hk [0,1,2,3] [] [] []
@[simp] def h149f:=hf (h:=h149) rfl
def h150:Hint:=hk [0,1,4] [] [5,6] []
@[simp] def h150f:=hf (h:=h150) rfl
def h151:Hint:=hk [0,1,4] [] [5,6] []
@[simp] def h151f:=hf (h:=h151) rfl
def h152:Hint:=hk [0,1,2,3] [] [] []
@[simp] def h152f:=hf (h:=h152) rfl
def h153:Hint:=hk [0,1,4,5,6] [21,25,64] [9,14,26,34,39,44,48,52,56,60,61] [(4,[0,1,5])]
@[simp] def h153f:=hf (h:=h153) rfl
def h154:Hint:=hk [0,2,3,4] [8,26] [9,15,21,27,28,34,35,36] [(3,[0,3,4])]
@[simp] def h154f:=hf (h:=h154) rfl
def h155:Hint:=hk [0,2,3,4] [19] [9,14,20,21,25,27] []
@[simp] def h155f:=hf (h:=h155) rfl
def h156:Hint:=hk [0,2,3] [7,14] [8,15] [(2,[0,3])]
@[simp] def h156f:=hf (h:=h156) rfl
def h157:Hint:=hk [0,2,3,4,5,6,7,8] [18,44,48,60,70,75,78] [12,19,23,28,32,38,40,49,55,71,73,75,76,79] [(9,[4,5,6,7])]
@[simp] def h157f:=hf (h:=h157) rfl
def h158:Hint:=hk [0,1,2,3] [8,13,19] [9] []
@[simp] def h158f:=hf (h:=h158) rfl
def h159:Hint:=hk [0,2,7] [] [8,9,15,16] []
@[simp] def h159f:=hf (h:=h159) rfl
def h160:Hint:=hk [0,1,2,3] [] [] []
@[simp] def h160f:=hf (h:=h160) rfl
def h176:Hint:=hk [0,1,4] [] [5,6] []
@[simp] def h176f:=hf (h:=h176) rfl
def h177:Hint:=hk [0,1,4] [] [6,22,23] []
@[simp] def h177f:=hf (h:=h177) rfl
def h178:Hint:=hk [0,1,4,6] [] [8,12,16,31,32] []
@[simp] def h178f:=hf (h:=h178) rfl
def h179:Hint:=hk [0,1,4,5] [] [7] [] (roots:=[(5,5),(37,5)]) (sw:=[39,50,56]) (msd:=[50]) (gc:=true) (ad:=[39])
@[simp] def h179f:=hf (h:=h179) rfl
def h180:Hint:=hk [0,1,4,5] [] [7] [] (roots:=[(5,5)]) (sw:=[43,49]) (msd:=[43])
@[simp] def h180f:=hf (h:=h180) rfl
def h181:Hint:=hk [0,1,4,5,6] [12] [7,11,12,24] [] (roots:=[(6,6)]) (sw:=[58,69,75]) (msd:=[69]) (gc:=true) (ad:=[58])
@[simp] def h181f:=hf (h:=h181) rfl
def h182:Hint:=hk [0,1,4,5,6] [12] [7,11,12,21] [] (roots:=[(6,6)]) (sw:=[57,63]) (msd:=[57])
@[simp] def h182f:=hf (h:=h182) rfl
def h184:Hint:=hk [0,1] [] [5,7] []
@[simp] def h184f:=hf (h:=h184) rfl
def h185:Hint:=hk [0,1,2,3,8,9] [14,34] [15,35] [(1,[0,1,2,3,8]),(4,[0,1,2,3,8,9])] (sw:=[32,51,52]) (gc:=true)
@[simp] def h185f:=hf (h:=h185) rfl
def h186:Hint:=hk [0,1,2,3,4,10,11,12,13,14,15,16,17,18,19,20,21,22,23,24] [28,33,50,58,80,85,103,110,140,151,171,185,199,213] [29,30,51,53,54,59,81,104,106,107,111,172,174,175,181,188,195,201,202,209,214,215,216,217,218] [(3,[0,1,4,10,11]),(9,[0,10,13]),(15,[0,2,4,14,15]),(21,[0,14,17]),(33,[0,1,2,3,4,18,19,20,21,22])] (sw:=[49,75,76,101,127,128,169]) (gc:=true)
@[simp] def h186f:=hf (h:=h186) rfl
def h188:Hint:=hk [0,1,2,3,8,9] [14,34] [15,35] [(1,[0,1,2,3,8]),(4,[0,1,2,3,8,9])] (sw:=[32,51,52]) (gc:=true)
@[simp] def h188f:=hf (h:=h188) rfl
def h189:Hint:=hk [0,1,2,3,4,10,11,12,13,14,15,16,17,18,19,20,21,22,23,24] [28,33,50,58,80,85,103,110,140,151,171,185,199,213] [29,30,51,53,54,59,81,104,106,107,111,172,174,175,181,188,195,201,202,209,214,215,216,217,218] [(3,[0,1,4,10,11]),(9,[0,10,13]),(15,[0,2,4,14,15]),(21,[0,14,17]),(33,[0,1,2,3,4,18,19,20,21,22])] (sw:=[49,75,76,101,127,128,169]) (gc:=true)
@[simp] def h189f:=hf (h:=h189) rfl
def h192:Hint:=hk [0,2,3,4,5] [18] [9,14,19,20,23] []
@[simp] def h192f:=hf (h:=h192) rfl
def h193:Hint:=hk [0,2,4,6,7,8] [9,24] [5,16,19,20] [(2,[6,7,8])] (gc:=true)
@[simp] def h193f:=hf (h:=h193) rfl
def h194:Hint:=hk [0,2] [] [4] []
@[simp] def h194f:=hf (h:=h194) rfl
def h195:Hint:=hk [0,1,2,6,7,8,9,10,11,12,13] [14,21,31,38] [23,27,28,32,34,36] [(2,[0,1,2,11,12,13])] (gc:=true)
@[simp] def h195f:=hf (h:=h195) rfl
def h196:Hint:=hk [0,1,4,5,6] [11,26,28] [13,21,22,27,29,30,31] []
@[simp] def h196f:=hf (h:=h196) rfl
def h197:Hint:=hk [0,1,2,3,8,9] [14,34] [15,35] [(1,[0,1,2,3,8]),(4,[0,1,2,3,8,9])] (sw:=[32,51,52]) (gc:=true)
@[simp] def h197f:=hf (h:=h197) rfl
def h198:Hint:=hk [0,1,2,3,4,10,11,12,13,14,15,16,17,18,19,20,21,22,23,24] [28,33,50,58,80,85,103,110,140,151,171,185,199,213] [29,30,51,53,54,59,81,104,106,107,111,172,174,175,181,188,195,201,202,209,214,215,216,217,218] [(3,[0,1,4,10,11]),(9,[0,10,13]),(15,[0,2,4,14,15]),(21,[0,14,17]),(33,[0,1,2,3,4,18,19,20,21,22])] (sw:=[49,75,76,101,127,128,169]) (gc:=true)
@[simp] def h198f:=hf (h:=h198) rfl
def h199:Hint:=hk [0,2,3,4,5,6,7,8,9,10,11,12,13,14,15,17,19] [32,38,44,77,78,84,93] [24,28,33,39,49,50,52,57,64,71,78,85,92,94,100,101,107,108,109,114,115,116,117,118] [(7,[7,8,9,10]),(19,[8,11,12,13])]
@[simp] def h199f:=hf (h:=h199) rfl
def h200:Hint:=hk [0,1,4] [7,10] [8,9] []
@[simp] def h200f:=hf (h:=h200) rfl
def h201:Hint:=hk [0,1,4] [7,10] [8,9] []
@[simp] def h201f:=hf (h:=h201) rfl
def h202:Hint:=hk [0,2] [3] [3] []
@[simp] def h202f:=hf (h:=h202) rfl
def h203:Hint:=hk [0,1,4,5,6] [14,19,30,31] [12,20,22,25,26,29,31,32,33] []
@[simp] def h203f:=hf (h:=h203) rfl
def h208:Hint:=hk [0,1,3] [] [6,10,14,16] []
@[simp] def h208f:=hf (h:=h208) rfl
def h209:Hint:=hk [0,2] [] [5,6] []
@[simp] def h209f:=hf (h:=h209) rfl
def h213:Hint:=hk [0,1,4,5,7,8] [9,16] [17] [(2,[0,1,7,8])] (gc:=true)
@[simp] def h213f:=hf (h:=h213) rfl
def h214:Hint:=hk [0,1,4,5,7,8] [9,16] [17] [(2,[0,1,7,8])] (gc:=true)
@[simp] def h214f:=hf (h:=h214) rfl
def h215:Hint:=hk [0,2] [] [5,6] []
@[simp] def h215f:=hf (h:=h215) rfl
def h216:Hint:=hk [0,2] [] [5,6] []
@[simp] def h216f:=hf (h:=h216) rfl
def h217:Hint:=hk [0,2] [] [5,6] []
@[simp] def h217f:=hf (h:=h217) rfl
def h218:Hint:=hk [0,2] [] [5,10,13,14] []
@[simp] def h218f:=hf (h:=h218) rfl
def h219:Hint:=hk [0,1,4,5,9,11] [] [12,13,19,20,21,24,25,26,30,31,33,34] []
@[simp] def h219f:=hf (h:=h219) rfl
def h232:Hint:=hk [0,1,2,6,7,8] [] [9,10,11,14,15,16,20] []
@[simp] def h232f:=hf (h:=h232) rfl
def h233:Hint:=hk [0,1] [] [4,5] []
@[simp] def h233f:=hf (h:=h233) rfl
def h234:Hint:=hk [0,1,3,4] [] [5] []
@[simp] def h234f:=hf (h:=h234) rfl
def h235:Hint:=hk [0,1,3,4] [] [5] []
@[simp] def h235f:=hf (h:=h235) rfl
def h236:Hint:=hk [0,1,2,6,7,8,9] [13,30,35,54] [15,20,24,38,45,56,57,61] [(2,[0,1,2,6,7,8]),(7,[0,1,2,6]),(9,[0,1,2,6,7,8])]
@[simp] def h236f:=hf (h:=h236) rfl
def h237:Hint:=hk [0,1,2,3,4,10,11] [20,23] [13,15,32,47,50,54,55,56] [(2,[0,2,4,10,11])]
@[simp] def h237f:=hf (h:=h237) rfl
def h238:Hint:=hk [0,1,2,3,4,10,11] [20,23] [13,15,32,47,50,54,55,56] [(2,[0,2,4,10,11])]
@[simp] def h238f:=hf (h:=h238) rfl
def h241:Hint:=hk [0,2] [] [5,8,9] []
@[simp] def h241f:=hf (h:=h241) rfl
def h242:Hint:=hk [0,1,2,3,4,10,11] [20,23] [13,15,32,47,50,54,55,56] [(2,[0,2,4,10,11])]
@[simp] def h242f:=hf (h:=h242) rfl
def h243:Hint:=hk [0,2,3] [7,34] [8,15,22,29,37,41,45,46] [(2,[0,3])]
@[simp] def h243f:=hf (h:=h243) rfl
def h251:Hint:=hk [0,2,3,4,5,6] [10,21] [11,12,19,20,22,23,24,26] []
@[simp] def h251f:=hf (h:=h251) rfl
def h257:Hint:=hk [0,1,3,4,5,7,8] [9,16] [17] [(2,[0,3,7,8])] (roots:=[(3,3)])
@[simp] def h257f:=hf (h:=h257) rfl
def h258:Hint:=hk [0,1,3,4,5,7,8] [9,16] [17] [(2,[0,3,7,8])] (roots:=[(3,3)])
@[simp] def h258f:=hf (h:=h258) rfl
def h259:Hint:=hk [0,1,2,3,8,9] [14,34] [15,35] [(1,[0,1,2,3,8]),(4,[0,1,2,3,8,9])] (sw:=[32,51,52]) (gc:=true)
@[simp] def h259f:=hf (h:=h259) rfl
def h260:Hint:=hk [0,1,2,3,4,10,11,12,13,14,15,16,17,18,19,20,21,22,23,24] [28,33,50,58,80,85,103,110,140,151,171,185,199,213] [29,30,51,53,54,59,81,104,106,107,111,172,174,175,181,188,195,201,202,209,214,215,216,217,218] [(3,[0,1,4,10,11]),(9,[0,10,13]),(15,[0,2,4,14,15]),(21,[0,14,17]),(33,[0,1,2,3,4,18,19,20,21,22])] (sw:=[49,75,76,101,127,128,169]) (gc:=true)
@[simp] def h260f:=hf (h:=h260) rfl
def h261:Hint:=hk [0,1,2,3,4,10] [13] [14] [(1,[0,1,2,3,10])] (sw:=[36,37])
@[simp] def h261f:=hf (h:=h261) rfl
def h262:Hint:=hk [0,1,2,3,4,10] [13] [14] [(1,[0,1,2,3,10])] (sw:=[36,37])
@[simp] def h262f:=hf (h:=h262) rfl
def h265:Hint:=hk [0,1,2,3,4,10] [13] [14] [(1,[0,1,2,3,10])] (sw:=[36,37])
@[simp] def h265f:=hf (h:=h265) rfl
def h273:Hint:=hk [0,2,3] [8,14] [9,15] [(2,[0,3])]
@[simp] def h273f:=hf (h:=h273) rfl
def h275:Hint:=hk [0,1,2,3,4,10,11] [20,23] [13,15,32,47,50,54,55,56] [(2,[0,2,4,10,11])]
@[simp] def h275f:=hf (h:=h275) rfl
def h285:Hint:=hk [0,1,2,3,4,10] [13] [14] [(1,[0,1,2,3,10])] (sw:=[36,37])
@[simp] def h285f:=hf (h:=h285) rfl
def h100036:Hint:=hk [0,1,4,5,6,7] [11,24] [12,18,25,27,34] [(4,[0,1,5,6,7])] (glob:=[31]) (msd:=[31])
@[simp] def h100036f:=hf (h:=h100036) rfl
def h100053:Hint:=hk [0,2] [] [6] [] (glob:=[7]) (msd:=[7])
@[simp] def h100053f:=hf (h:=h100053) rfl
def h100055:Hint:=hk [0,2] [] [6] [] (glob:=[7]) (msd:=[7])
@[simp] def h100055f:=hf (h:=h100055) rfl
def h100056:Hint:=hk [0,2] [] [6] [] (glob:=[7]) (msd:=[7])
@[simp] def h100056f:=hf (h:=h100056) rfl
def h100015:Hint:=hk [0,1,2] [] [] [] (roots:=[(3,1),(6,1),(9,1),(12,1),(15,1),(16,1),(17,1),(18,1)]) (sw:=[5,8,11,14]) (alt:=[(5,1),(8,1),(11,1),(14,1)])
@[simp] def h100015f:=hf (h:=h100015) rfl
def h100054:Hint:=hk [0,2] [] [3] [] (alt:=[(4,1)])
@[simp] def h100054f:=hf (h:=h100054) rfl
def h100122:Hint:=hk [0,1,4,5] [] [9,12,14] [] (glob:=[10]) (msd:=[10])
@[simp] def h100122f:=hf (h:=h100122) rfl
def H:FuncId→Hint
 | 5=>h5
 | 8=>h8
 | 9=>h9
 | 11=>h11
 | 12=>h12
 | 13=>h13
 | 14=>h14
 | 15=>h15
 | 18=>h18
 | 19=>h19
 | 20=>h20
 | 21=>h21
 | 22=>h22
 | 23=>h23
 | 24=>h24
 | 25=>h25
 | 26=>h26
 | 27=>h27
 | 28=>h28
 | 32=>h32
 | 34=>h34
 | 35=>h35
 | 36=>h36
 | 40=>h40
 | 41=>h41
 | 42=>h42
 | 43=>h43
 | 44=>h44
 | 45=>h45
 | 46=>h46
 | 47=>h47
 | 48=>h48
 | 49=>h49
 | 50=>h50
 | 51=>h51
 | 53=>h53
 | 54=>h54
 | 55=>h55
 | 56=>h56
 | 57=>h57
 | 58=>h58
 | 59=>h59
 | 60=>h60
 | 61=>h61
 | 62=>h62
 | 63=>h63
 | 64=>h64
 | 65=>h65
 | 66=>h66
 | 67=>h67
 | 68=>h68
 | 69=>h69
 | 70=>h70
 | 71=>h71
 | 72=>h72
 | 73=>h73
 | 74=>h74
 | 75=>h75
 | 76=>h76
 | 77=>h77
 | 78=>h78
 | 79=>h79
 | 80=>h80
 | 81=>h81
 | 82=>h82
 | 83=>h83
 | 84=>h84
 | 85=>h85
 | 86=>h86
 | 87=>h87
 | 88=>h88
 | 89=>h89
 | 90=>h90
 | 91=>h91
 | 92=>h92
 | 93=>h93
 | 112=>h112
 | 114=>h114
 | 115=>h115
 | 122=>h122
 | 123=>h123
 | 124=>h124
 | 126=>h126
 | 127=>h127
 | 128=>h128
 | 129=>h129
 | 130=>h130
 | 131=>h131
 | 132=>h132
 | 136=>h136
 | 137=>h137
 | 138=>h138
 | 139=>h139
 | 141=>h141
 | 143=>h143
 | 144=>h144
 | 145=>h145
 | 146=>h146
 | 147=>h147
 | 148=>h148
 | 149=>h149
 | 150=>h150
 | 151=>h151
 | 152=>h152
 | 153=>h153
 | 154=>h154
 | 155=>h155
 | 156=>h156
 | 157=>h157
 | 158=>h158
 | 159=>h159
 | 160=>h160
 | 176=>h176
 | 177=>h177
 | 178=>h178
 | 179=>h179
 | 180=>h180
 | 181=>h181
 | 182=>h182
 | 184=>h184
 | 185=>h185
 | 186=>h186
 | 188=>h188
 | 189=>h189
 | 192=>h192
 | 193=>h193
 | 194=>h194
 | 195=>h195
 | 196=>h196
 | 197=>h197
 | 198=>h198
 | 199=>h199
 | 200=>h200
 | 201=>h201
 | 202=>h202
 | 203=>h203
 | 208=>h208
 | 209=>h209
 | 213=>h213
 | 214=>h214
 | 215=>h215
 | 216=>h216
 | 217=>h217
 | 218=>h218
 | 219=>h219
 | 232=>h232
 | 233=>h233
 | 234=>h234
 | 235=>h235
 | 236=>h236
 | 237=>h237
 | 238=>h238
 | 241=>h241
 | 242=>h242
 | 243=>h243
 | 251=>h251
 | 257=>h257
 | 258=>h258
 | 259=>h259
 | 260=>h260
 | 261=>h261
 | 262=>h262
 | 265=>h265
 | 273=>h273
 | 275=>h275
 | 285=>h285
 | 100036=>h100036
 | 100053=>h100053
 | 100055=>h100055
 | 100056=>h100056
 | 100015=>h100015
 | 100054=>h100054
 | 100122=>h100122
 | _=>{}
@[simp] theorem fctk0:TF 1 1 8 false none∧zeroA prog 1=some .nilf∧TF 3 1 8 false none∧zeroA prog 3=some (.int .i64 0)∧prog.underlying 3=some (.int .i64)∧TF 4 1 1 false none∧zeroA prog 4=some (.bool false)∧prog.underlying 4=some .bool∧TF 5 1 1 false none∧zeroA prog 5=some (.int .u8 0)∧prog.underlying 5=some (.int .u8)∧TF 9 1 16 false none:=by and_intros<;>kernel_rfl
@[simp] theorem fctk12:zeroA prog 9=some (.str [])∧prog.underlying 9=some .string∧TF 20 1 16 false none∧zeroA prog 20=some .nili∧TF 23 1 24 false (some 41)∧zeroA prog 23=some (.sl .nil [])∧prog.underlying 23=some (.slice 41)∧TF 24 1 24 false (some 52)∧zeroA prog 24=some (.sl .nil [])∧prog.underlying 24=some (.slice 52)∧TF 25 1 24 false (some 54)∧zeroA prog 25=some (.sl .nil []):=by and_intros<;>kernel_rfl
@[simp] theorem fctk24:prog.underlying 25=some (.slice 54)∧TF 26 1 24 false (some 50)∧zeroA prog 26=some (.sl .nil [])∧prog.underlying 26=some (.slice 50)∧TF 28 6 128 true none∧zeroA prog 28=some (.agg [(.str []),(.str []),(.sl .nil []),(.sl .nil []),(.sl .nil []),(.sl .nil [])])∧buildPl prog 28=some (fun i=>[(0,1),(1,1),(2,1),(3,1),(4,1),(5,1)][i]?)∧TF 29 1 8 false none∧zeroA prog 29=some (.int .i64 0)∧prog.underlying 29=some (.int .i64)∧TF 32 1 24 false (some 94)∧zeroA prog 32=some (.sl .nil []):=by and_intros<;>kernel_rfl
@[simp] theorem fctk36:prog.underlying 32=some (.slice 94)∧TF 33 1 24 false (some 95)∧zeroA prog 33=some (.sl .nil [])∧prog.underlying 33=some (.slice 95)∧TF 34 1 24 false (some 96)∧zeroA prog 34=some (.sl .nil [])∧prog.underlying 34=some (.slice 96)∧TF 36 6 128 true none∧zeroA prog 36=some (.agg [(.str []),(.str []),(.sl .nil []),(.sl .nil []),(.sl .nil []),(.sl .nil [])])∧buildPl prog 36=some (fun i=>[(0,1),(1,1),(2,1),(3,1),(4,1),(5,1)][i]?)∧TF 41 3 40 true none∧zeroA prog 41=some (.agg [(.str []),(.str []),(.bool false)]):=by and_intros<;>kernel_rfl
@[simp] theorem fctk48:buildPl prog 41=some (fun i=>[(0,1),(1,1),(2,1)][i]?)∧TF 50 2 32 true none∧zeroA prog 50=some (.agg [(.str []),(.str [])])∧buildPl prog 50=some (fun i=>[(0,1),(1,1)][i]?)∧TF 52 2 32 true none∧zeroA prog 52=some (.agg [(.str []),(.str [])])∧buildPl prog 52=some (fun i=>[(0,1),(1,1)][i]?)∧TF 54 4 64 true none∧zeroA prog 54=some (.agg [(.str []),(.str []),(.str []),(.str [])])∧buildPl prog 54=some (fun i=>[(0,2),(2,2)][i]?)∧TF 81 2 16 true none∧zeroA prog 81=some (.agg [(.int .i64 0),(.int .i64 0)]):=by and_intros<;>kernel_rfl
@[simp] theorem fctk60:buildPl prog 81=some (fun i=>[(0,1),(1,1)][i]?)∧TF 82 1 8 false none∧zeroA prog 82=some .nilp∧TF 84 10 160 true none∧zeroA prog 84=some (.agg [(.str []),(.str []),(.sl .nil []),(.sl .nil []),(.sl .nil []),(.sl .nil []),(.int .i64 0),(.str []),(.bool false),(.bool false)])∧buildPl prog 84=some (fun i=>[(0,6),(6,1),(7,1),(8,1),(9,1)][i]?)∧TF 88 1 24 false (some 9)∧zeroA prog 88=some (.sl .nil [])∧prog.underlying 88=some (.slice 9)∧TF 94 3 40 true none∧zeroA prog 94=some (.agg [(.str []),(.str []),(.bool false)])∧buildPl prog 94=some (fun i=>[(0,1),(1,1),(2,1)][i]?):=by and_intros<;>kernel_rfl
@[simp] theorem fctk72:TF 95 4 64 true none∧zeroA prog 95=some (.agg [(.str []),(.str []),(.str []),(.str [])])∧buildPl prog 95=some (fun i=>[(0,2),(2,2)][i]?)∧TF 96 2 32 true none∧zeroA prog 96=some (.agg [(.str []),(.str [])])∧buildPl prog 96=some (fun i=>[(0,1),(1,1)][i]?)∧TF 98 1 8 false none∧zeroA prog 98=some .nilp∧TF 99 1 24 false (some 5)∧zeroA prog 99=some (.sl .nil [])∧prog.underlying 99=some (.slice 5)∧TF 101 2 32 true none:=by and_intros<;>kernel_rfl
@[simp] theorem fctk84:zeroA prog 101=some (.agg [.nilp,(.sl .nil [])])∧buildPl prog 101=some (fun i=>[(0,1),(1,1)][i]?)∧TF 103 1 16 false none∧zeroA prog 103=some .nili∧TF 107 1 8 false none∧zeroA prog 107=some .nilf∧TF 109 1 8 false none∧zeroA prog 109=some .nilf∧TF 112 1 8 false none∧zeroA prog 112=some .nilf∧TF 114 1 8 false none∧zeroA prog 114=some .nilf:=by and_intros<;>kernel_rfl
@[simp] theorem fctk96:TF 122 1 8 false none∧zeroA prog 122=some .nilf∧TF 123 1 8 false none∧zeroA prog 123=some .nilf∧TF 126 1 8 false none∧zeroA prog 126=some .nilf∧TF 128 1 8 false none∧zeroA prog 128=some .nilf∧TF 133 1 8 false none∧zeroA prog 133=some .nilf∧TF 141 1 8 false none∧zeroA prog 141=some .nilf:=by and_intros<;>kernel_rfl
@[simp] theorem fctk108:TF 143 1 8 false none∧zeroA prog 143=some .nilf∧TF 145 1 8 false none∧zeroA prog 145=some .nilf∧TF 146 1 8 false none∧zeroA prog 146=some .nilf∧TF 148 1 8 false none∧zeroA prog 148=some .nilf∧TF 149 1 8 false none∧zeroA prog 149=some .nilf∧TF 156 1 8 false none∧zeroA prog 156=some .nilf:=by and_intros<;>kernel_rfl
@[simp] theorem fctk120:TF 179 1 24 false (some 187)∧zeroA prog 179=some (.sl .nil [])∧prog.underlying 179=some (.slice 187)∧TF 183 1 8 false none∧zeroA prog 183=some .nilf∧TF 184 1 8 false none∧TF 187 2 24 true none∧zeroA prog 187=some (.agg [(.int .u8 0),(.str [])])∧buildPl prog 187=some (fun i=>[(0,1),(1,1)][i]?)∧TF 188 1 8 false none∧zeroA prog 188=some .nilf∧TF 193 1 8 false none:=by and_intros<;>kernel_rfl
@[simp] theorem fctk132:zeroA prog 193=some .nilf∧TF 196 1 24 false (some 3)∧zeroA prog 196=some (.sl .nil [])∧prog.underlying 196=some (.slice 3)∧TF 198 4 40 true none∧zeroA prog 198=some (.agg [(.int .i64 0),(.int .i64 0),(.int .i64 0),(.str [])])∧buildPl prog 198=some (fun i=>[(0,1),(1,1),(2,1),(3,1)][i]?)∧TF 205 1 24 false (some 29)∧zeroA prog 205=some (.sl .nil [])∧prog.underlying 205=some (.slice 29)∧TF 211 1 8 false none∧zeroA prog 211=some .nilf:=by and_intros<;>kernel_rfl
@[simp] theorem fctk144:TF 214 1 8 false none∧zeroA prog 214=some .nilf∧TF 260 1 8 false none∧zeroA prog 260=some (.int .u64 0)∧prog.underlying 260=some (.int .u64)∧fieldA prog 28 0=some (0,9)∧fieldA prog 28 1=some (1,9)∧fieldA prog 28 2=some (2,23)∧fieldA prog 28 3=some (3,24)∧fieldA prog 28 4=some (4,25)∧fieldA prog 28 5=some (5,26)∧fieldA prog 36 0=some (0,9):=by and_intros<;>kernel_rfl
@[simp] theorem fctk156:fieldA prog 36 1=some (1,9)∧fieldA prog 36 2=some (2,32)∧fieldA prog 36 3=some (3,24)∧fieldA prog 36 4=some (4,33)∧fieldA prog 36 5=some (5,34)∧fieldA prog 41 0=some (0,9)∧fieldA prog 41 1=some (1,9)∧fieldA prog 41 2=some (2,4)∧fieldA prog 50 0=some (0,9)∧fieldA prog 50 1=some (1,9)∧fieldA prog 52 0=some (0,9)∧fieldA prog 52 1=some (1,9):=by and_intros<;>kernel_rfl
@[simp] theorem fctk168:fieldA prog 54 0=some (0,52)∧fieldA prog 54 1=some (2,52)∧fieldA prog 81 0=some (0,3)∧fieldA prog 81 1=some (1,29)∧fieldA prog 84 0=some (0,28)∧fieldA prog 84 1=some (6,3)∧fieldA prog 84 2=some (7,9)∧fieldA prog 84 3=some (8,4)∧fieldA prog 84 4=some (9,4)∧fieldA prog 94 0=some (0,9)∧fieldA prog 94 1=some (1,9)∧fieldA prog 94 2=some (2,4):=by and_intros<;>kernel_rfl
@[simp] theorem fctk180:fieldA prog 95 0=some (0,52)∧fieldA prog 95 1=some (2,52)∧fieldA prog 96 0=some (0,9)∧fieldA prog 96 1=some (1,9)∧fieldA prog 101 1=some (1,99)∧fieldA prog 187 0=some (0,5)∧fieldA prog 187 1=some (1,9)∧fieldA prog 198 0=some (0,3)∧fieldA prog 198 1=some (1,3)∧fieldA prog 198 2=some (2,3)∧fieldA prog 198 3=some (3,9)∧isFuncT prog 1=true:=by and_intros<;>kernel_rfl
@[simp] theorem fctk192:isIface prog 20=true∧isIface prog 103=true∧isFuncT prog 107=true∧isFuncT prog 109=true∧isFuncT prog 112=true∧isFuncT prog 114=true∧isFuncT prog 122=true∧isFuncT prog 123=true∧isFuncT prog 126=true∧isFuncT prog 128=true∧isFuncT prog 133=true∧isFuncT prog 141=true:=by and_intros<;>kernel_rfl
@[simp] theorem fctk204:isFuncT prog 143=true∧isFuncT prog 145=true∧isFuncT prog 146=true∧isFuncT prog 148=true∧isFuncT prog 149=true∧isFuncT prog 156=true∧isFuncT prog 183=true∧isFuncT prog 188=true∧isFuncT prog 193=true∧isFuncT prog 211=true∧isFuncT prog 214=true∧eqShape prog 50=some [.str,.str]:=by and_intros<;>kernel_rfl
@[simp] theorem fctk216:eqShape prog 52=some [.str,.str]∧eqShape prog 96=some [.str,.str]:=by and_intros<;>kernel_rfl
@[simp] theorem fctr0:H 5=h5∧H 8=h8∧H 9=h9∧H 11=h11∧H 12=h12∧H 13=h13∧H 14=h14∧H 15=h15∧H 18=h18∧H 19=h19∧H 20=h20∧H 21=h21:=by and_intros<;>rfl
@[simp] theorem fctr12:H 22=h22∧H 23=h23∧H 24=h24∧H 25=h25∧H 26=h26∧H 27=h27∧H 28=h28∧H 32=h32∧H 34=h34∧H 35=h35∧H 36=h36∧H 40=h40:=by and_intros<;>rfl
@[simp] theorem fctr24:H 41=h41∧H 42=h42∧H 43=h43∧H 44=h44∧H 45=h45∧H 46=h46∧H 47=h47∧H 48=h48∧H 49=h49∧H 50=h50∧H 51=h51∧H 53=h53:=by and_intros<;>rfl
@[simp] theorem fctr36:H 54=h54∧H 55=h55∧H 56=h56∧H 57=h57∧H 58=h58∧H 59=h59∧H 60=h60∧H 61=h61∧H 62=h62∧H 63=h63∧H 64=h64∧H 65=h65:=by and_intros<;>rfl
@[simp] theorem fctr48:H 66=h66∧H 67=h67∧H 68=h68∧H 69=h69∧H 70=h70∧H 71=h71∧H 72=h72∧H 73=h73∧H 74=h74∧H 75=h75∧H 76=h76∧H 77=h77:=by and_intros<;>rfl
@[simp] theorem fctr60:H 78=h78∧H 79=h79∧H 80=h80∧H 81=h81∧H 82=h82∧H 83=h83∧H 84=h84∧H 85=h85∧H 86=h86∧H 87=h87∧H 88=h88∧H 89=h89:=by and_intros<;>rfl
@[simp] theorem fctr72:H 90=h90∧H 91=h91∧H 92=h92∧H 93=h93∧H 112=h112∧H 114=h114∧H 115=h115∧H 122=h122∧H 123=h123∧H 124=h124∧H 126=h126∧H 127=h127:=by and_intros<;>rfl
@[simp] theorem fctr84:H 128=h128∧H 129=h129∧H 130=h130∧H 131=h131∧H 132=h132∧H 136=h136∧H 137=h137∧H 138=h138∧H 139=h139∧H 141=h141∧H 143=h143∧H 144=h144:=by and_intros<;>rfl
@[simp] theorem fctr96:H 145=h145∧H 146=h146∧H 147=h147∧H 148=h148∧H 149=h149∧H 150=h150∧H 151=h151∧H 152=h152∧H 153=h153∧H 154=h154∧H 155=h155∧H 156=h156:=by and_intros<;>rfl
@[simp] theorem fctr108:H 157=h157∧H 158=h158∧H 159=h159∧H 160=h160∧H 176=h176∧H 177=h177∧H 178=h178∧H 179=h179∧H 180=h180∧H 181=h181∧H 182=h182∧H 184=h184:=by and_intros<;>rfl
@[simp] theorem fctr120:H 185=h185∧H 186=h186∧H 188=h188∧H 189=h189∧H 192=h192∧H 193=h193∧H 194=h194∧H 195=h195∧H 196=h196∧H 197=h197∧H 198=h198∧H 199=h199:=by and_intros<;>rfl
@[simp] theorem fctr132:H 200=h200∧H 201=h201∧H 202=h202∧H 203=h203∧H 208=h208∧H 209=h209∧H 213=h213∧H 214=h214∧H 215=h215∧H 216=h216∧H 217=h217∧H 218=h218:=by and_intros<;>rfl
@[simp] theorem fctr144:H 219=h219∧H 232=h232∧H 233=h233∧H 234=h234∧H 235=h235∧H 236=h236∧H 237=h237∧H 238=h238∧H 241=h241∧H 242=h242∧H 243=h243∧H 251=h251:=by and_intros<;>rfl
@[simp] theorem fctr156:H 257=h257∧H 258=h258∧H 259=h259∧H 260=h260∧H 261=h261∧H 262=h262∧H 265=h265∧H 273=h273∧H 275=h275∧H 285=h285∧H 100036=h100036∧H 100053=h100053:=by and_intros<;>rfl
@[simp] theorem fctr168:H 100055=h100055∧H 100056=h100056∧H 100015=h100015∧H 100054=h100054∧H 100122=h100122:=by and_intros<;>rfl
abbrev mS:Nat:=4000000
theorem qk {f:FuncId} {fn:Func} {c:Code} {xs:List AV} {s:List (List AV)} {r:AV×List (List AV)} {T:Table} (hf:prog.funcs[AI.base f]? = some fn) {n:Nat} (hn:fn.ntmps=n)
  (hp:Post (EXEC prog (H f) (EV prog H T) c ⟨params 0 xs,[],s⟩) fun e st=>finE prog (H f) s fn (some (e,st))=some r) (hT:T f=none:=by rfl) (hb:fn.body=some c:=by rfl) (hl:xs.length≤n:=by simp)
  (hc:codeOk (H f) fn.ntmps c=true:=by kernel_rfl) (hg:(fn.name== "runtime.NumGoroutine")=false:=by kernel_rfl) (h9:f<900000:=by decide):EV prog H T f xs s=some r:=q9 hT hf hb (hn▸hl) hc hg hp h9
theorem wr1 (i:Nat) (h:(i:Int)+1≤9223372036854775807):IntKind.i64.wrap ((i:Int)+1)=(i:Int)+1:=qh (by omega)
theorem getS {α:Type} {l:List α} {i:Nat} (h:i<l.length):∃x,l[i]? = some x:=⟨_,List.getElem?_eq_getElem h⟩
end Go.Proofs.Tryz.Ai
end
section
namespace Go.Proofs.Tryz.Ai
open Go Go.AI Go.RowKit Go.Proofs
noncomputable def T:Table
 | 121=>some copyCheckT
 | 52=>some stringT
 | 224=>some indexT
 | 125=>some compareT
 | 264=>some countT
 | 135=>some itoaT
 | 168=>some indexST
 | 134=>some atoiT
 | 142=>some lastIndexT
 | 33=>some cutT
 | 191=>some splitT
 | 133=>some cutPrefixT
 | 190=>some hasPrefixT
 | 140=>some containsT
 | 113=>some trimT
 | 116=>some statementsT
 | 9=>some fun _ _=>none
 | _=>none
theorem qfk:AI.Enters prog 121:=⟨_,func121,by kernel_rfl,by kernel_rfl⟩
theorem qi2:AI.Enters prog 52:=⟨_,func52,by kernel_rfl,by kernel_rfl⟩
theorem qkn:AI.Enters prog 224:=⟨_,func224,by kernel_rfl,by kernel_rfl⟩
theorem qhh:AI.Enters prog 125:=⟨_,func125,by kernel_rfl,by kernel_rfl⟩
theorem qko:AI.Enters prog 264:=⟨_,func264,by kernel_rfl,by kernel_rfl⟩
theorem ql7:AI.Enters prog 135:=⟨_,func135,by kernel_rfl,by kernel_rfl⟩
theorem T_ok {W0:World} (hl:LaidAll W0):TableOk prog W0.heap.size W0 T:=by
 intro f p hf xs s r s' e
 unfold T at hf
 split at hf
 ·injection hf with hf;subst hf;exact⟨qfk,qkk e⟩
 ·injection hf with hf;subst hf;exact⟨qi2,qq8 e⟩
 ·injection hf with hf;subst hf;exact⟨qkn,qut e⟩
 ·injection hf with hf;subst hf;exact⟨qhh,qoo e⟩
 ·injection hf with hf;subst hf;exact⟨qko,quu e⟩
 ·injection hf with hf;subst hf;exact⟨ql7,qx7 hl.tab e⟩
 ·injection hf with hf;subst hf;exact⟨⟨_,func168,by kernel_rfl,by kernel_rfl⟩,qrb hl e⟩
 ·injection hf with hf;subst hf;exact⟨⟨_,func134,by kernel_rfl,by kernel_rfl⟩,qx8 hl e⟩
 ·injection hf with hf;subst hf;exact⟨⟨_,func142,by kernel_rfl,by kernel_rfl⟩,qkl e⟩
 ·injection hf with hf;subst hf;exact⟨⟨_,func33,by kernel_rfl,by kernel_rfl⟩,q06 hl e⟩
 ·injection hf with hf;subst hf;exact⟨⟨_,func191,by kernel_rfl,by kernel_rfl⟩,quw hl e⟩
 ·injection hf with hf;subst hf;exact⟨⟨_,func133,by kernel_rfl,by kernel_rfl⟩,qkm e⟩
 ·injection hf with hf;subst hf;exact⟨⟨_,func190,by kernel_rfl,by kernel_rfl⟩,hasPrefix_ok e⟩
 ·injection hf with hf;subst hf;exact⟨⟨_,func140,by kernel_rfl,by kernel_rfl⟩,ql5 hl e⟩
 ·injection hf with hf;subst hf;exact⟨⟨_,func113,by kernel_rfl,by kernel_rfl⟩,trim_ok e⟩
 ·injection hf with hf;subst hf;exact⟨⟨_,func116,by kernel_rfl,by kernel_rfl⟩,qi1 e⟩
 ·injection hf with hf;subst hf;cases e
 ·cases hf
noncomputable abbrev ev:Oracle:=EV prog H T
theorem qi3 (xs:List AV) (s:List (List AV)):ev 116 xs s=statementsT xs s:=qao rfl xs s
theorem qfg (xs:List AV) (s:List (List AV)):ev 121 xs s=copyCheckT xs s:=qao rfl xs s
theorem qrc (xs:List AV) (s:List (List AV)):ev 52 xs s=stringT xs s:=qao rfl xs s
theorem qux (xs:List AV) (s:List (List AV)):ev 224 xs s=indexT xs s:=qao rfl xs s
theorem qoq (xs:List AV) (s:List (List AV)):ev 125 xs s=compareT xs s:=qao rfl xs s
theorem qx9 (xs:List AV) (s:List (List AV)):ev 135 xs s=itoaT xs s:=qao rfl xs s
theorem qrd (xs:List AV) (s:List (List AV)):ev 134 xs s=atoiT xs s:=qao rfl xs s
theorem qkp (xs:List AV) (s:List (List AV)):ev 142 xs s=lastIndexT xs s:=qao rfl xs s
theorem qnl (xs:List AV) (s:List (List AV)):ev 33 xs s=cutT xs s:=qao rfl xs s
theorem quy (xs:List AV) (s:List (List AV)):ev 191 xs s=splitT xs s:=qao rfl xs s
theorem qkq (xs:List AV) (s:List (List AV)):ev 133 xs s=cutPrefixT xs s:=qao rfl xs s
theorem qkr (xs:List AV) (s:List (List AV)):ev 190 xs s=hasPrefixT xs s:=qao rfl xs s
theorem ql8 (xs:List AV) (s:List (List AV)):ev 140 xs s=containsT xs s:=qao rfl xs s
theorem qya (xs:List AV) (s:List (List AV)):ev 113 xs s=trimT xs s:=qao rfl xs s
end Go.Proofs.Tryz.Ai
end
section
namespace Go.Proofs.Tryz.Ai
open Go Go.AI Go.Proofs
def bc (b:Nat):Option (List UInt8)→List AV
 | none=>[.nilp,.sl .nil []]
 | some l=>[.gp b 0 (some (SB,2)),.sl (.ex U8 1) (l.map .u8)]
def bs (b:Nat):Option (List UInt8)→List AV
 | none=>[.nilp,.sl .nil []]
 | some l=>[.gp b 0 (some (SB,2)),.sl .sh (l.map .u8)]
def txt (o:Option (List UInt8)):List UInt8:=o.getD []
@[simp] theorem txt_some (l:List UInt8):txt (some l)=l:=rfl
@[simp] theorem txt_none:txt none=[]:=rfl
@[simp] theorem qi4 (b:Nat) (o:Option (List UInt8)) (n:Nat):lowL n (bc b o)↔o=none∨b<n:=by cases o<;>simp[bc]
@[simp] theorem bs_lowL (b:Nat) (o:Option (List UInt8)) (n:Nat):lowL n (bs b o)↔o=none∨b<n:=by cases o<;>simp[bs]
theorem qy (b:Nat) (σ:List (List AV)) (o:Option (List UInt8)) (m:List UInt8) (hl:(txt o).length+m.length≤most) (hb:σ[b]? = some (bc b o)) :
  ev 41 [.gp b 0 (some (SB,2)),.str m] σ=some (.tup [.int .i64 m.length,.nili],σ.set b (bc b (some (txt o++m)))):=by
 have hlt:b<σ.length:=(List.getElem?_eq_some_iff.1 hb).1
 have h1:m.length≤most:=by omega
 refine qk func41 ntmps41 ?_
 cases o with
 | none =>
  simp only[bc,txt_none] at hb hl ⊢
  simp (maxSteps:=mS) (disch:=omega) [dT,dF,qh,-getElem?_pos,List.getElem?_cons_zero,List.getElem?_cons_succ,List.getElem?_set,qfg,copyCheckT,hb,hlt,results41,h1,SB,U8]
 | some l =>
  simp only[bc,txt_some] at hb hl ⊢
  simp (maxSteps:=mS) (disch:=omega) [dT,dF,qh,-getElem?_pos,List.getElem?_cons_zero,List.getElem?_cons_succ,List.getElem?_set,qfg,copyCheckT,hb,hlt,results41,hl,SB,U8]
theorem qd0 (σ τ:List (List AV)) (o:Option (List UInt8)) (m:List UInt8) (hl:(txt o).length+m.length≤most) :
  ev 41 [.gp σ.length 0 (some (SB,2)),.str m] (σ++bc σ.length o::τ)=some (.tup [.int .i64 m.length,.nili],σ++bc σ.length (some (txt o++m))::τ):=by
 have:=qy σ.length (σ++bc σ.length o::τ) o m hl (by simp)
 rw[this];simp
theorem ql9 (l:List UInt8):bytesOf (l.map .u8)=some l:=by
 induction l with
 | nil=>rfl
 | cons x r ih=>simp only[List.map_cons,AV.u8] at ih ⊢;unfold bytesOf;simp[ih]
theorem quz (b:Nat) (σ:List (List AV)) (o:Option (List UInt8)) (hb:σ[b]? = some (bc b o)) :
  ev 52 [.gp b 0 (some (SB,2))] σ=some (.str (txt o),σ.set b (bs b o)):=by
 show ev 52 _ _=_
 rw[qrc]
 cases o with
 | none =>
  simp only[bc,bs,txt_none] at hb ⊢
  have:σ.set b [AV.nilp,.sl .nil []]=σ:=by
   apply List.ext_getElem?;intro i;rw[List.getElem?_set]
   split
   ·rename_i e;subst e;rw[hb];simp[(List.getElem?_eq_some_iff.1 hb).1]
   ·rfl
  rw[this]
  simp[-getElem?_pos,stringT,hb]
 | some l =>
  simp only[bc,bs,txt_some] at hb ⊢
  simp[-getElem?_pos,-AV.u8,stringT,hb,ql9,bnd]
end Go.Proofs.Tryz.Ai
end
section
namespace Go.Proofs.Tryz.Ai
open Go Go.AI Go.Proofs
theorem HasPrefix_eq (a b:List UInt8) (σ):ev 190 [.str a,.str b] σ=some (.bool (b.isPrefixOf a),σ):=by
 rw[qkr];rfl
end Go.Proofs.Tryz.Ai
end
section
namespace Go.AI
@[simp] theorem qyb {n k:Nat}:((n:Int)≤(no_index (OfNat.ofNat k):Int))↔n≤k:=by
 show (n:Int)≤(k:Int)↔n≤k;omega
@[simp] theorem qyc {n k:Nat}:((no_index (OfNat.ofNat k):Int)≤(n:Int))↔k≤n:=by
 show (k:Int)≤(n:Int)↔k≤n;omega
@[simp] theorem qyd {n k:Nat}:((n:Int)<(no_index (OfNat.ofNat k):Int))↔n<k:=by
 show (n:Int)<(k:Int)↔n<k;omega
@[simp] theorem qye {n k:Nat}:((no_index (OfNat.ofNat k):Int)<(n:Int))↔k<n:=by
 show (k:Int)<(n:Int)↔k<n;omega
@[simp] theorem qyf {n k:Nat}:((n:Int)=(no_index (OfNat.ofNat k):Int))↔n=k:=by
 show (n:Int)=(k:Int)↔n=k;omega
@[simp] theorem qyg {n k:Nat}:((no_index (OfNat.ofNat k):Int)=(n:Int))↔k=n:=by
 show (k:Int)=(n:Int)↔k=n;omega
@[simp] theorem qsx {n k:Nat}:(0≤(n:Int)+(no_index (OfNat.ofNat k):Int))↔True:=by
 show 0≤(n:Int)+(k:Int)↔True;constructor;intro _;trivial;intro _;omega
@[simp] theorem qre {n k:Nat}:(0≤(n:Int)+(k:Int))↔True:=by constructor;intro _;trivial;intro _;omega
@[simp] theorem qyh {n k:Nat}:((n:Int)+(no_index (OfNat.ofNat k):Int)<0)↔False:=by
 show (n:Int)+(k:Int)<0↔False;constructor;intro _;omega;intro h;cases h
@[simp] theorem qwo {n k:Nat}:((n:Int)+(k:Int)<0)↔False:=by constructor;intro _;omega;intro h;cases h
@[simp] theorem toNat_add_lit {n k:Nat}:((n:Int)+(no_index (OfNat.ofNat k):Int)).toNat=n+k:=by
 show ((n:Int)+(k:Int)).toNat=n+k;omega
@[simp] theorem toNat_add_cast {n k:Nat}:((n:Int)+(k:Int)).toNat=n+k:=by omega
@[simp] theorem q07 {n k:Nat}:((n:Int)=(k:Int))↔n=k:=by omega
@[simp] theorem cast_lt' {n k:Nat}:((n:Int)<(k:Int))↔n<k:=by omega
@[simp] theorem cast_le' {n k:Nat}:((n:Int)≤(k:Int))↔n≤k:=by omega
@[simp] theorem u8_inj {n k:UInt8}:n.toNat=k.toNat↔n=k:=UInt8.toNat_inj
@[simp] theorem u8_lit {a:UInt8} {k:Nat} (h:k<256):a.toNat=(no_index (OfNat.ofNat k))↔a=UInt8.ofNat k:=by
 show a.toNat=k↔_
 constructor
 ·intro e;apply UInt8.toNat_inj.1;rw[e];simp;omega
 ·intro e;rw[e];simp;omega
@[simp] theorem u8_beq {a b:UInt8}:(a==b)=decide (a=b):=by
 by_cases h:a=b<;>simp[h]
end Go.AI
end
