/- Part 5 of a proof: a Go function is evaluated on abstract values (texts Facts .. M5b); no conditions beyond those of each theorem. -/
import Derived.Test.YthdpejligoblbaaGreatDoorAi4
import Derived.Test.YthdpejligoblbaaGreatDoorProg
import Derived.KernelRfl
import Derived.Lib.Strings
import Derived.Lib.Slices
import Derived.Lib.Walk
import Derived.Lib.Builder
import Derived.Lib.UnsafeStr
import Derived.Lib.MakeNoZero
import Derived.WalkKit
import Derived.Laws.Externs
import Derived.RegionTactic
import Derived.BigRegion
import Derived.Laws.CopyRow
import Derived.Lib.Bytealg
import Derived.Shelf.Strconv.Itoa3
import Derived.Lib.AppendIntMem
set_option linter.all false
set_option linter.unusedVariables false
set_option linter.unusedSimpArgs false
set_option linter.unnecessarySimpa false
section
namespace Go.Proofs.Tryz.Ai
open Go Go.AI Go.Proofs
@[simp] theorem size2 : sizeA Tryz.prog 2 = some 1 := by kernel_rfl
@[simp] theorem bytes2 : bytesA Tryz.prog 2 = some 8 := by kernel_rfl
@[simp] theorem agg2 : isAggA Tryz.prog 2 = some false := by kernel_rfl
@[simp] theorem elem2 : elemA Tryz.prog 2 = none := by kernel_rfl
@[simp] theorem zero2 : zeroA Tryz.prog 2 = some (.int .i64 0) := by kernel_rfl
@[simp] theorem und2 : Tryz.prog.underlying 2 = some (.int .i64) := by kernel_rfl
@[simp] theorem size3 : sizeA Tryz.prog 3 = some 1 := by kernel_rfl
@[simp] theorem bytes3 : bytesA Tryz.prog 3 = some 8 := by kernel_rfl
@[simp] theorem agg3 : isAggA Tryz.prog 3 = some false := by kernel_rfl
@[simp] theorem elem3 : elemA Tryz.prog 3 = none := by kernel_rfl
@[simp] theorem zero3 : zeroA Tryz.prog 3 = some (.int .i64 0) := by kernel_rfl
@[simp] theorem und3 : Tryz.prog.underlying 3 = some (.int .i64) := by kernel_rfl
@[simp] theorem size4 : sizeA Tryz.prog 4 = some 1 := by kernel_rfl
@[simp] theorem bytes4 : bytesA Tryz.prog 4 = some 1 := by kernel_rfl
@[simp] theorem agg4 : isAggA Tryz.prog 4 = some false := by kernel_rfl
@[simp] theorem elem4 : elemA Tryz.prog 4 = none := by kernel_rfl
@[simp] theorem zero4 : zeroA Tryz.prog 4 = some (.bool false) := by kernel_rfl
@[simp] theorem und4 : Tryz.prog.underlying 4 = some .bool := by kernel_rfl
@[simp] theorem size5 : sizeA Tryz.prog 5 = some 1 := by kernel_rfl
@[simp] theorem bytes5 : bytesA Tryz.prog 5 = some 1 := by kernel_rfl
@[simp] theorem agg5 : isAggA Tryz.prog 5 = some false := by kernel_rfl
@[simp] theorem elem5 : elemA Tryz.prog 5 = none := by kernel_rfl
@[simp] theorem zero5 : zeroA Tryz.prog 5 = some (.int .u8 0) := by kernel_rfl
@[simp] theorem und5 : Tryz.prog.underlying 5 = some (.int .u8) := by kernel_rfl
@[simp] theorem size9 : sizeA Tryz.prog 9 = some 1 := by kernel_rfl
@[simp] theorem bytes9 : bytesA Tryz.prog 9 = some 16 := by kernel_rfl
@[simp] theorem agg9 : isAggA Tryz.prog 9 = some false := by kernel_rfl
@[simp] theorem elem9 : elemA Tryz.prog 9 = none := by kernel_rfl
@[simp] theorem zero9 : zeroA Tryz.prog 9 = some (.str []) := by kernel_rfl
@[simp] theorem und9 : Tryz.prog.underlying 9 = some .string := by kernel_rfl
@[simp] theorem size20 : sizeA Tryz.prog 20 = some 1 := by kernel_rfl
@[simp] theorem bytes20 : bytesA Tryz.prog 20 = some 16 := by kernel_rfl
@[simp] theorem agg20 : isAggA Tryz.prog 20 = some false := by kernel_rfl
@[simp] theorem elem20 : elemA Tryz.prog 20 = none := by kernel_rfl
@[simp] theorem zero20 : zeroA Tryz.prog 20 = some .nili := by kernel_rfl
@[simp] theorem size21 : sizeA Tryz.prog 21 = some 1 := by kernel_rfl
@[simp] theorem bytes21 : bytesA Tryz.prog 21 = some 4 := by kernel_rfl
@[simp] theorem agg21 : isAggA Tryz.prog 21 = some false := by kernel_rfl
@[simp] theorem elem21 : elemA Tryz.prog 21 = none := by kernel_rfl
@[simp] theorem zero21 : zeroA Tryz.prog 21 = some (.int .i32 0) := by kernel_rfl
@[simp] theorem und21 : Tryz.prog.underlying 21 = some (.int .i32) := by kernel_rfl
@[simp] theorem size24 : sizeA Tryz.prog 24 = some 1 := by kernel_rfl
@[simp] theorem bytes24 : bytesA Tryz.prog 24 = some 24 := by kernel_rfl
@[simp] theorem agg24 : isAggA Tryz.prog 24 = some false := by kernel_rfl
@[simp] theorem elem24 : elemA Tryz.prog 24 = some 9 := by kernel_rfl
@[simp] theorem zero24 : zeroA Tryz.prog 24 = some (.sl .nil []) := by kernel_rfl
@[simp] theorem und24 : Tryz.prog.underlying 24 = some (.slice 9) := by kernel_rfl
@[simp] theorem size25 : sizeA Tryz.prog 25 = some 1 := by kernel_rfl
@[simp] theorem bytes25 : bytesA Tryz.prog 25 = some 8 := by kernel_rfl
@[simp] theorem agg25 : isAggA Tryz.prog 25 = some false := by kernel_rfl
@[simp] theorem elem25 : elemA Tryz.prog 25 = none := by kernel_rfl
@[simp] theorem zero25 : zeroA Tryz.prog 25 = some .nilf := by kernel_rfl
@[simp] theorem size29 : sizeA Tryz.prog 29 = some 1 := by kernel_rfl
@[simp] theorem bytes29 : bytesA Tryz.prog 29 = some 8 := by kernel_rfl
@[simp] theorem agg29 : isAggA Tryz.prog 29 = some false := by kernel_rfl
@[simp] theorem elem29 : elemA Tryz.prog 29 = none := by kernel_rfl
@[simp] theorem zero29 : zeroA Tryz.prog 29 = some (.int .i64 0) := by kernel_rfl
@[simp] theorem und29 : Tryz.prog.underlying 29 = some (.int .i64) := by kernel_rfl
@[simp] theorem size41 : sizeA Tryz.prog 41 = some 2 := by kernel_rfl
@[simp] theorem bytes41 : bytesA Tryz.prog 41 = some 32 := by kernel_rfl
@[simp] theorem agg41 : isAggA Tryz.prog 41 = some true := by kernel_rfl
@[simp] theorem elem41 : elemA Tryz.prog 41 = none := by kernel_rfl
@[simp] theorem zero41 : zeroA Tryz.prog 41 = some (.agg [(.str []), (.str [])]) := by kernel_rfl
@[simp] theorem bpl41 : buildPl Tryz.prog 41 = some (fun i => [(0, 1), (1, 1)][i]?) := by kernel_rfl
@[simp] theorem size54 : sizeA Tryz.prog 54 = some 1 := by kernel_rfl
@[simp] theorem bytes54 : bytesA Tryz.prog 54 = some 24 := by kernel_rfl
@[simp] theorem agg54 : isAggA Tryz.prog 54 = some false := by kernel_rfl
@[simp] theorem elem54 : elemA Tryz.prog 54 = some 41 := by kernel_rfl
@[simp] theorem zero54 : zeroA Tryz.prog 54 = some (.sl .nil []) := by kernel_rfl
@[simp] theorem und54 : Tryz.prog.underlying 54 = some (.slice 41) := by kernel_rfl
@[simp] theorem size61 : sizeA Tryz.prog 61 = some 4 := by kernel_rfl
@[simp] theorem bytes61 : bytesA Tryz.prog 61 = some 40 := by kernel_rfl
@[simp] theorem agg61 : isAggA Tryz.prog 61 = some true := by kernel_rfl
@[simp] theorem elem61 : elemA Tryz.prog 61 = none := by kernel_rfl
@[simp] theorem zero61 : zeroA Tryz.prog 61 = some (.agg [(.int .i64 0), (.int .i64 0), (.int .i64 0), (.str [])]) := by kernel_rfl
@[simp] theorem bpl61 : buildPl Tryz.prog 61 = some (fun i => [(0, 1), (1, 1), (2, 1), (3, 1)][i]?) := by kernel_rfl
@[simp] theorem size67 : sizeA Tryz.prog 67 = some 1 := by kernel_rfl
@[simp] theorem bytes67 : bytesA Tryz.prog 67 = some 8 := by kernel_rfl
@[simp] theorem agg67 : isAggA Tryz.prog 67 = some false := by kernel_rfl
@[simp] theorem elem67 : elemA Tryz.prog 67 = none := by kernel_rfl
@[simp] theorem zero67 : zeroA Tryz.prog 67 = some .nilf := by kernel_rfl
@[simp] theorem size68 : sizeA Tryz.prog 68 = some 1 := by kernel_rfl
@[simp] theorem bytes68 : bytesA Tryz.prog 68 = some 8 := by kernel_rfl
@[simp] theorem agg68 : isAggA Tryz.prog 68 = some false := by kernel_rfl
@[simp] theorem elem68 : elemA Tryz.prog 68 = none := by kernel_rfl
@[simp] theorem zero68 : zeroA Tryz.prog 68 = some .nilp := by kernel_rfl
@[simp] theorem size69 : sizeA Tryz.prog 69 = some 1 := by kernel_rfl
@[simp] theorem bytes69 : bytesA Tryz.prog 69 = some 24 := by kernel_rfl
@[simp] theorem agg69 : isAggA Tryz.prog 69 = some false := by kernel_rfl
@[simp] theorem elem69 : elemA Tryz.prog 69 = some 5 := by kernel_rfl
@[simp] theorem zero69 : zeroA Tryz.prog 69 = some (.sl .nil []) := by kernel_rfl
@[simp] theorem und69 : Tryz.prog.underlying 69 = some (.slice 5) := by kernel_rfl
@[simp] theorem size71 : sizeA Tryz.prog 71 = some 2 := by kernel_rfl
@[simp] theorem bytes71 : bytesA Tryz.prog 71 = some 32 := by kernel_rfl
@[simp] theorem agg71 : isAggA Tryz.prog 71 = some true := by kernel_rfl
@[simp] theorem elem71 : elemA Tryz.prog 71 = none := by kernel_rfl
@[simp] theorem zero71 : zeroA Tryz.prog 71 = some (.agg [.nilp, (.sl .nil [])]) := by kernel_rfl
@[simp] theorem bpl71 : buildPl Tryz.prog 71 = some (fun i => [(0, 1), (1, 1)][i]?) := by kernel_rfl
@[simp] theorem size73 : sizeA Tryz.prog 73 = some 1 := by kernel_rfl
@[simp] theorem bytes73 : bytesA Tryz.prog 73 = some 16 := by kernel_rfl
@[simp] theorem agg73 : isAggA Tryz.prog 73 = some false := by kernel_rfl
@[simp] theorem elem73 : elemA Tryz.prog 73 = none := by kernel_rfl
@[simp] theorem zero73 : zeroA Tryz.prog 73 = some .nili := by kernel_rfl
@[simp] theorem size87 : sizeA Tryz.prog 87 = some 1 := by kernel_rfl
@[simp] theorem bytes87 : bytesA Tryz.prog 87 = some 8 := by kernel_rfl
@[simp] theorem agg87 : isAggA Tryz.prog 87 = some false := by kernel_rfl
@[simp] theorem elem87 : elemA Tryz.prog 87 = none := by kernel_rfl
@[simp] theorem zero87 : zeroA Tryz.prog 87 = some .nilf := by kernel_rfl
@[simp] theorem size90 : sizeA Tryz.prog 90 = some 1 := by kernel_rfl
@[simp] theorem bytes90 : bytesA Tryz.prog 90 = some 24 := by kernel_rfl
@[simp] theorem agg90 : isAggA Tryz.prog 90 = some false := by kernel_rfl
@[simp] theorem elem90 : elemA Tryz.prog 90 = some 3 := by kernel_rfl
@[simp] theorem zero90 : zeroA Tryz.prog 90 = some (.sl .nil []) := by kernel_rfl
@[simp] theorem und90 : Tryz.prog.underlying 90 = some (.slice 3) := by kernel_rfl
@[simp] theorem size93 : sizeA Tryz.prog 93 = some 1 := by kernel_rfl
@[simp] theorem bytes93 : bytesA Tryz.prog 93 = some 8 := by kernel_rfl
@[simp] theorem agg93 : isAggA Tryz.prog 93 = some false := by kernel_rfl
@[simp] theorem elem93 : elemA Tryz.prog 93 = none := by kernel_rfl
@[simp] theorem zero93 : zeroA Tryz.prog 93 = some .nilp := by kernel_rfl
@[simp] theorem size97 : sizeA Tryz.prog 97 = some 1 := by kernel_rfl
@[simp] theorem bytes97 : bytesA Tryz.prog 97 = some 8 := by kernel_rfl
@[simp] theorem agg97 : isAggA Tryz.prog 97 = some false := by kernel_rfl
@[simp] theorem elem97 : elemA Tryz.prog 97 = none := by kernel_rfl
@[simp] theorem zero97 : zeroA Tryz.prog 97 = some .nilf := by kernel_rfl
@[simp] theorem size102 : sizeA Tryz.prog 102 = some 1 := by kernel_rfl
@[simp] theorem bytes102 : bytesA Tryz.prog 102 = some 8 := by kernel_rfl
@[simp] theorem agg102 : isAggA Tryz.prog 102 = some false := by kernel_rfl
@[simp] theorem elem102 : elemA Tryz.prog 102 = none := by kernel_rfl
@[simp] theorem zero102 : zeroA Tryz.prog 102 = some .nilp := by kernel_rfl
@[simp] theorem size104 : sizeA Tryz.prog 104 = some 1 := by kernel_rfl
@[simp] theorem bytes104 : bytesA Tryz.prog 104 = some 4 := by kernel_rfl
@[simp] theorem agg104 : isAggA Tryz.prog 104 = some false := by kernel_rfl
@[simp] theorem elem104 : elemA Tryz.prog 104 = none := by kernel_rfl
@[simp] theorem zero104 : zeroA Tryz.prog 104 = some (.int .u32 0) := by kernel_rfl
@[simp] theorem und104 : Tryz.prog.underlying 104 = some (.int .u32) := by kernel_rfl
@[simp] theorem size113 : sizeA Tryz.prog 113 = some 1 := by kernel_rfl
@[simp] theorem bytes113 : bytesA Tryz.prog 113 = some 8 := by kernel_rfl
@[simp] theorem agg113 : isAggA Tryz.prog 113 = some false := by kernel_rfl
@[simp] theorem elem113 : elemA Tryz.prog 113 = none := by kernel_rfl
@[simp] theorem zero113 : zeroA Tryz.prog 113 = some (.int .u64 0) := by kernel_rfl
@[simp] theorem und113 : Tryz.prog.underlying 113 = some (.int .u64) := by kernel_rfl
@[simp] theorem size114 : sizeA Tryz.prog 114 = some 1 := by kernel_rfl
@[simp] theorem bytes114 : bytesA Tryz.prog 114 = some 8 := by kernel_rfl
@[simp] theorem agg114 : isAggA Tryz.prog 114 = some false := by kernel_rfl
@[simp] theorem elem114 : elemA Tryz.prog 114 = none := by kernel_rfl
@[simp] theorem zero114 : zeroA Tryz.prog 114 = some (.int .i64 0) := by kernel_rfl
@[simp] theorem und114 : Tryz.prog.underlying 114 = some (.int .i64) := by kernel_rfl
@[simp] theorem size117 : sizeA Tryz.prog 117 = some 1 := by kernel_rfl
@[simp] theorem bytes117 : bytesA Tryz.prog 117 = some 8 := by kernel_rfl
@[simp] theorem agg117 : isAggA Tryz.prog 117 = some false := by kernel_rfl
@[simp] theorem elem117 : elemA Tryz.prog 117 = none := by kernel_rfl
@[simp] theorem zero117 : zeroA Tryz.prog 117 = some .nilp := by kernel_rfl
@[simp] theorem size120 : sizeA Tryz.prog 120 = some 24 := by kernel_rfl
@[simp] theorem bytes120 : bytesA Tryz.prog 120 = some 24 := by kernel_rfl
@[simp] theorem agg120 : isAggA Tryz.prog 120 = some true := by kernel_rfl
@[simp] theorem elem120 : elemA Tryz.prog 120 = none := by kernel_rfl
@[simp] theorem zero120 : zeroA Tryz.prog 120 = some (.agg (List.replicate 24 (.int .u8 0))) := by kernel_rfl
@[simp] theorem bpl120 : buildPl Tryz.prog 120 = some (fun i => some (i * 1, 1)) := by kernel_rfl
@[simp] theorem und120 : Tryz.prog.underlying 120 = some (.array 24 5) := by kernel_rfl
@[simp] theorem size121 : sizeA Tryz.prog 121 = some 1 := by kernel_rfl
@[simp] theorem bytes121 : bytesA Tryz.prog 121 = some 8 := by kernel_rfl
@[simp] theorem agg121 : isAggA Tryz.prog 121 = some false := by kernel_rfl
@[simp] theorem elem121 : elemA Tryz.prog 121 = none := by kernel_rfl
@[simp] theorem zero121 : zeroA Tryz.prog 121 = some (.int .u64 0) := by kernel_rfl
@[simp] theorem und121 : Tryz.prog.underlying 121 = some (.int .u64) := by kernel_rfl
@[simp] theorem size136 : sizeA Tryz.prog 136 = some 3 := by kernel_rfl
@[simp] theorem bytes136 : bytesA Tryz.prog 136 = some 48 := by kernel_rfl
@[simp] theorem agg136 : isAggA Tryz.prog 136 = some true := by kernel_rfl
@[simp] theorem elem136 : elemA Tryz.prog 136 = none := by kernel_rfl
@[simp] theorem zero136 : zeroA Tryz.prog 136 = some (.agg [(.str []), (.str []), .nili]) := by kernel_rfl
@[simp] theorem bpl136 : buildPl Tryz.prog 136 = some (fun i => [(0, 1), (1, 1), (2, 1)][i]?) := by kernel_rfl
@[simp] theorem size138 : sizeA Tryz.prog 138 = some 20 := by kernel_rfl
@[simp] theorem bytes138 : bytesA Tryz.prog 138 = some 160 := by kernel_rfl
@[simp] theorem agg138 : isAggA Tryz.prog 138 = some true := by kernel_rfl
@[simp] theorem elem138 : elemA Tryz.prog 138 = none := by kernel_rfl
@[simp] theorem zero138 : zeroA Tryz.prog 138 = some (.agg (List.replicate 20 (.int .u64 0))) := by kernel_rfl
@[simp] theorem bpl138 : buildPl Tryz.prog 138 = some (fun i => some (i * 1, 1)) := by kernel_rfl
@[simp] theorem und138 : Tryz.prog.underlying 138 = some (.array 20 121) := by kernel_rfl
@[simp] theorem size139 : sizeA Tryz.prog 139 = some 65 := by kernel_rfl
@[simp] theorem bytes139 : bytesA Tryz.prog 139 = some 65 := by kernel_rfl
@[simp] theorem agg139 : isAggA Tryz.prog 139 = some true := by kernel_rfl
@[simp] theorem elem139 : elemA Tryz.prog 139 = none := by kernel_rfl
@[simp] theorem bpl139 : buildPl Tryz.prog 139 = some (fun i => some (i * 1, 1)) := by kernel_rfl
@[simp] theorem und139 : Tryz.prog.underlying 139 = some (.array 65 5) := by kernel_rfl
@[simp] theorem size142 : sizeA Tryz.prog 142 = some 1 := by kernel_rfl
@[simp] theorem bytes142 : bytesA Tryz.prog 142 = some 8 := by kernel_rfl
@[simp] theorem agg142 : isAggA Tryz.prog 142 = some false := by kernel_rfl
@[simp] theorem elem142 : elemA Tryz.prog 142 = none := by kernel_rfl
@[simp] theorem zero142 : zeroA Tryz.prog 142 = some .nilp := by kernel_rfl
@[simp] theorem size144 : sizeA Tryz.prog 144 = some 1 := by kernel_rfl
@[simp] theorem bytes144 : bytesA Tryz.prog 144 = some 16 := by kernel_rfl
@[simp] theorem agg144 : isAggA Tryz.prog 144 = some true := by kernel_rfl
@[simp] theorem elem144 : elemA Tryz.prog 144 = none := by kernel_rfl
@[simp] theorem zero144 : zeroA Tryz.prog 144 = some (.agg [(.str [])]) := by kernel_rfl
@[simp] theorem bpl144 : buildPl Tryz.prog 144 = some (fun i => [(0, 1)][i]?) := by kernel_rfl
@[simp] theorem size146 : sizeA Tryz.prog 146 = some 256 := by kernel_rfl
@[simp] theorem bytes146 : bytesA Tryz.prog 146 = some 256 := by kernel_rfl
@[simp] theorem agg146 : isAggA Tryz.prog 146 = some true := by kernel_rfl
@[simp] theorem elem146 : elemA Tryz.prog 146 = none := by kernel_rfl
@[simp] theorem bpl146 : buildPl Tryz.prog 146 = some (fun i => some (i * 1, 1)) := by kernel_rfl
@[simp] theorem und146 : Tryz.prog.underlying 146 = some (.array 256 5) := by kernel_rfl
@[simp] theorem size148 : sizeA Tryz.prog 148 = some 2 := by kernel_rfl
@[simp] theorem bytes148 : bytesA Tryz.prog 148 = some 2 := by kernel_rfl
@[simp] theorem agg148 : isAggA Tryz.prog 148 = some true := by kernel_rfl
@[simp] theorem elem148 : elemA Tryz.prog 148 = none := by kernel_rfl
@[simp] theorem zero148 : zeroA Tryz.prog 148 = some (.agg [(.int .u8 0), (.int .u8 0)]) := by kernel_rfl
@[simp] theorem bpl148 : buildPl Tryz.prog 148 = some (fun i => [(0, 1), (1, 1)][i]?) := by kernel_rfl
@[simp] theorem size149 : sizeA Tryz.prog 149 = some 32 := by kernel_rfl
@[simp] theorem bytes149 : bytesA Tryz.prog 149 = some 32 := by kernel_rfl
@[simp] theorem agg149 : isAggA Tryz.prog 149 = some true := by kernel_rfl
@[simp] theorem elem149 : elemA Tryz.prog 149 = none := by kernel_rfl
@[simp] theorem zero149 : zeroA Tryz.prog 149 = some (.agg (List.replicate 32 (.int .u8 0))) := by kernel_rfl
@[simp] theorem bpl149 : buildPl Tryz.prog 149 = some (fun i => some (i * 2, 2)) := by kernel_rfl
@[simp] theorem und149 : Tryz.prog.underlying 149 = some (.array 16 148) := by kernel_rfl
@[simp] theorem size150 : sizeA Tryz.prog 150 = some 32 := by kernel_rfl
@[simp] theorem bytes150 : bytesA Tryz.prog 150 = some 32 := by kernel_rfl
@[simp] theorem agg150 : isAggA Tryz.prog 150 = some true := by kernel_rfl
@[simp] theorem elem150 : elemA Tryz.prog 150 = none := by kernel_rfl
@[simp] theorem zero150 : zeroA Tryz.prog 150 = some (.agg (List.replicate 32 (.int .u8 0))) := by kernel_rfl
@[simp] theorem bpl150 : buildPl Tryz.prog 150 = some (fun i => some (i * 1, 1)) := by kernel_rfl
@[simp] theorem und150 : Tryz.prog.underlying 150 = some (.array 32 5) := by kernel_rfl
@[simp] theorem size151 : sizeA Tryz.prog 151 = some 64 := by kernel_rfl
@[simp] theorem bytes151 : bytesA Tryz.prog 151 = some 64 := by kernel_rfl
@[simp] theorem agg151 : isAggA Tryz.prog 151 = some true := by kernel_rfl
@[simp] theorem elem151 : elemA Tryz.prog 151 = none := by kernel_rfl
@[simp] theorem zero151 : zeroA Tryz.prog 151 = some (.agg (List.replicate 64 (.int .u8 0))) := by kernel_rfl
@[simp] theorem bpl151 : buildPl Tryz.prog 151 = some (fun i => some (i * 1, 1)) := by kernel_rfl
@[simp] theorem und151 : Tryz.prog.underlying 151 = some (.array 64 5) := by kernel_rfl
@[simp] theorem field41x0 : fieldA Tryz.prog 41 0 = some (0, 9) := by kernel_rfl
@[simp] theorem field41x1 : fieldA Tryz.prog 41 1 = some (1, 9) := by kernel_rfl
@[simp] theorem field61x0 : fieldA Tryz.prog 61 0 = some (0, 3) := by kernel_rfl
@[simp] theorem field61x1 : fieldA Tryz.prog 61 1 = some (1, 3) := by kernel_rfl
@[simp] theorem field61x2 : fieldA Tryz.prog 61 2 = some (2, 3) := by kernel_rfl
@[simp] theorem field61x3 : fieldA Tryz.prog 61 3 = some (3, 9) := by kernel_rfl
@[simp] theorem field71x0 : fieldA Tryz.prog 71 0 = some (0, 68) := by kernel_rfl
@[simp] theorem field71x1 : fieldA Tryz.prog 71 1 = some (1, 69) := by kernel_rfl
@[simp] theorem field148x0 : fieldA Tryz.prog 148 0 = some (0, 5) := by kernel_rfl
@[simp] theorem field148x1 : fieldA Tryz.prog 148 1 = some (1, 5) := by kernel_rfl
@[simp] theorem iface20 : isIface Tryz.prog 20 = true := by kernel_rfl
@[simp] theorem func25 : isFuncT Tryz.prog 25 = true := by kernel_rfl
@[simp] theorem func67 : isFuncT Tryz.prog 67 = true := by kernel_rfl
@[simp] theorem iface73 : isIface Tryz.prog 73 = true := by kernel_rfl
@[simp] theorem func87 : isFuncT Tryz.prog 87 = true := by kernel_rfl
@[simp] theorem func97 : isFuncT Tryz.prog 97 = true := by kernel_rfl
@[simp] theorem eqs41 : eqShape Tryz.prog 41 = some [.str, .str] := by kernel_rfl
def h2 : Hint where
  vars := []
  conds := []
  steal := []
  live := []
  roots := []
  rets := true
  glob := []
  sw := []
  msd := []
  alt := []
  fz := 0
  gc := false
  wk := false
@[simp] theorem h2_vars : h2.vars = [] := rfl
@[simp] theorem h2_conds : h2.conds = [] := rfl
@[simp] theorem h2_steal : h2.steal = [] := rfl
@[simp] theorem h2_live : h2.live = [] := rfl
@[simp] theorem h2_roots : h2.roots = [] := rfl
@[simp] theorem h2_rets : h2.rets = true := rfl
@[simp] theorem h2_glob : h2.glob = [] := rfl
@[simp] theorem h2_sw : h2.sw = [] := rfl
@[simp] theorem h2_msd : h2.msd = [] := rfl
@[simp] theorem h2_alt : h2.alt = [] := rfl
@[simp] theorem h2_fz : h2.fz = 0 := rfl
@[simp] theorem h2_gc : h2.gc = false := rfl
@[simp] theorem h2_wk : h2.wk = false := rfl
def h3 : Hint where
  vars := [0, 1, 2, 6, 7, 8, 9, 10, 11, 12, 13, 14, 15, 16]
  conds := [28]
  steal := [25, 26, 29, 37, 45, 53, 58, 61, 62, 64, 67, 68, 83, 87, 88, 94, 95, 96, 98, 99, 101, 102, 104, 108, 114, 116, 120, 121, 122]
  live := []
  roots := []
  rets := true
  glob := []
  sw := []
  msd := []
  alt := []
  fz := 0
  gc := false
  wk := false
@[simp] theorem h3_vars : h3.vars = [0, 1, 2, 6, 7, 8, 9, 10, 11, 12, 13, 14, 15, 16] := rfl
@[simp] theorem h3_conds : h3.conds = [28] := rfl
@[simp] theorem h3_steal : h3.steal = [25, 26, 29, 37, 45, 53, 58, 61, 62, 64, 67, 68, 83, 87, 88, 94, 95, 96, 98, 99, 101, 102, 104, 108, 114, 116, 120, 121, 122] := rfl
@[simp] theorem h3_live : h3.live = [] := rfl
@[simp] theorem h3_roots : h3.roots = [] := rfl
@[simp] theorem h3_rets : h3.rets = true := rfl
@[simp] theorem h3_glob : h3.glob = [] := rfl
@[simp] theorem h3_sw : h3.sw = [] := rfl
@[simp] theorem h3_msd : h3.msd = [] := rfl
@[simp] theorem h3_alt : h3.alt = [] := rfl
@[simp] theorem h3_fz : h3.fz = 0 := rfl
@[simp] theorem h3_gc : h3.gc = false := rfl
@[simp] theorem h3_wk : h3.wk = false := rfl
def h4 : Hint where
  vars := [0, 2, 3, 4, 5, 6, 7, 8, 9, 10, 11]
  conds := [19]
  steal := [15, 20, 21, 25, 26, 30, 31, 35, 36, 37, 40, 41, 42, 44, 45, 47, 50, 51, 52, 55, 56, 58]
  live := []
  roots := []
  rets := true
  glob := []
  sw := []
  msd := []
  alt := []
  fz := 0
  gc := false
  wk := false
@[simp] theorem h4_vars : h4.vars = [0, 2, 3, 4, 5, 6, 7, 8, 9, 10, 11] := rfl
@[simp] theorem h4_conds : h4.conds = [19] := rfl
@[simp] theorem h4_steal : h4.steal = [15, 20, 21, 25, 26, 30, 31, 35, 36, 37, 40, 41, 42, 44, 45, 47, 50, 51, 52, 55, 56, 58] := rfl
@[simp] theorem h4_live : h4.live = [] := rfl
@[simp] theorem h4_roots : h4.roots = [] := rfl
@[simp] theorem h4_rets : h4.rets = true := rfl
@[simp] theorem h4_glob : h4.glob = [] := rfl
@[simp] theorem h4_sw : h4.sw = [] := rfl
@[simp] theorem h4_msd : h4.msd = [] := rfl
@[simp] theorem h4_alt : h4.alt = [] := rfl
@[simp] theorem h4_fz : h4.fz = 0 := rfl
@[simp] theorem h4_gc : h4.gc = false := rfl
@[simp] theorem h4_wk : h4.wk = false := rfl
def h5 : Hint where
  vars := [0, 1, 4, 5, 6, 7, 8, 9, 10, 11, 12, 13, 14]
  conds := [25, 44, 53]
  steal := [22, 23, 26, 27, 31, 32, 36, 37, 40, 41, 45, 49, 54, 56, 57, 62, 69, 72, 73, 77, 78, 80, 81, 82, 84, 85]
  live := [(12, [0, 1, 7, 9, 11, 12, 13, 14])]
  roots := []
  rets := true
  glob := []
  sw := []
  msd := []
  alt := []
  fz := 0
  gc := false
  wk := false
@[simp] theorem h5_vars : h5.vars = [0, 1, 4, 5, 6, 7, 8, 9, 10, 11, 12, 13, 14] := rfl
@[simp] theorem h5_conds : h5.conds = [25, 44, 53] := rfl
@[simp] theorem h5_steal : h5.steal = [22, 23, 26, 27, 31, 32, 36, 37, 40, 41, 45, 49, 54, 56, 57, 62, 69, 72, 73, 77, 78, 80, 81, 82, 84, 85] := rfl
@[simp] theorem h5_live : h5.live = [(12, [0, 1, 7, 9, 11, 12, 13, 14])] := rfl
@[simp] theorem h5_roots : h5.roots = [] := rfl
@[simp] theorem h5_rets : h5.rets = true := rfl
@[simp] theorem h5_glob : h5.glob = [] := rfl
@[simp] theorem h5_sw : h5.sw = [] := rfl
@[simp] theorem h5_msd : h5.msd = [] := rfl
@[simp] theorem h5_alt : h5.alt = [] := rfl
@[simp] theorem h5_fz : h5.fz = 0 := rfl
@[simp] theorem h5_gc : h5.gc = false := rfl
@[simp] theorem h5_wk : h5.wk = false := rfl
def h6 : Hint where
  vars := [0, 1, 4, 5, 6, 7, 8, 9, 13, 14, 15]
  conds := [32]
  steal := [23, 24, 27, 33, 34, 38, 39, 46, 47, 48, 51, 56, 59, 60, 67, 72, 75, 77, 79, 85, 86, 87, 90, 93, 94]
  live := []
  roots := []
  rets := true
  glob := []
  sw := []
  msd := []
  alt := []
  fz := 0
  gc := false
  wk := false
@[simp] theorem h6_vars : h6.vars = [0, 1, 4, 5, 6, 7, 8, 9, 13, 14, 15] := rfl
@[simp] theorem h6_conds : h6.conds = [32] := rfl
@[simp] theorem h6_steal : h6.steal = [23, 24, 27, 33, 34, 38, 39, 46, 47, 48, 51, 56, 59, 60, 67, 72, 75, 77, 79, 85, 86, 87, 90, 93, 94] := rfl
@[simp] theorem h6_live : h6.live = [] := rfl
@[simp] theorem h6_roots : h6.roots = [] := rfl
@[simp] theorem h6_rets : h6.rets = true := rfl
@[simp] theorem h6_glob : h6.glob = [] := rfl
@[simp] theorem h6_sw : h6.sw = [] := rfl
@[simp] theorem h6_msd : h6.msd = [] := rfl
@[simp] theorem h6_alt : h6.alt = [] := rfl
@[simp] theorem h6_fz : h6.fz = 0 := rfl
@[simp] theorem h6_gc : h6.gc = false := rfl
@[simp] theorem h6_wk : h6.wk = false := rfl
def h7 : Hint where
  vars := [0, 1, 4, 5, 6, 7, 8, 9, 10, 11]
  conds := [22]
  steal := [19, 20, 23, 24, 28, 29, 33]
  live := []
  roots := [(11, 11)]
  rets := true
  glob := []
  sw := []
  msd := []
  alt := []
  fz := 0
  gc := false
  wk := false
@[simp] theorem h7_vars : h7.vars = [0, 1, 4, 5, 6, 7, 8, 9, 10, 11] := rfl
@[simp] theorem h7_conds : h7.conds = [22] := rfl
@[simp] theorem h7_steal : h7.steal = [19, 20, 23, 24, 28, 29, 33] := rfl
@[simp] theorem h7_live : h7.live = [] := rfl
@[simp] theorem h7_roots : h7.roots = [(11, 11)] := rfl
@[simp] theorem h7_rets : h7.rets = true := rfl
@[simp] theorem h7_glob : h7.glob = [] := rfl
@[simp] theorem h7_sw : h7.sw = [] := rfl
@[simp] theorem h7_msd : h7.msd = [] := rfl
@[simp] theorem h7_alt : h7.alt = [] := rfl
@[simp] theorem h7_fz : h7.fz = 0 := rfl
@[simp] theorem h7_gc : h7.gc = false := rfl
@[simp] theorem h7_wk : h7.wk = false := rfl
def h8 : Hint where
  vars := [0, 1, 2, 3, 4, 10, 11, 12, 13, 14, 15, 16, 17, 18, 19, 20, 21, 22, 23, 24]
  conds := [37]
  steal := [34, 35, 38, 39, 46, 47, 48, 49, 50, 51, 54, 55, 61, 62, 63, 68, 69, 70, 72, 73, 75, 78, 79, 80, 83, 84, 85, 88, 89, 90, 93, 94, 95]
  live := []
  roots := []
  rets := true
  glob := []
  sw := []
  msd := []
  alt := []
  fz := 0
  gc := false
  wk := false
@[simp] theorem h8_vars : h8.vars = [0, 1, 2, 3, 4, 10, 11, 12, 13, 14, 15, 16, 17, 18, 19, 20, 21, 22, 23, 24] := rfl
@[simp] theorem h8_conds : h8.conds = [37] := rfl
@[simp] theorem h8_steal : h8.steal = [34, 35, 38, 39, 46, 47, 48, 49, 50, 51, 54, 55, 61, 62, 63, 68, 69, 70, 72, 73, 75, 78, 79, 80, 83, 84, 85, 88, 89, 90, 93, 94, 95] := rfl
@[simp] theorem h8_live : h8.live = [] := rfl
@[simp] theorem h8_roots : h8.roots = [] := rfl
@[simp] theorem h8_rets : h8.rets = true := rfl
@[simp] theorem h8_glob : h8.glob = [] := rfl
@[simp] theorem h8_sw : h8.sw = [] := rfl
@[simp] theorem h8_msd : h8.msd = [] := rfl
@[simp] theorem h8_alt : h8.alt = [] := rfl
@[simp] theorem h8_fz : h8.fz = 0 := rfl
@[simp] theorem h8_gc : h8.gc = false := rfl
@[simp] theorem h8_wk : h8.wk = false := rfl
def h9 : Hint where
  vars := [0, 1, 2, 3, 8, 9, 10, 11, 12, 13, 14, 15, 16, 17, 18, 19, 22, 23]
  conds := [35, 47, 78]
  steal := [32, 33, 36, 37, 44, 45, 48, 50, 56, 57, 60, 61, 62, 65, 66, 67, 70, 71, 74, 79, 86, 96, 98, 102, 103, 104, 105, 109, 110, 111]
  live := []
  roots := []
  rets := true
  glob := []
  sw := [92]
  msd := []
  alt := []
  fz := 0
  gc := false
  wk := false
@[simp] theorem h9_vars : h9.vars = [0, 1, 2, 3, 8, 9, 10, 11, 12, 13, 14, 15, 16, 17, 18, 19, 22, 23] := rfl
@[simp] theorem h9_conds : h9.conds = [35, 47, 78] := rfl
@[simp] theorem h9_steal : h9.steal = [32, 33, 36, 37, 44, 45, 48, 50, 56, 57, 60, 61, 62, 65, 66, 67, 70, 71, 74, 79, 86, 96, 98, 102, 103, 104, 105, 109, 110, 111] := rfl
@[simp] theorem h9_live : h9.live = [] := rfl
@[simp] theorem h9_roots : h9.roots = [] := rfl
@[simp] theorem h9_rets : h9.rets = true := rfl
@[simp] theorem h9_glob : h9.glob = [] := rfl
@[simp] theorem h9_sw : h9.sw = [92] := rfl
@[simp] theorem h9_msd : h9.msd = [] := rfl
@[simp] theorem h9_alt : h9.alt = [] := rfl
@[simp] theorem h9_fz : h9.fz = 0 := rfl
@[simp] theorem h9_gc : h9.gc = false := rfl
@[simp] theorem h9_wk : h9.wk = false := rfl
def h10 : Hint where
  vars := [0, 2, 3, 4, 5, 6, 7, 8, 9]
  conds := [18, 33, 37, 43, 54, 65, 87]
  steal := [15, 16, 19, 27, 38, 44, 55, 66]
  live := [(9, [0, 5, 6]), (14, [0, 5, 6, 7, 8, 9])]
  roots := []
  rets := true
  glob := []
  sw := [84]
  msd := []
  alt := []
  fz := 0
  gc := false
  wk := false
@[simp] theorem h10_vars : h10.vars = [0, 2, 3, 4, 5, 6, 7, 8, 9] := rfl
@[simp] theorem h10_conds : h10.conds = [18, 33, 37, 43, 54, 65, 87] := rfl
@[simp] theorem h10_steal : h10.steal = [15, 16, 19, 27, 38, 44, 55, 66] := rfl
@[simp] theorem h10_live : h10.live = [(9, [0, 5, 6]), (14, [0, 5, 6, 7, 8, 9])] := rfl
@[simp] theorem h10_roots : h10.roots = [] := rfl
@[simp] theorem h10_rets : h10.rets = true := rfl
@[simp] theorem h10_glob : h10.glob = [] := rfl
@[simp] theorem h10_sw : h10.sw = [84] := rfl
@[simp] theorem h10_msd : h10.msd = [] := rfl
@[simp] theorem h10_alt : h10.alt = [] := rfl
@[simp] theorem h10_fz : h10.fz = 0 := rfl
@[simp] theorem h10_gc : h10.gc = false := rfl
@[simp] theorem h10_wk : h10.wk = false := rfl
def h11 : Hint where
  vars := [0, 2, 3, 4, 5, 6, 7, 8, 9, 10]
  conds := [19, 43, 62, 85]
  steal := [16, 20, 22, 36, 40, 41, 44, 50, 54, 55, 63, 86]
  live := [(4, [0, 3, 4, 5]), (14, [0, 9, 10])]
  roots := []
  rets := true
  glob := []
  sw := []
  msd := []
  alt := []
  fz := 0
  gc := false
  wk := false
@[simp] theorem h11_vars : h11.vars = [0, 2, 3, 4, 5, 6, 7, 8, 9, 10] := rfl
@[simp] theorem h11_conds : h11.conds = [19, 43, 62, 85] := rfl
@[simp] theorem h11_steal : h11.steal = [16, 20, 22, 36, 40, 41, 44, 50, 54, 55, 63, 86] := rfl
@[simp] theorem h11_live : h11.live = [(4, [0, 3, 4, 5]), (14, [0, 9, 10])] := rfl
@[simp] theorem h11_roots : h11.roots = [] := rfl
@[simp] theorem h11_rets : h11.rets = true := rfl
@[simp] theorem h11_glob : h11.glob = [] := rfl
@[simp] theorem h11_sw : h11.sw = [] := rfl
@[simp] theorem h11_msd : h11.msd = [] := rfl
@[simp] theorem h11_alt : h11.alt = [] := rfl
@[simp] theorem h11_fz : h11.fz = 0 := rfl
@[simp] theorem h11_gc : h11.gc = false := rfl
@[simp] theorem h11_wk : h11.wk = false := rfl
def h12 : Hint where
  vars := [0, 1, 2, 6, 7, 8, 9, 10, 11, 12, 13, 14, 15, 16, 17, 18, 19, 20, 21, 22]
  conds := [35, 71]
  steal := [32, 33, 36, 37, 44, 45, 52, 58, 62, 63, 64, 77, 78, 79, 82, 83, 84, 87, 88, 89, 92, 93, 94, 97, 98, 99, 102, 111, 112, 113, 115, 118, 119]
  live := []
  roots := []
  rets := true
  glob := []
  sw := []
  msd := []
  alt := []
  fz := 0
  gc := false
  wk := false
@[simp] theorem h12_vars : h12.vars = [0, 1, 2, 6, 7, 8, 9, 10, 11, 12, 13, 14, 15, 16, 17, 18, 19, 20, 21, 22] := rfl
@[simp] theorem h12_conds : h12.conds = [35, 71] := rfl
@[simp] theorem h12_steal : h12.steal = [32, 33, 36, 37, 44, 45, 52, 58, 62, 63, 64, 77, 78, 79, 82, 83, 84, 87, 88, 89, 92, 93, 94, 97, 98, 99, 102, 111, 112, 113, 115, 118, 119] := rfl
@[simp] theorem h12_live : h12.live = [] := rfl
@[simp] theorem h12_roots : h12.roots = [] := rfl
@[simp] theorem h12_rets : h12.rets = true := rfl
@[simp] theorem h12_glob : h12.glob = [] := rfl
@[simp] theorem h12_sw : h12.sw = [] := rfl
@[simp] theorem h12_msd : h12.msd = [] := rfl
@[simp] theorem h12_alt : h12.alt = [] := rfl
@[simp] theorem h12_fz : h12.fz = 0 := rfl
@[simp] theorem h12_gc : h12.gc = false := rfl
@[simp] theorem h12_wk : h12.wk = false := rfl
def h13 : Hint where
  vars := [0, 1, 2, 3, 4]
  conds := []
  steal := [5, 8, 9, 12, 14, 18, 22, 23, 26, 27, 31, 36, 37, 40, 41]
  live := []
  roots := []
  rets := true
  glob := []
  sw := []
  msd := []
  alt := []
  fz := 0
  gc := false
  wk := false
@[simp] theorem h13_vars : h13.vars = [0, 1, 2, 3, 4] := rfl
@[simp] theorem h13_conds : h13.conds = [] := rfl
@[simp] theorem h13_steal : h13.steal = [5, 8, 9, 12, 14, 18, 22, 23, 26, 27, 31, 36, 37, 40, 41] := rfl
@[simp] theorem h13_live : h13.live = [] := rfl
@[simp] theorem h13_roots : h13.roots = [] := rfl
@[simp] theorem h13_rets : h13.rets = true := rfl
@[simp] theorem h13_glob : h13.glob = [] := rfl
@[simp] theorem h13_sw : h13.sw = [] := rfl
@[simp] theorem h13_msd : h13.msd = [] := rfl
@[simp] theorem h13_alt : h13.alt = [] := rfl
@[simp] theorem h13_fz : h13.fz = 0 := rfl
@[simp] theorem h13_gc : h13.gc = false := rfl
@[simp] theorem h13_wk : h13.wk = false := rfl
def h14 : Hint where
  vars := [0, 2, 3]
  conds := [11, 19]
  steal := [8, 12, 20]
  live := [(2, [0, 3])]
  roots := []
  rets := true
  glob := []
  sw := []
  msd := []
  alt := []
  fz := 0
  gc := false
  wk := false
@[simp] theorem h14_vars : h14.vars = [0, 2, 3] := rfl
@[simp] theorem h14_conds : h14.conds = [11, 19] := rfl
@[simp] theorem h14_steal : h14.steal = [8, 12, 20] := rfl
@[simp] theorem h14_live : h14.live = [(2, [0, 3])] := rfl
@[simp] theorem h14_roots : h14.roots = [] := rfl
@[simp] theorem h14_rets : h14.rets = true := rfl
@[simp] theorem h14_glob : h14.glob = [] := rfl
@[simp] theorem h14_sw : h14.sw = [] := rfl
@[simp] theorem h14_msd : h14.msd = [] := rfl
@[simp] theorem h14_alt : h14.alt = [] := rfl
@[simp] theorem h14_fz : h14.fz = 0 := rfl
@[simp] theorem h14_gc : h14.gc = false := rfl
@[simp] theorem h14_wk : h14.wk = false := rfl
def h15 : Hint where
  vars := [0, 1, 4, 5, 6, 7, 8]
  conds := [19, 29, 32]
  steal := [9, 13, 14, 18, 22, 26, 27, 30, 33]
  live := []
  roots := [(35, 5), (37, 7), (40, 5), (42, 7), (45, 5), (47, 7), (50, 5), (52, 7)]
  rets := true
  glob := []
  sw := []
  msd := []
  alt := []
  fz := 0
  gc := false
  wk := false
@[simp] theorem h15_vars : h15.vars = [0, 1, 4, 5, 6, 7, 8] := rfl
@[simp] theorem h15_conds : h15.conds = [19, 29, 32] := rfl
@[simp] theorem h15_steal : h15.steal = [9, 13, 14, 18, 22, 26, 27, 30, 33] := rfl
@[simp] theorem h15_live : h15.live = [] := rfl
@[simp] theorem h15_roots : h15.roots = [(35, 5), (37, 7), (40, 5), (42, 7), (45, 5), (47, 7), (50, 5), (52, 7)] := rfl
@[simp] theorem h15_rets : h15.rets = true := rfl
@[simp] theorem h15_glob : h15.glob = [] := rfl
@[simp] theorem h15_sw : h15.sw = [] := rfl
@[simp] theorem h15_msd : h15.msd = [] := rfl
@[simp] theorem h15_alt : h15.alt = [] := rfl
@[simp] theorem h15_fz : h15.fz = 0 := rfl
@[simp] theorem h15_gc : h15.gc = false := rfl
@[simp] theorem h15_wk : h15.wk = false := rfl
def h16 : Hint where
  vars := [0, 2, 4]
  conds := []
  steal := [5, 6, 9, 10]
  live := []
  roots := []
  rets := true
  glob := []
  sw := []
  msd := []
  alt := []
  fz := 0
  gc := false
  wk := false
@[simp] theorem h16_vars : h16.vars = [0, 2, 4] := rfl
@[simp] theorem h16_conds : h16.conds = [] := rfl
@[simp] theorem h16_steal : h16.steal = [5, 6, 9, 10] := rfl
@[simp] theorem h16_live : h16.live = [] := rfl
@[simp] theorem h16_roots : h16.roots = [] := rfl
@[simp] theorem h16_rets : h16.rets = true := rfl
@[simp] theorem h16_glob : h16.glob = [] := rfl
@[simp] theorem h16_sw : h16.sw = [] := rfl
@[simp] theorem h16_msd : h16.msd = [] := rfl
@[simp] theorem h16_alt : h16.alt = [] := rfl
@[simp] theorem h16_fz : h16.fz = 0 := rfl
@[simp] theorem h16_gc : h16.gc = false := rfl
@[simp] theorem h16_wk : h16.wk = false := rfl
def h17 : Hint where
  vars := [0, 1, 4]
  conds := [8]
  steal := [9, 10]
  live := []
  roots := []
  rets := true
  glob := []
  sw := []
  msd := []
  alt := []
  fz := 0
  gc := false
  wk := false
@[simp] theorem h17_vars : h17.vars = [0, 1, 4] := rfl
@[simp] theorem h17_conds : h17.conds = [8] := rfl
@[simp] theorem h17_steal : h17.steal = [9, 10] := rfl
@[simp] theorem h17_live : h17.live = [] := rfl
@[simp] theorem h17_roots : h17.roots = [] := rfl
@[simp] theorem h17_rets : h17.rets = true := rfl
@[simp] theorem h17_glob : h17.glob = [] := rfl
@[simp] theorem h17_sw : h17.sw = [] := rfl
@[simp] theorem h17_msd : h17.msd = [] := rfl
@[simp] theorem h17_alt : h17.alt = [] := rfl
@[simp] theorem h17_fz : h17.fz = 0 := rfl
@[simp] theorem h17_gc : h17.gc = false := rfl
@[simp] theorem h17_wk : h17.wk = false := rfl
def h18 : Hint where
  vars := [0, 2, 3, 4, 5]
  conds := [7, 11, 17]
  steal := [12]
  live := [(5, [0, 4, 5])]
  roots := []
  rets := true
  glob := [4]
  sw := []
  msd := []
  alt := []
  fz := 0
  gc := true
  wk := false
@[simp] theorem h18_vars : h18.vars = [0, 2, 3, 4, 5] := rfl
@[simp] theorem h18_conds : h18.conds = [7, 11, 17] := rfl
@[simp] theorem h18_steal : h18.steal = [12] := rfl
@[simp] theorem h18_live : h18.live = [(5, [0, 4, 5])] := rfl
@[simp] theorem h18_roots : h18.roots = [] := rfl
@[simp] theorem h18_rets : h18.rets = true := rfl
@[simp] theorem h18_glob : h18.glob = [4] := rfl
@[simp] theorem h18_sw : h18.sw = [] := rfl
@[simp] theorem h18_msd : h18.msd = [] := rfl
@[simp] theorem h18_alt : h18.alt = [] := rfl
@[simp] theorem h18_fz : h18.fz = 0 := rfl
@[simp] theorem h18_gc : h18.gc = true := rfl
@[simp] theorem h18_wk : h18.wk = false := rfl
def h19 : Hint where
  vars := [0, 2, 3, 4, 5, 6]
  conds := [10, 21, 23]
  steal := [11, 18, 24, 25, 29, 30, 33]
  live := [(3, [0, 4, 5])]
  roots := []
  rets := true
  glob := []
  sw := []
  msd := []
  alt := []
  fz := 0
  gc := false
  wk := false
@[simp] theorem h19_vars : h19.vars = [0, 2, 3, 4, 5, 6] := rfl
@[simp] theorem h19_conds : h19.conds = [10, 21, 23] := rfl
@[simp] theorem h19_steal : h19.steal = [11, 18, 24, 25, 29, 30, 33] := rfl
@[simp] theorem h19_live : h19.live = [(3, [0, 4, 5])] := rfl
@[simp] theorem h19_roots : h19.roots = [] := rfl
@[simp] theorem h19_rets : h19.rets = true := rfl
@[simp] theorem h19_glob : h19.glob = [] := rfl
@[simp] theorem h19_sw : h19.sw = [] := rfl
@[simp] theorem h19_msd : h19.msd = [] := rfl
@[simp] theorem h19_alt : h19.alt = [] := rfl
@[simp] theorem h19_fz : h19.fz = 0 := rfl
@[simp] theorem h19_gc : h19.gc = false := rfl
@[simp] theorem h19_wk : h19.wk = false := rfl
def h20 : Hint where
  vars := [0, 2, 3, 4, 5]
  conds := [7, 11, 17, 34]
  steal := [12, 22, 28]
  live := [(5, [0, 4, 5])]
  roots := []
  rets := true
  glob := [4]
  sw := []
  msd := []
  alt := []
  fz := 0
  gc := true
  wk := false
@[simp] theorem h20_vars : h20.vars = [0, 2, 3, 4, 5] := rfl
@[simp] theorem h20_conds : h20.conds = [7, 11, 17, 34] := rfl
@[simp] theorem h20_steal : h20.steal = [12, 22, 28] := rfl
@[simp] theorem h20_live : h20.live = [(5, [0, 4, 5])] := rfl
@[simp] theorem h20_roots : h20.roots = [] := rfl
@[simp] theorem h20_rets : h20.rets = true := rfl
@[simp] theorem h20_glob : h20.glob = [4] := rfl
@[simp] theorem h20_sw : h20.sw = [] := rfl
@[simp] theorem h20_msd : h20.msd = [] := rfl
@[simp] theorem h20_alt : h20.alt = [] := rfl
@[simp] theorem h20_fz : h20.fz = 0 := rfl
@[simp] theorem h20_gc : h20.gc = true := rfl
@[simp] theorem h20_wk : h20.wk = false := rfl
def h21 : Hint where
  vars := [0, 2, 3, 4, 5, 6]
  conds := [10, 21, 23, 40]
  steal := [11, 18, 24, 25, 33, 41, 49, 51]
  live := [(3, [0, 4, 5])]
  roots := []
  rets := true
  glob := []
  sw := []
  msd := []
  alt := []
  fz := 0
  gc := false
  wk := false
@[simp] theorem h21_vars : h21.vars = [0, 2, 3, 4, 5, 6] := rfl
@[simp] theorem h21_conds : h21.conds = [10, 21, 23, 40] := rfl
@[simp] theorem h21_steal : h21.steal = [11, 18, 24, 25, 33, 41, 49, 51] := rfl
@[simp] theorem h21_live : h21.live = [(3, [0, 4, 5])] := rfl
@[simp] theorem h21_roots : h21.roots = [] := rfl
@[simp] theorem h21_rets : h21.rets = true := rfl
@[simp] theorem h21_glob : h21.glob = [] := rfl
@[simp] theorem h21_sw : h21.sw = [] := rfl
@[simp] theorem h21_msd : h21.msd = [] := rfl
@[simp] theorem h21_alt : h21.alt = [] := rfl
@[simp] theorem h21_fz : h21.fz = 0 := rfl
@[simp] theorem h21_gc : h21.gc = false := rfl
@[simp] theorem h21_wk : h21.wk = false := rfl
def h22 : Hint where
  vars := [0, 2]
  conds := []
  steal := [3]
  live := []
  roots := []
  rets := true
  glob := []
  sw := []
  msd := []
  alt := []
  fz := 0
  gc := false
  wk := false
@[simp] theorem h22_vars : h22.vars = [0, 2] := rfl
@[simp] theorem h22_conds : h22.conds = [] := rfl
@[simp] theorem h22_steal : h22.steal = [3] := rfl
@[simp] theorem h22_live : h22.live = [] := rfl
@[simp] theorem h22_roots : h22.roots = [] := rfl
@[simp] theorem h22_rets : h22.rets = true := rfl
@[simp] theorem h22_glob : h22.glob = [] := rfl
@[simp] theorem h22_sw : h22.sw = [] := rfl
@[simp] theorem h22_msd : h22.msd = [] := rfl
@[simp] theorem h22_alt : h22.alt = [] := rfl
@[simp] theorem h22_fz : h22.fz = 0 := rfl
@[simp] theorem h22_gc : h22.gc = false := rfl
@[simp] theorem h22_wk : h22.wk = false := rfl
def h23 : Hint where
  vars := [0, 2, 3, 5, 6, 7, 9]
  conds := [12, 37, 62]
  steal := [13, 18, 23, 28, 30, 33, 34, 43, 44, 47, 48, 49, 54, 55, 59, 60]
  live := []
  roots := []
  rets := true
  glob := []
  sw := []
  msd := []
  alt := []
  fz := 0
  gc := true
  wk := false
@[simp] theorem h23_vars : h23.vars = [0, 2, 3, 5, 6, 7, 9] := rfl
@[simp] theorem h23_conds : h23.conds = [12, 37, 62] := rfl
@[simp] theorem h23_steal : h23.steal = [13, 18, 23, 28, 30, 33, 34, 43, 44, 47, 48, 49, 54, 55, 59, 60] := rfl
@[simp] theorem h23_live : h23.live = [] := rfl
@[simp] theorem h23_roots : h23.roots = [] := rfl
@[simp] theorem h23_rets : h23.rets = true := rfl
@[simp] theorem h23_glob : h23.glob = [] := rfl
@[simp] theorem h23_sw : h23.sw = [] := rfl
@[simp] theorem h23_msd : h23.msd = [] := rfl
@[simp] theorem h23_alt : h23.alt = [] := rfl
@[simp] theorem h23_fz : h23.fz = 0 := rfl
@[simp] theorem h23_gc : h23.gc = true := rfl
@[simp] theorem h23_wk : h23.wk = false := rfl
def h24 : Hint where
  vars := [0, 2, 3, 4, 5, 6, 7, 8]
  conds := [12, 36]
  steal := [13, 14, 21, 22, 23, 26, 27, 29, 30, 33, 37, 38, 39, 41]
  live := []
  roots := []
  rets := true
  glob := []
  sw := []
  msd := []
  alt := []
  fz := 0
  gc := false
  wk := false
@[simp] theorem h24_vars : h24.vars = [0, 2, 3, 4, 5, 6, 7, 8] := rfl
@[simp] theorem h24_conds : h24.conds = [12, 36] := rfl
@[simp] theorem h24_steal : h24.steal = [13, 14, 21, 22, 23, 26, 27, 29, 30, 33, 37, 38, 39, 41] := rfl
@[simp] theorem h24_live : h24.live = [] := rfl
@[simp] theorem h24_roots : h24.roots = [] := rfl
@[simp] theorem h24_rets : h24.rets = true := rfl
@[simp] theorem h24_glob : h24.glob = [] := rfl
@[simp] theorem h24_sw : h24.sw = [] := rfl
@[simp] theorem h24_msd : h24.msd = [] := rfl
@[simp] theorem h24_alt : h24.alt = [] := rfl
@[simp] theorem h24_fz : h24.fz = 0 := rfl
@[simp] theorem h24_gc : h24.gc = false := rfl
@[simp] theorem h24_wk : h24.wk = false := rfl
def h25 : Hint where
  vars := [0, 2, 3, 4, 5, 6, 7, 8]
  conds := []
  steal := [9, 10, 13]
  live := []
  roots := [(14, 7), (16, 7), (18, 7), (20, 7)]
  rets := true
  glob := []
  sw := []
  msd := []
  alt := []
  fz := 0
  gc := false
  wk := false
@[simp] theorem h25_vars : h25.vars = [0, 2, 3, 4, 5, 6, 7, 8] := rfl
@[simp] theorem h25_conds : h25.conds = [] := rfl
@[simp] theorem h25_steal : h25.steal = [9, 10, 13] := rfl
@[simp] theorem h25_live : h25.live = [] := rfl
@[simp] theorem h25_roots : h25.roots = [(14, 7), (16, 7), (18, 7), (20, 7)] := rfl
@[simp] theorem h25_rets : h25.rets = true := rfl
@[simp] theorem h25_glob : h25.glob = [] := rfl
@[simp] theorem h25_sw : h25.sw = [] := rfl
@[simp] theorem h25_msd : h25.msd = [] := rfl
@[simp] theorem h25_alt : h25.alt = [] := rfl
@[simp] theorem h25_fz : h25.fz = 0 := rfl
@[simp] theorem h25_gc : h25.gc = false := rfl
@[simp] theorem h25_wk : h25.wk = false := rfl
def h26 : Hint where
  vars := [0, 2]
  conds := [4]
  steal := [5, 12]
  live := []
  roots := []
  rets := true
  glob := []
  sw := []
  msd := []
  alt := []
  fz := 0
  gc := false
  wk := false
@[simp] theorem h26_vars : h26.vars = [0, 2] := rfl
@[simp] theorem h26_conds : h26.conds = [4] := rfl
@[simp] theorem h26_steal : h26.steal = [5, 12] := rfl
@[simp] theorem h26_live : h26.live = [] := rfl
@[simp] theorem h26_roots : h26.roots = [] := rfl
@[simp] theorem h26_rets : h26.rets = true := rfl
@[simp] theorem h26_glob : h26.glob = [] := rfl
@[simp] theorem h26_sw : h26.sw = [] := rfl
@[simp] theorem h26_msd : h26.msd = [] := rfl
@[simp] theorem h26_alt : h26.alt = [] := rfl
@[simp] theorem h26_fz : h26.fz = 0 := rfl
@[simp] theorem h26_gc : h26.gc = false := rfl
@[simp] theorem h26_wk : h26.wk = false := rfl
def h27 : Hint where
  vars := [0, 1, 4, 5, 6, 8]
  conds := []
  steal := [9, 10, 13, 14, 15, 18, 19, 20, 25, 26, 28]
  live := []
  roots := []
  rets := true
  glob := []
  sw := []
  msd := []
  alt := []
  fz := 0
  gc := false
  wk := false
@[simp] theorem h27_vars : h27.vars = [0, 1, 4, 5, 6, 8] := rfl
@[simp] theorem h27_conds : h27.conds = [] := rfl
@[simp] theorem h27_steal : h27.steal = [9, 10, 13, 14, 15, 18, 19, 20, 25, 26, 28] := rfl
@[simp] theorem h27_live : h27.live = [] := rfl
@[simp] theorem h27_roots : h27.roots = [] := rfl
@[simp] theorem h27_rets : h27.rets = true := rfl
@[simp] theorem h27_glob : h27.glob = [] := rfl
@[simp] theorem h27_sw : h27.sw = [] := rfl
@[simp] theorem h27_msd : h27.msd = [] := rfl
@[simp] theorem h27_alt : h27.alt = [] := rfl
@[simp] theorem h27_fz : h27.fz = 0 := rfl
@[simp] theorem h27_gc : h27.gc = false := rfl
@[simp] theorem h27_wk : h27.wk = false := rfl
def h28 : Hint where
  vars := [0, 2]
  conds := [5, 9]
  steal := [6]
  live := []
  roots := []
  rets := true
  glob := []
  sw := []
  msd := []
  alt := []
  fz := 0
  gc := true
  wk := false
@[simp] theorem h28_vars : h28.vars = [0, 2] := rfl
@[simp] theorem h28_conds : h28.conds = [5, 9] := rfl
@[simp] theorem h28_steal : h28.steal = [6] := rfl
@[simp] theorem h28_live : h28.live = [] := rfl
@[simp] theorem h28_roots : h28.roots = [] := rfl
@[simp] theorem h28_rets : h28.rets = true := rfl
@[simp] theorem h28_glob : h28.glob = [] := rfl
@[simp] theorem h28_sw : h28.sw = [] := rfl
@[simp] theorem h28_msd : h28.msd = [] := rfl
@[simp] theorem h28_alt : h28.alt = [] := rfl
@[simp] theorem h28_fz : h28.fz = 0 := rfl
@[simp] theorem h28_gc : h28.gc = true := rfl
@[simp] theorem h28_wk : h28.wk = false := rfl
def h29 : Hint where
  vars := [0, 2, 3, 4, 5, 6]
  conds := [10, 21]
  steal := [11, 12, 19, 20, 22, 23, 24, 26]
  live := []
  roots := []
  rets := true
  glob := []
  sw := []
  msd := []
  alt := []
  fz := 0
  gc := false
  wk := false
@[simp] theorem h29_vars : h29.vars = [0, 2, 3, 4, 5, 6] := rfl
@[simp] theorem h29_conds : h29.conds = [10, 21] := rfl
@[simp] theorem h29_steal : h29.steal = [11, 12, 19, 20, 22, 23, 24, 26] := rfl
@[simp] theorem h29_live : h29.live = [] := rfl
@[simp] theorem h29_roots : h29.roots = [] := rfl
@[simp] theorem h29_rets : h29.rets = true := rfl
@[simp] theorem h29_glob : h29.glob = [] := rfl
@[simp] theorem h29_sw : h29.sw = [] := rfl
@[simp] theorem h29_msd : h29.msd = [] := rfl
@[simp] theorem h29_alt : h29.alt = [] := rfl
@[simp] theorem h29_fz : h29.fz = 0 := rfl
@[simp] theorem h29_gc : h29.gc = false := rfl
@[simp] theorem h29_wk : h29.wk = false := rfl
def h30 : Hint where
  vars := [0, 2, 3, 4, 5, 6, 8]
  conds := [11, 17, 26, 31, 59]
  steal := [12, 18, 25, 38, 42, 43, 46, 51, 52, 56, 57]
  live := [(5, [3, 4])]
  roots := []
  rets := true
  glob := []
  sw := []
  msd := []
  alt := []
  fz := 0
  gc := false
  wk := false
@[simp] theorem h30_vars : h30.vars = [0, 2, 3, 4, 5, 6, 8] := rfl
@[simp] theorem h30_conds : h30.conds = [11, 17, 26, 31, 59] := rfl
@[simp] theorem h30_steal : h30.steal = [12, 18, 25, 38, 42, 43, 46, 51, 52, 56, 57] := rfl
@[simp] theorem h30_live : h30.live = [(5, [3, 4])] := rfl
@[simp] theorem h30_roots : h30.roots = [] := rfl
@[simp] theorem h30_rets : h30.rets = true := rfl
@[simp] theorem h30_glob : h30.glob = [] := rfl
@[simp] theorem h30_sw : h30.sw = [] := rfl
@[simp] theorem h30_msd : h30.msd = [] := rfl
@[simp] theorem h30_alt : h30.alt = [] := rfl
@[simp] theorem h30_fz : h30.fz = 0 := rfl
@[simp] theorem h30_gc : h30.gc = false := rfl
@[simp] theorem h30_wk : h30.wk = false := rfl
def h31 : Hint where
  vars := [0, 2, 3, 4, 5]
  conds := [8, 14, 23]
  steal := [9, 15, 22]
  live := [(5, [3, 4])]
  roots := []
  rets := true
  glob := []
  sw := []
  msd := []
  alt := []
  fz := 0
  gc := false
  wk := false
@[simp] theorem h31_vars : h31.vars = [0, 2, 3, 4, 5] := rfl
@[simp] theorem h31_conds : h31.conds = [8, 14, 23] := rfl
@[simp] theorem h31_steal : h31.steal = [9, 15, 22] := rfl
@[simp] theorem h31_live : h31.live = [(5, [3, 4])] := rfl
@[simp] theorem h31_roots : h31.roots = [] := rfl
@[simp] theorem h31_rets : h31.rets = true := rfl
@[simp] theorem h31_glob : h31.glob = [] := rfl
@[simp] theorem h31_sw : h31.sw = [] := rfl
@[simp] theorem h31_msd : h31.msd = [] := rfl
@[simp] theorem h31_alt : h31.alt = [] := rfl
@[simp] theorem h31_fz : h31.fz = 0 := rfl
@[simp] theorem h31_gc : h31.gc = false := rfl
@[simp] theorem h31_wk : h31.wk = false := rfl
def h32 : Hint where
  vars := [0, 1, 4, 5, 9, 11]
  conds := []
  steal := [12, 13, 19, 20, 21, 24, 25, 26, 30, 31, 33, 34]
  live := []
  roots := []
  rets := true
  glob := []
  sw := []
  msd := []
  alt := []
  fz := 0
  gc := false
  wk := false
@[simp] theorem h32_vars : h32.vars = [0, 1, 4, 5, 9, 11] := rfl
@[simp] theorem h32_conds : h32.conds = [] := rfl
@[simp] theorem h32_steal : h32.steal = [12, 13, 19, 20, 21, 24, 25, 26, 30, 31, 33, 34] := rfl
@[simp] theorem h32_live : h32.live = [] := rfl
@[simp] theorem h32_roots : h32.roots = [] := rfl
@[simp] theorem h32_rets : h32.rets = true := rfl
@[simp] theorem h32_glob : h32.glob = [] := rfl
@[simp] theorem h32_sw : h32.sw = [] := rfl
@[simp] theorem h32_msd : h32.msd = [] := rfl
@[simp] theorem h32_alt : h32.alt = [] := rfl
@[simp] theorem h32_fz : h32.fz = 0 := rfl
@[simp] theorem h32_gc : h32.gc = false := rfl
@[simp] theorem h32_wk : h32.wk = false := rfl
def h33 : Hint where
  vars := [0, 1, 2, 3]
  conds := [8, 13, 19]
  steal := [9]
  live := []
  roots := []
  rets := true
  glob := []
  sw := []
  msd := []
  alt := []
  fz := 0
  gc := false
  wk := false
@[simp] theorem h33_vars : h33.vars = [0, 1, 2, 3] := rfl
@[simp] theorem h33_conds : h33.conds = [8, 13, 19] := rfl
@[simp] theorem h33_steal : h33.steal = [9] := rfl
@[simp] theorem h33_live : h33.live = [] := rfl
@[simp] theorem h33_roots : h33.roots = [] := rfl
@[simp] theorem h33_rets : h33.rets = true := rfl
@[simp] theorem h33_glob : h33.glob = [] := rfl
@[simp] theorem h33_sw : h33.sw = [] := rfl
@[simp] theorem h33_msd : h33.msd = [] := rfl
@[simp] theorem h33_alt : h33.alt = [] := rfl
@[simp] theorem h33_fz : h33.fz = 0 := rfl
@[simp] theorem h33_gc : h33.gc = false := rfl
@[simp] theorem h33_wk : h33.wk = false := rfl
def h34 : Hint where
  vars := [0, 1, 2, 3]
  conds := [8, 13, 19]
  steal := [9]
  live := []
  roots := []
  rets := true
  glob := []
  sw := []
  msd := []
  alt := []
  fz := 0
  gc := false
  wk := false
@[simp] theorem h34_vars : h34.vars = [0, 1, 2, 3] := rfl
@[simp] theorem h34_conds : h34.conds = [8, 13, 19] := rfl
@[simp] theorem h34_steal : h34.steal = [9] := rfl
@[simp] theorem h34_live : h34.live = [] := rfl
@[simp] theorem h34_roots : h34.roots = [] := rfl
@[simp] theorem h34_rets : h34.rets = true := rfl
@[simp] theorem h34_glob : h34.glob = [] := rfl
@[simp] theorem h34_sw : h34.sw = [] := rfl
@[simp] theorem h34_msd : h34.msd = [] := rfl
@[simp] theorem h34_alt : h34.alt = [] := rfl
@[simp] theorem h34_fz : h34.fz = 0 := rfl
@[simp] theorem h34_gc : h34.gc = false := rfl
@[simp] theorem h34_wk : h34.wk = false := rfl
def h35 : Hint where
  vars := [0, 1, 2, 3, 8, 9, 10, 11, 12]
  conds := [18, 26, 43, 57, 66, 76]
  steal := [15, 22, 27, 31, 34, 35, 37, 44, 46, 55, 60, 64, 70, 72, 77]
  live := []
  roots := []
  rets := true
  glob := []
  sw := []
  msd := []
  alt := []
  fz := 0
  gc := false
  wk := false
@[simp] theorem h35_vars : h35.vars = [0, 1, 2, 3, 8, 9, 10, 11, 12] := rfl
@[simp] theorem h35_conds : h35.conds = [18, 26, 43, 57, 66, 76] := rfl
@[simp] theorem h35_steal : h35.steal = [15, 22, 27, 31, 34, 35, 37, 44, 46, 55, 60, 64, 70, 72, 77] := rfl
@[simp] theorem h35_live : h35.live = [] := rfl
@[simp] theorem h35_roots : h35.roots = [] := rfl
@[simp] theorem h35_rets : h35.rets = true := rfl
@[simp] theorem h35_glob : h35.glob = [] := rfl
@[simp] theorem h35_sw : h35.sw = [] := rfl
@[simp] theorem h35_msd : h35.msd = [] := rfl
@[simp] theorem h35_alt : h35.alt = [] := rfl
@[simp] theorem h35_fz : h35.fz = 0 := rfl
@[simp] theorem h35_gc : h35.gc = false := rfl
@[simp] theorem h35_wk : h35.wk = false := rfl
def h36 : Hint where
  vars := [0, 1, 2, 3, 8, 9, 10, 11, 12, 13, 14, 15]
  conds := [21, 29, 48, 63, 72, 93]
  steal := [18, 25, 30, 37, 40, 41, 43, 49, 60, 61, 64, 66, 69, 71, 73, 77, 81, 86, 89, 94]
  live := []
  roots := []
  rets := true
  glob := []
  sw := []
  msd := []
  alt := []
  fz := 0
  gc := false
  wk := false
@[simp] theorem h36_vars : h36.vars = [0, 1, 2, 3, 8, 9, 10, 11, 12, 13, 14, 15] := rfl
@[simp] theorem h36_conds : h36.conds = [21, 29, 48, 63, 72, 93] := rfl
@[simp] theorem h36_steal : h36.steal = [18, 25, 30, 37, 40, 41, 43, 49, 60, 61, 64, 66, 69, 71, 73, 77, 81, 86, 89, 94] := rfl
@[simp] theorem h36_live : h36.live = [] := rfl
@[simp] theorem h36_roots : h36.roots = [] := rfl
@[simp] theorem h36_rets : h36.rets = true := rfl
@[simp] theorem h36_glob : h36.glob = [] := rfl
@[simp] theorem h36_sw : h36.sw = [] := rfl
@[simp] theorem h36_msd : h36.msd = [] := rfl
@[simp] theorem h36_alt : h36.alt = [] := rfl
@[simp] theorem h36_fz : h36.fz = 0 := rfl
@[simp] theorem h36_gc : h36.gc = false := rfl
@[simp] theorem h36_wk : h36.wk = false := rfl
def h37 : Hint where
  vars := [0, 2, 3, 4, 5, 6, 7, 8, 9, 10, 11, 12, 13, 14, 15]
  conds := [40, 52, 63, 76, 90]
  steal := [16, 17, 20, 29, 31, 36, 48, 58, 62, 64, 66, 71, 77, 79, 91, 92, 99, 101, 102, 103]
  live := []
  roots := []
  rets := true
  glob := []
  sw := []
  msd := []
  alt := []
  fz := 0
  gc := false
  wk := false
@[simp] theorem h37_vars : h37.vars = [0, 2, 3, 4, 5, 6, 7, 8, 9, 10, 11, 12, 13, 14, 15] := rfl
@[simp] theorem h37_conds : h37.conds = [40, 52, 63, 76, 90] := rfl
@[simp] theorem h37_steal : h37.steal = [16, 17, 20, 29, 31, 36, 48, 58, 62, 64, 66, 71, 77, 79, 91, 92, 99, 101, 102, 103] := rfl
@[simp] theorem h37_live : h37.live = [] := rfl
@[simp] theorem h37_roots : h37.roots = [] := rfl
@[simp] theorem h37_rets : h37.rets = true := rfl
@[simp] theorem h37_glob : h37.glob = [] := rfl
@[simp] theorem h37_sw : h37.sw = [] := rfl
@[simp] theorem h37_msd : h37.msd = [] := rfl
@[simp] theorem h37_alt : h37.alt = [] := rfl
@[simp] theorem h37_fz : h37.fz = 0 := rfl
@[simp] theorem h37_gc : h37.gc = false := rfl
@[simp] theorem h37_wk : h37.wk = false := rfl
def h38 : Hint where
  vars := [0, 2, 3, 4, 5, 6, 7, 8, 9, 10, 11, 12, 13, 14, 15]
  conds := [30, 52, 58, 66, 67, 71, 84]
  steal := [16, 23, 24, 26, 40, 43, 48, 54, 61, 63, 64, 72, 76, 80, 85, 88, 93, 94, 95]
  live := []
  roots := []
  rets := true
  glob := []
  sw := []
  msd := []
  alt := []
  fz := 0
  gc := false
  wk := false
@[simp] theorem h38_vars : h38.vars = [0, 2, 3, 4, 5, 6, 7, 8, 9, 10, 11, 12, 13, 14, 15] := rfl
@[simp] theorem h38_conds : h38.conds = [30, 52, 58, 66, 67, 71, 84] := rfl
@[simp] theorem h38_steal : h38.steal = [16, 23, 24, 26, 40, 43, 48, 54, 61, 63, 64, 72, 76, 80, 85, 88, 93, 94, 95] := rfl
@[simp] theorem h38_live : h38.live = [] := rfl
@[simp] theorem h38_roots : h38.roots = [] := rfl
@[simp] theorem h38_rets : h38.rets = true := rfl
@[simp] theorem h38_glob : h38.glob = [] := rfl
@[simp] theorem h38_sw : h38.sw = [] := rfl
@[simp] theorem h38_msd : h38.msd = [] := rfl
@[simp] theorem h38_alt : h38.alt = [] := rfl
@[simp] theorem h38_fz : h38.fz = 0 := rfl
@[simp] theorem h38_gc : h38.gc = false := rfl
@[simp] theorem h38_wk : h38.wk = false := rfl
def h39 : Hint where
  vars := [0, 1, 2, 6]
  conds := []
  steal := [7, 11, 15]
  live := []
  roots := []
  rets := true
  glob := []
  sw := []
  msd := []
  alt := []
  fz := 0
  gc := false
  wk := false
@[simp] theorem h39_vars : h39.vars = [0, 1, 2, 6] := rfl
@[simp] theorem h39_conds : h39.conds = [] := rfl
@[simp] theorem h39_steal : h39.steal = [7, 11, 15] := rfl
@[simp] theorem h39_live : h39.live = [] := rfl
@[simp] theorem h39_roots : h39.roots = [] := rfl
@[simp] theorem h39_rets : h39.rets = true := rfl
@[simp] theorem h39_glob : h39.glob = [] := rfl
@[simp] theorem h39_sw : h39.sw = [] := rfl
@[simp] theorem h39_msd : h39.msd = [] := rfl
@[simp] theorem h39_alt : h39.alt = [] := rfl
@[simp] theorem h39_fz : h39.fz = 0 := rfl
@[simp] theorem h39_gc : h39.gc = false := rfl
@[simp] theorem h39_wk : h39.wk = false := rfl
def h40 : Hint where
  vars := [0, 2]
  conds := []
  steal := [3]
  live := []
  roots := []
  rets := true
  glob := []
  sw := []
  msd := []
  alt := []
  fz := 0
  gc := false
  wk := false
@[simp] theorem h40_vars : h40.vars = [0, 2] := rfl
@[simp] theorem h40_conds : h40.conds = [] := rfl
@[simp] theorem h40_steal : h40.steal = [3] := rfl
@[simp] theorem h40_live : h40.live = [] := rfl
@[simp] theorem h40_roots : h40.roots = [] := rfl
@[simp] theorem h40_rets : h40.rets = true := rfl
@[simp] theorem h40_glob : h40.glob = [] := rfl
@[simp] theorem h40_sw : h40.sw = [] := rfl
@[simp] theorem h40_msd : h40.msd = [] := rfl
@[simp] theorem h40_alt : h40.alt = [] := rfl
@[simp] theorem h40_fz : h40.fz = 0 := rfl
@[simp] theorem h40_gc : h40.gc = false := rfl
@[simp] theorem h40_wk : h40.wk = false := rfl
def h41 : Hint where
  vars := [0, 1, 4, 5]
  conds := [10, 14, 25]
  steal := [15]
  live := [(4, [0, 1, 5])]
  roots := []
  rets := true
  glob := []
  sw := []
  msd := []
  alt := []
  fz := 0
  gc := false
  wk := false
@[simp] theorem h41_vars : h41.vars = [0, 1, 4, 5] := rfl
@[simp] theorem h41_conds : h41.conds = [10, 14, 25] := rfl
@[simp] theorem h41_steal : h41.steal = [15] := rfl
@[simp] theorem h41_live : h41.live = [(4, [0, 1, 5])] := rfl
@[simp] theorem h41_roots : h41.roots = [] := rfl
@[simp] theorem h41_rets : h41.rets = true := rfl
@[simp] theorem h41_glob : h41.glob = [] := rfl
@[simp] theorem h41_sw : h41.sw = [] := rfl
@[simp] theorem h41_msd : h41.msd = [] := rfl
@[simp] theorem h41_alt : h41.alt = [] := rfl
@[simp] theorem h41_fz : h41.fz = 0 := rfl
@[simp] theorem h41_gc : h41.gc = false := rfl
@[simp] theorem h41_wk : h41.wk = false := rfl
def h42 : Hint where
  vars := [0, 2]
  conds := []
  steal := [3]
  live := []
  roots := []
  rets := true
  glob := []
  sw := []
  msd := []
  alt := []
  fz := 0
  gc := false
  wk := false
@[simp] theorem h42_vars : h42.vars = [0, 2] := rfl
@[simp] theorem h42_conds : h42.conds = [] := rfl
@[simp] theorem h42_steal : h42.steal = [3] := rfl
@[simp] theorem h42_live : h42.live = [] := rfl
@[simp] theorem h42_roots : h42.roots = [] := rfl
@[simp] theorem h42_rets : h42.rets = true := rfl
@[simp] theorem h42_glob : h42.glob = [] := rfl
@[simp] theorem h42_sw : h42.sw = [] := rfl
@[simp] theorem h42_msd : h42.msd = [] := rfl
@[simp] theorem h42_alt : h42.alt = [] := rfl
@[simp] theorem h42_fz : h42.fz = 0 := rfl
@[simp] theorem h42_gc : h42.gc = false := rfl
@[simp] theorem h42_wk : h42.wk = false := rfl
def h43 : Hint where
  vars := [0, 1, 4, 5]
  conds := [10, 14, 25]
  steal := [15]
  live := [(4, [0, 1, 5])]
  roots := []
  rets := true
  glob := []
  sw := []
  msd := []
  alt := []
  fz := 0
  gc := false
  wk := false
@[simp] theorem h43_vars : h43.vars = [0, 1, 4, 5] := rfl
@[simp] theorem h43_conds : h43.conds = [10, 14, 25] := rfl
@[simp] theorem h43_steal : h43.steal = [15] := rfl
@[simp] theorem h43_live : h43.live = [(4, [0, 1, 5])] := rfl
@[simp] theorem h43_roots : h43.roots = [] := rfl
@[simp] theorem h43_rets : h43.rets = true := rfl
@[simp] theorem h43_glob : h43.glob = [] := rfl
@[simp] theorem h43_sw : h43.sw = [] := rfl
@[simp] theorem h43_msd : h43.msd = [] := rfl
@[simp] theorem h43_alt : h43.alt = [] := rfl
@[simp] theorem h43_fz : h43.fz = 0 := rfl
@[simp] theorem h43_gc : h43.gc = false := rfl
@[simp] theorem h43_wk : h43.wk = false := rfl
def h44 : Hint where
  vars := [0, 2, 3, 4, 5, 6]
  conds := [10, 28]
  steal := [11, 29, 36, 43, 44, 45, 48]
  live := [(3, [0, 3, 4]), (6, [0, 3, 4, 5])]
  roots := []
  rets := true
  glob := []
  sw := [27]
  msd := []
  alt := []
  fz := 0
  gc := false
  wk := false
@[simp] theorem h44_vars : h44.vars = [0, 2, 3, 4, 5, 6] := rfl
@[simp] theorem h44_conds : h44.conds = [10, 28] := rfl
@[simp] theorem h44_steal : h44.steal = [11, 29, 36, 43, 44, 45, 48] := rfl
@[simp] theorem h44_live : h44.live = [(3, [0, 3, 4]), (6, [0, 3, 4, 5])] := rfl
@[simp] theorem h44_roots : h44.roots = [] := rfl
@[simp] theorem h44_rets : h44.rets = true := rfl
@[simp] theorem h44_glob : h44.glob = [] := rfl
@[simp] theorem h44_sw : h44.sw = [27] := rfl
@[simp] theorem h44_msd : h44.msd = [] := rfl
@[simp] theorem h44_alt : h44.alt = [] := rfl
@[simp] theorem h44_fz : h44.fz = 0 := rfl
@[simp] theorem h44_gc : h44.gc = false := rfl
@[simp] theorem h44_wk : h44.wk = false := rfl
def h45 : Hint where
  vars := [0, 1, 2, 3, 4]
  conds := []
  steal := []
  live := []
  roots := []
  rets := true
  glob := []
  sw := []
  msd := []
  alt := []
  fz := 0
  gc := false
  wk := false
@[simp] theorem h45_vars : h45.vars = [0, 1, 2, 3, 4] := rfl
@[simp] theorem h45_conds : h45.conds = [] := rfl
@[simp] theorem h45_steal : h45.steal = [] := rfl
@[simp] theorem h45_live : h45.live = [] := rfl
@[simp] theorem h45_roots : h45.roots = [] := rfl
@[simp] theorem h45_rets : h45.rets = true := rfl
@[simp] theorem h45_glob : h45.glob = [] := rfl
@[simp] theorem h45_sw : h45.sw = [] := rfl
@[simp] theorem h45_msd : h45.msd = [] := rfl
@[simp] theorem h45_alt : h45.alt = [] := rfl
@[simp] theorem h45_fz : h45.fz = 0 := rfl
@[simp] theorem h45_gc : h45.gc = false := rfl
@[simp] theorem h45_wk : h45.wk = false := rfl
def h46 : Hint where
  vars := [0, 1, 2, 3, 4]
  conds := [9]
  steal := []
  live := []
  roots := []
  rets := true
  glob := []
  sw := []
  msd := []
  alt := []
  fz := 0
  gc := false
  wk := false
@[simp] theorem h46_vars : h46.vars = [0, 1, 2, 3, 4] := rfl
@[simp] theorem h46_conds : h46.conds = [9] := rfl
@[simp] theorem h46_steal : h46.steal = [] := rfl
@[simp] theorem h46_live : h46.live = [] := rfl
@[simp] theorem h46_roots : h46.roots = [] := rfl
@[simp] theorem h46_rets : h46.rets = true := rfl
@[simp] theorem h46_glob : h46.glob = [] := rfl
@[simp] theorem h46_sw : h46.sw = [] := rfl
@[simp] theorem h46_msd : h46.msd = [] := rfl
@[simp] theorem h46_alt : h46.alt = [] := rfl
@[simp] theorem h46_fz : h46.fz = 0 := rfl
@[simp] theorem h46_gc : h46.gc = false := rfl
@[simp] theorem h46_wk : h46.wk = false := rfl
def h47 : Hint where
  vars := [0, 2, 3, 4, 5, 6, 7, 8, 9, 10, 11, 12, 13, 14, 15, 17, 19]
  conds := [32, 38, 44, 77, 78, 84, 93]
  steal := [24, 28, 33, 39, 49, 50, 52, 57, 64, 71, 78, 85, 92, 94, 100, 101, 107, 108, 109, 114, 115, 116, 117, 118]
  live := [(7, [7, 8, 9, 10]), (19, [8, 11, 12, 13])]
  roots := []
  rets := true
  glob := []
  sw := []
  msd := []
  alt := []
  fz := 0
  gc := false
  wk := false
@[simp] theorem h47_vars : h47.vars = [0, 2, 3, 4, 5, 6, 7, 8, 9, 10, 11, 12, 13, 14, 15, 17, 19] := rfl
@[simp] theorem h47_conds : h47.conds = [32, 38, 44, 77, 78, 84, 93] := rfl
@[simp] theorem h47_steal : h47.steal = [24, 28, 33, 39, 49, 50, 52, 57, 64, 71, 78, 85, 92, 94, 100, 101, 107, 108, 109, 114, 115, 116, 117, 118] := rfl
@[simp] theorem h47_live : h47.live = [(7, [7, 8, 9, 10]), (19, [8, 11, 12, 13])] := rfl
@[simp] theorem h47_roots : h47.roots = [] := rfl
@[simp] theorem h47_rets : h47.rets = true := rfl
@[simp] theorem h47_glob : h47.glob = [] := rfl
@[simp] theorem h47_sw : h47.sw = [] := rfl
@[simp] theorem h47_msd : h47.msd = [] := rfl
@[simp] theorem h47_alt : h47.alt = [] := rfl
@[simp] theorem h47_fz : h47.fz = 0 := rfl
@[simp] theorem h47_gc : h47.gc = false := rfl
@[simp] theorem h47_wk : h47.wk = false := rfl
def h48 : Hint where
  vars := [0, 2, 3, 4, 5, 6]
  conds := [10, 29]
  steal := [11, 30, 37, 44, 45, 46, 49]
  live := [(3, [0, 3, 4]), (6, [0, 3, 4, 5])]
  roots := []
  rets := true
  glob := []
  sw := [27]
  msd := []
  alt := []
  fz := 0
  gc := false
  wk := false
@[simp] theorem h48_vars : h48.vars = [0, 2, 3, 4, 5, 6] := rfl
@[simp] theorem h48_conds : h48.conds = [10, 29] := rfl
@[simp] theorem h48_steal : h48.steal = [11, 30, 37, 44, 45, 46, 49] := rfl
@[simp] theorem h48_live : h48.live = [(3, [0, 3, 4]), (6, [0, 3, 4, 5])] := rfl
@[simp] theorem h48_roots : h48.roots = [] := rfl
@[simp] theorem h48_rets : h48.rets = true := rfl
@[simp] theorem h48_glob : h48.glob = [] := rfl
@[simp] theorem h48_sw : h48.sw = [27] := rfl
@[simp] theorem h48_msd : h48.msd = [] := rfl
@[simp] theorem h48_alt : h48.alt = [] := rfl
@[simp] theorem h48_fz : h48.fz = 0 := rfl
@[simp] theorem h48_gc : h48.gc = false := rfl
@[simp] theorem h48_wk : h48.wk = false := rfl
def h49 : Hint where
  vars := [0, 1, 4, 5, 6, 7, 8, 9, 10, 11, 12, 13, 14, 15, 16, 17, 18]
  conds := [40, 41, 42, 48, 54, 60, 69, 96, 109]
  steal := [19, 26, 27, 34, 37, 41, 42, 43, 44, 49, 50, 55, 56, 61, 62, 66, 75, 77, 78, 83, 85, 91, 97, 110, 111, 113]
  live := [(20, [15, 16, 17])]
  roots := []
  rets := true
  glob := []
  sw := [107]
  msd := []
  alt := []
  fz := 0
  gc := false
  wk := false
@[simp] theorem h49_vars : h49.vars = [0, 1, 4, 5, 6, 7, 8, 9, 10, 11, 12, 13, 14, 15, 16, 17, 18] := rfl
@[simp] theorem h49_conds : h49.conds = [40, 41, 42, 48, 54, 60, 69, 96, 109] := rfl
@[simp] theorem h49_steal : h49.steal = [19, 26, 27, 34, 37, 41, 42, 43, 44, 49, 50, 55, 56, 61, 62, 66, 75, 77, 78, 83, 85, 91, 97, 110, 111, 113] := rfl
@[simp] theorem h49_live : h49.live = [(20, [15, 16, 17])] := rfl
@[simp] theorem h49_roots : h49.roots = [] := rfl
@[simp] theorem h49_rets : h49.rets = true := rfl
@[simp] theorem h49_glob : h49.glob = [] := rfl
@[simp] theorem h49_sw : h49.sw = [107] := rfl
@[simp] theorem h49_msd : h49.msd = [] := rfl
@[simp] theorem h49_alt : h49.alt = [] := rfl
@[simp] theorem h49_fz : h49.fz = 0 := rfl
@[simp] theorem h49_gc : h49.gc = false := rfl
@[simp] theorem h49_wk : h49.wk = false := rfl
def h50 : Hint where
  vars := [0, 2, 3, 4, 5, 6, 7, 8, 9, 10, 11, 12, 13]
  conds := [21, 34, 74]
  steal := [17, 23, 24, 29, 30, 36, 42, 43, 49, 50, 51, 56, 57, 59, 60, 63, 64, 67, 68, 69, 76, 77, 78, 79]
  live := []
  roots := []
  rets := true
  glob := []
  sw := []
  msd := []
  alt := []
  fz := 0
  gc := false
  wk := false
@[simp] theorem h50_vars : h50.vars = [0, 2, 3, 4, 5, 6, 7, 8, 9, 10, 11, 12, 13] := rfl
@[simp] theorem h50_conds : h50.conds = [21, 34, 74] := rfl
@[simp] theorem h50_steal : h50.steal = [17, 23, 24, 29, 30, 36, 42, 43, 49, 50, 51, 56, 57, 59, 60, 63, 64, 67, 68, 69, 76, 77, 78, 79] := rfl
@[simp] theorem h50_live : h50.live = [] := rfl
@[simp] theorem h50_roots : h50.roots = [] := rfl
@[simp] theorem h50_rets : h50.rets = true := rfl
@[simp] theorem h50_glob : h50.glob = [] := rfl
@[simp] theorem h50_sw : h50.sw = [] := rfl
@[simp] theorem h50_msd : h50.msd = [] := rfl
@[simp] theorem h50_alt : h50.alt = [] := rfl
@[simp] theorem h50_fz : h50.fz = 0 := rfl
@[simp] theorem h50_gc : h50.gc = false := rfl
@[simp] theorem h50_wk : h50.wk = false := rfl
def h51 : Hint where
  vars := [0, 1, 4]
  conds := []
  steal := [5, 6]
  live := []
  roots := []
  rets := true
  glob := []
  sw := []
  msd := []
  alt := []
  fz := 0
  gc := false
  wk := false
@[simp] theorem h51_vars : h51.vars = [0, 1, 4] := rfl
@[simp] theorem h51_conds : h51.conds = [] := rfl
@[simp] theorem h51_steal : h51.steal = [5, 6] := rfl
@[simp] theorem h51_live : h51.live = [] := rfl
@[simp] theorem h51_roots : h51.roots = [] := rfl
@[simp] theorem h51_rets : h51.rets = true := rfl
@[simp] theorem h51_glob : h51.glob = [] := rfl
@[simp] theorem h51_sw : h51.sw = [] := rfl
@[simp] theorem h51_msd : h51.msd = [] := rfl
@[simp] theorem h51_alt : h51.alt = [] := rfl
@[simp] theorem h51_fz : h51.fz = 0 := rfl
@[simp] theorem h51_gc : h51.gc = false := rfl
@[simp] theorem h51_wk : h51.wk = false := rfl
def h52 : Hint where
  vars := [0, 2, 3, 5, 6, 7, 8]
  conds := [9, 14]
  steal := [6, 15, 17]
  live := [(3, [3, 6, 7, 8])]
  roots := []
  rets := true
  glob := []
  sw := []
  msd := []
  alt := []
  fz := 0
  gc := false
  wk := false
@[simp] theorem h52_vars : h52.vars = [0, 2, 3, 5, 6, 7, 8] := rfl
@[simp] theorem h52_conds : h52.conds = [9, 14] := rfl
@[simp] theorem h52_steal : h52.steal = [6, 15, 17] := rfl
@[simp] theorem h52_live : h52.live = [(3, [3, 6, 7, 8])] := rfl
@[simp] theorem h52_roots : h52.roots = [] := rfl
@[simp] theorem h52_rets : h52.rets = true := rfl
@[simp] theorem h52_glob : h52.glob = [] := rfl
@[simp] theorem h52_sw : h52.sw = [] := rfl
@[simp] theorem h52_msd : h52.msd = [] := rfl
@[simp] theorem h52_alt : h52.alt = [] := rfl
@[simp] theorem h52_fz : h52.fz = 0 := rfl
@[simp] theorem h52_gc : h52.gc = false := rfl
@[simp] theorem h52_wk : h52.wk = false := rfl
def h53 : Hint where
  vars := [0, 1, 4, 5, 6]
  conds := [11, 12, 13, 16, 19]
  steal := [11, 12, 13, 17, 18]
  live := []
  roots := []
  rets := true
  glob := []
  sw := []
  msd := []
  alt := []
  fz := 0
  gc := false
  wk := false
@[simp] theorem h53_vars : h53.vars = [0, 1, 4, 5, 6] := rfl
@[simp] theorem h53_conds : h53.conds = [11, 12, 13, 16, 19] := rfl
@[simp] theorem h53_steal : h53.steal = [11, 12, 13, 17, 18] := rfl
@[simp] theorem h53_live : h53.live = [] := rfl
@[simp] theorem h53_roots : h53.roots = [] := rfl
@[simp] theorem h53_rets : h53.rets = true := rfl
@[simp] theorem h53_glob : h53.glob = [] := rfl
@[simp] theorem h53_sw : h53.sw = [] := rfl
@[simp] theorem h53_msd : h53.msd = [] := rfl
@[simp] theorem h53_alt : h53.alt = [] := rfl
@[simp] theorem h53_fz : h53.fz = 0 := rfl
@[simp] theorem h53_gc : h53.gc = false := rfl
@[simp] theorem h53_wk : h53.wk = false := rfl
def h54 : Hint where
  vars := [0, 1, 4]
  conds := [10]
  steal := [7, 11, 14, 18, 20]
  live := []
  roots := []
  rets := true
  glob := []
  sw := []
  msd := []
  alt := []
  fz := 0
  gc := false
  wk := false
@[simp] theorem h54_vars : h54.vars = [0, 1, 4] := rfl
@[simp] theorem h54_conds : h54.conds = [10] := rfl
@[simp] theorem h54_steal : h54.steal = [7, 11, 14, 18, 20] := rfl
@[simp] theorem h54_live : h54.live = [] := rfl
@[simp] theorem h54_roots : h54.roots = [] := rfl
@[simp] theorem h54_rets : h54.rets = true := rfl
@[simp] theorem h54_glob : h54.glob = [] := rfl
@[simp] theorem h54_sw : h54.sw = [] := rfl
@[simp] theorem h54_msd : h54.msd = [] := rfl
@[simp] theorem h54_alt : h54.alt = [] := rfl
@[simp] theorem h54_fz : h54.fz = 0 := rfl
@[simp] theorem h54_gc : h54.gc = false := rfl
@[simp] theorem h54_wk : h54.wk = false := rfl
def h55 : Hint where
  vars := [0, 1, 4, 5]
  conds := [9, 16]
  steal := [10]
  live := [(2, [0, 1, 5])]
  roots := []
  rets := true
  glob := []
  sw := []
  msd := []
  alt := []
  fz := 0
  gc := true
  wk := false
@[simp] theorem h55_vars : h55.vars = [0, 1, 4, 5] := rfl
@[simp] theorem h55_conds : h55.conds = [9, 16] := rfl
@[simp] theorem h55_steal : h55.steal = [10] := rfl
@[simp] theorem h55_live : h55.live = [(2, [0, 1, 5])] := rfl
@[simp] theorem h55_roots : h55.roots = [] := rfl
@[simp] theorem h55_rets : h55.rets = true := rfl
@[simp] theorem h55_glob : h55.glob = [] := rfl
@[simp] theorem h55_sw : h55.sw = [] := rfl
@[simp] theorem h55_msd : h55.msd = [] := rfl
@[simp] theorem h55_alt : h55.alt = [] := rfl
@[simp] theorem h55_fz : h55.fz = 0 := rfl
@[simp] theorem h55_gc : h55.gc = true := rfl
@[simp] theorem h55_wk : h55.wk = false := rfl
def h56 : Hint where
  vars := [0, 2]
  conds := []
  steal := [5, 6]
  live := []
  roots := []
  rets := true
  glob := []
  sw := []
  msd := []
  alt := []
  fz := 0
  gc := false
  wk := false
@[simp] theorem h56_vars : h56.vars = [0, 2] := rfl
@[simp] theorem h56_conds : h56.conds = [] := rfl
@[simp] theorem h56_steal : h56.steal = [5, 6] := rfl
@[simp] theorem h56_live : h56.live = [] := rfl
@[simp] theorem h56_roots : h56.roots = [] := rfl
@[simp] theorem h56_rets : h56.rets = true := rfl
@[simp] theorem h56_glob : h56.glob = [] := rfl
@[simp] theorem h56_sw : h56.sw = [] := rfl
@[simp] theorem h56_msd : h56.msd = [] := rfl
@[simp] theorem h56_alt : h56.alt = [] := rfl
@[simp] theorem h56_fz : h56.fz = 0 := rfl
@[simp] theorem h56_gc : h56.gc = false := rfl
@[simp] theorem h56_wk : h56.wk = false := rfl
def h57 : Hint where
  vars := [0, 2]
  conds := []
  steal := [3]
  live := []
  roots := []
  rets := true
  glob := []
  sw := []
  msd := []
  alt := []
  fz := 0
  gc := false
  wk := false
@[simp] theorem h57_vars : h57.vars = [0, 2] := rfl
@[simp] theorem h57_conds : h57.conds = [] := rfl
@[simp] theorem h57_steal : h57.steal = [3] := rfl
@[simp] theorem h57_live : h57.live = [] := rfl
@[simp] theorem h57_roots : h57.roots = [] := rfl
@[simp] theorem h57_rets : h57.rets = true := rfl
@[simp] theorem h57_glob : h57.glob = [] := rfl
@[simp] theorem h57_sw : h57.sw = [] := rfl
@[simp] theorem h57_msd : h57.msd = [] := rfl
@[simp] theorem h57_alt : h57.alt = [] := rfl
@[simp] theorem h57_fz : h57.fz = 0 := rfl
@[simp] theorem h57_gc : h57.gc = false := rfl
@[simp] theorem h57_wk : h57.wk = false := rfl
def h58 : Hint where
  vars := [0, 2]
  conds := []
  steal := [5, 6]
  live := []
  roots := []
  rets := true
  glob := []
  sw := []
  msd := []
  alt := []
  fz := 0
  gc := false
  wk := false
@[simp] theorem h58_vars : h58.vars = [0, 2] := rfl
@[simp] theorem h58_conds : h58.conds = [] := rfl
@[simp] theorem h58_steal : h58.steal = [5, 6] := rfl
@[simp] theorem h58_live : h58.live = [] := rfl
@[simp] theorem h58_roots : h58.roots = [] := rfl
@[simp] theorem h58_rets : h58.rets = true := rfl
@[simp] theorem h58_glob : h58.glob = [] := rfl
@[simp] theorem h58_sw : h58.sw = [] := rfl
@[simp] theorem h58_msd : h58.msd = [] := rfl
@[simp] theorem h58_alt : h58.alt = [] := rfl
@[simp] theorem h58_fz : h58.fz = 0 := rfl
@[simp] theorem h58_gc : h58.gc = false := rfl
@[simp] theorem h58_wk : h58.wk = false := rfl
def h59 : Hint where
  vars := [0, 1, 4]
  conds := []
  steal := [8, 12]
  live := []
  roots := []
  rets := true
  glob := []
  sw := []
  msd := [11]
  alt := []
  fz := 0
  gc := false
  wk := false
@[simp] theorem h59_vars : h59.vars = [0, 1, 4] := rfl
@[simp] theorem h59_conds : h59.conds = [] := rfl
@[simp] theorem h59_steal : h59.steal = [8, 12] := rfl
@[simp] theorem h59_live : h59.live = [] := rfl
@[simp] theorem h59_roots : h59.roots = [] := rfl
@[simp] theorem h59_rets : h59.rets = true := rfl
@[simp] theorem h59_glob : h59.glob = [] := rfl
@[simp] theorem h59_sw : h59.sw = [] := rfl
@[simp] theorem h59_msd : h59.msd = [11] := rfl
@[simp] theorem h59_alt : h59.alt = [] := rfl
@[simp] theorem h59_fz : h59.fz = 0 := rfl
@[simp] theorem h59_gc : h59.gc = false := rfl
@[simp] theorem h59_wk : h59.wk = false := rfl
def h60 : Hint where
  vars := [0, 2]
  conds := []
  steal := []
  live := []
  roots := []
  rets := true
  glob := []
  sw := []
  msd := []
  alt := []
  fz := 0
  gc := false
  wk := false
@[simp] theorem h60_vars : h60.vars = [0, 2] := rfl
@[simp] theorem h60_conds : h60.conds = [] := rfl
@[simp] theorem h60_steal : h60.steal = [] := rfl
@[simp] theorem h60_live : h60.live = [] := rfl
@[simp] theorem h60_roots : h60.roots = [] := rfl
@[simp] theorem h60_rets : h60.rets = true := rfl
@[simp] theorem h60_glob : h60.glob = [] := rfl
@[simp] theorem h60_sw : h60.sw = [] := rfl
@[simp] theorem h60_msd : h60.msd = [] := rfl
@[simp] theorem h60_alt : h60.alt = [] := rfl
@[simp] theorem h60_fz : h60.fz = 0 := rfl
@[simp] theorem h60_gc : h60.gc = false := rfl
@[simp] theorem h60_wk : h60.wk = false := rfl
def h61 : Hint where
  vars := [0, 2]
  conds := []
  steal := [5, 6]
  live := []
  roots := []
  rets := true
  glob := []
  sw := []
  msd := []
  alt := []
  fz := 0
  gc := false
  wk := false
@[simp] theorem h61_vars : h61.vars = [0, 2] := rfl
@[simp] theorem h61_conds : h61.conds = [] := rfl
@[simp] theorem h61_steal : h61.steal = [5, 6] := rfl
@[simp] theorem h61_live : h61.live = [] := rfl
@[simp] theorem h61_roots : h61.roots = [] := rfl
@[simp] theorem h61_rets : h61.rets = true := rfl
@[simp] theorem h61_glob : h61.glob = [] := rfl
@[simp] theorem h61_sw : h61.sw = [] := rfl
@[simp] theorem h61_msd : h61.msd = [] := rfl
@[simp] theorem h61_alt : h61.alt = [] := rfl
@[simp] theorem h61_fz : h61.fz = 0 := rfl
@[simp] theorem h61_gc : h61.gc = false := rfl
@[simp] theorem h61_wk : h61.wk = false := rfl
def h62 : Hint where
  vars := [0, 2]
  conds := []
  steal := [5, 6]
  live := []
  roots := []
  rets := true
  glob := []
  sw := []
  msd := []
  alt := []
  fz := 0
  gc := false
  wk := false
@[simp] theorem h62_vars : h62.vars = [0, 2] := rfl
@[simp] theorem h62_conds : h62.conds = [] := rfl
@[simp] theorem h62_steal : h62.steal = [5, 6] := rfl
@[simp] theorem h62_live : h62.live = [] := rfl
@[simp] theorem h62_roots : h62.roots = [] := rfl
@[simp] theorem h62_rets : h62.rets = true := rfl
@[simp] theorem h62_glob : h62.glob = [] := rfl
@[simp] theorem h62_sw : h62.sw = [] := rfl
@[simp] theorem h62_msd : h62.msd = [] := rfl
@[simp] theorem h62_alt : h62.alt = [] := rfl
@[simp] theorem h62_fz : h62.fz = 0 := rfl
@[simp] theorem h62_gc : h62.gc = false := rfl
@[simp] theorem h62_wk : h62.wk = false := rfl
def h63 : Hint where
  vars := [0, 2]
  conds := []
  steal := [5, 6]
  live := []
  roots := []
  rets := true
  glob := []
  sw := []
  msd := []
  alt := []
  fz := 0
  gc := false
  wk := false
@[simp] theorem h63_vars : h63.vars = [0, 2] := rfl
@[simp] theorem h63_conds : h63.conds = [] := rfl
@[simp] theorem h63_steal : h63.steal = [5, 6] := rfl
@[simp] theorem h63_live : h63.live = [] := rfl
@[simp] theorem h63_roots : h63.roots = [] := rfl
@[simp] theorem h63_rets : h63.rets = true := rfl
@[simp] theorem h63_glob : h63.glob = [] := rfl
@[simp] theorem h63_sw : h63.sw = [] := rfl
@[simp] theorem h63_msd : h63.msd = [] := rfl
@[simp] theorem h63_alt : h63.alt = [] := rfl
@[simp] theorem h63_fz : h63.fz = 0 := rfl
@[simp] theorem h63_gc : h63.gc = false := rfl
@[simp] theorem h63_wk : h63.wk = false := rfl
def h64 : Hint where
  vars := [0, 2]
  conds := []
  steal := [5, 6]
  live := []
  roots := []
  rets := true
  glob := []
  sw := []
  msd := []
  alt := []
  fz := 0
  gc := false
  wk := false
@[simp] theorem h64_vars : h64.vars = [0, 2] := rfl
@[simp] theorem h64_conds : h64.conds = [] := rfl
@[simp] theorem h64_steal : h64.steal = [5, 6] := rfl
@[simp] theorem h64_live : h64.live = [] := rfl
@[simp] theorem h64_roots : h64.roots = [] := rfl
@[simp] theorem h64_rets : h64.rets = true := rfl
@[simp] theorem h64_glob : h64.glob = [] := rfl
@[simp] theorem h64_sw : h64.sw = [] := rfl
@[simp] theorem h64_msd : h64.msd = [] := rfl
@[simp] theorem h64_alt : h64.alt = [] := rfl
@[simp] theorem h64_fz : h64.fz = 0 := rfl
@[simp] theorem h64_gc : h64.gc = false := rfl
@[simp] theorem h64_wk : h64.wk = false := rfl
def h65 : Hint where
  vars := [0, 1, 4, 5, 6]
  conds := []
  steal := [7, 8, 12]
  live := []
  roots := []
  rets := true
  glob := []
  sw := []
  msd := []
  alt := []
  fz := 0
  gc := false
  wk := false
@[simp] theorem h65_vars : h65.vars = [0, 1, 4, 5, 6] := rfl
@[simp] theorem h65_conds : h65.conds = [] := rfl
@[simp] theorem h65_steal : h65.steal = [7, 8, 12] := rfl
@[simp] theorem h65_live : h65.live = [] := rfl
@[simp] theorem h65_roots : h65.roots = [] := rfl
@[simp] theorem h65_rets : h65.rets = true := rfl
@[simp] theorem h65_glob : h65.glob = [] := rfl
@[simp] theorem h65_sw : h65.sw = [] := rfl
@[simp] theorem h65_msd : h65.msd = [] := rfl
@[simp] theorem h65_alt : h65.alt = [] := rfl
@[simp] theorem h65_fz : h65.fz = 0 := rfl
@[simp] theorem h65_gc : h65.gc = false := rfl
@[simp] theorem h65_wk : h65.wk = false := rfl
def h66 : Hint where
  vars := [0, 2]
  conds := []
  steal := [5, 9, 10]
  live := []
  roots := []
  rets := true
  glob := []
  sw := []
  msd := []
  alt := []
  fz := 0
  gc := false
  wk := false
@[simp] theorem h66_vars : h66.vars = [0, 2] := rfl
@[simp] theorem h66_conds : h66.conds = [] := rfl
@[simp] theorem h66_steal : h66.steal = [5, 9, 10] := rfl
@[simp] theorem h66_live : h66.live = [] := rfl
@[simp] theorem h66_roots : h66.roots = [] := rfl
@[simp] theorem h66_rets : h66.rets = true := rfl
@[simp] theorem h66_glob : h66.glob = [] := rfl
@[simp] theorem h66_sw : h66.sw = [] := rfl
@[simp] theorem h66_msd : h66.msd = [] := rfl
@[simp] theorem h66_alt : h66.alt = [] := rfl
@[simp] theorem h66_fz : h66.fz = 0 := rfl
@[simp] theorem h66_gc : h66.gc = false := rfl
@[simp] theorem h66_wk : h66.wk = false := rfl
def h67 : Hint where
  vars := [0, 1, 4, 6, 8, 9, 10]
  conds := [11, 30]
  steal := [7, 18, 23, 25]
  live := [(2, [1, 8, 9, 10])]
  roots := []
  rets := true
  glob := []
  sw := []
  msd := []
  alt := []
  fz := 0
  gc := false
  wk := false
@[simp] theorem h67_vars : h67.vars = [0, 1, 4, 6, 8, 9, 10] := rfl
@[simp] theorem h67_conds : h67.conds = [11, 30] := rfl
@[simp] theorem h67_steal : h67.steal = [7, 18, 23, 25] := rfl
@[simp] theorem h67_live : h67.live = [(2, [1, 8, 9, 10])] := rfl
@[simp] theorem h67_roots : h67.roots = [] := rfl
@[simp] theorem h67_rets : h67.rets = true := rfl
@[simp] theorem h67_glob : h67.glob = [] := rfl
@[simp] theorem h67_sw : h67.sw = [] := rfl
@[simp] theorem h67_msd : h67.msd = [] := rfl
@[simp] theorem h67_alt : h67.alt = [] := rfl
@[simp] theorem h67_fz : h67.fz = 0 := rfl
@[simp] theorem h67_gc : h67.gc = false := rfl
@[simp] theorem h67_wk : h67.wk = false := rfl
def h68 : Hint where
  vars := [0, 1, 2]
  conds := []
  steal := []
  live := []
  roots := []
  rets := true
  glob := [1]
  sw := []
  msd := []
  alt := []
  fz := 0
  gc := false
  wk := false
@[simp] theorem h68_vars : h68.vars = [0, 1, 2] := rfl
@[simp] theorem h68_conds : h68.conds = [] := rfl
@[simp] theorem h68_steal : h68.steal = [] := rfl
@[simp] theorem h68_live : h68.live = [] := rfl
@[simp] theorem h68_roots : h68.roots = [] := rfl
@[simp] theorem h68_rets : h68.rets = true := rfl
@[simp] theorem h68_glob : h68.glob = [1] := rfl
@[simp] theorem h68_sw : h68.sw = [] := rfl
@[simp] theorem h68_msd : h68.msd = [] := rfl
@[simp] theorem h68_alt : h68.alt = [] := rfl
@[simp] theorem h68_fz : h68.fz = 0 := rfl
@[simp] theorem h68_gc : h68.gc = false := rfl
@[simp] theorem h68_wk : h68.wk = false := rfl
def h69 : Hint where
  vars := [0, 1, 4]
  conds := []
  steal := [5, 6]
  live := []
  roots := []
  rets := true
  glob := []
  sw := []
  msd := []
  alt := []
  fz := 0
  gc := false
  wk := false
@[simp] theorem h69_vars : h69.vars = [0, 1, 4] := rfl
@[simp] theorem h69_conds : h69.conds = [] := rfl
@[simp] theorem h69_steal : h69.steal = [5, 6] := rfl
@[simp] theorem h69_live : h69.live = [] := rfl
@[simp] theorem h69_roots : h69.roots = [] := rfl
@[simp] theorem h69_rets : h69.rets = true := rfl
@[simp] theorem h69_glob : h69.glob = [] := rfl
@[simp] theorem h69_sw : h69.sw = [] := rfl
@[simp] theorem h69_msd : h69.msd = [] := rfl
@[simp] theorem h69_alt : h69.alt = [] := rfl
@[simp] theorem h69_fz : h69.fz = 0 := rfl
@[simp] theorem h69_gc : h69.gc = false := rfl
@[simp] theorem h69_wk : h69.wk = false := rfl
def h70 : Hint where
  vars := [0, 1, 4, 5]
  conds := [8, 13, 20, 27, 28]
  steal := [11, 16, 17, 25, 26, 29, 33, 34]
  live := []
  roots := []
  rets := true
  glob := []
  sw := []
  msd := []
  alt := []
  fz := 0
  gc := false
  wk := false
@[simp] theorem h70_vars : h70.vars = [0, 1, 4, 5] := rfl
@[simp] theorem h70_conds : h70.conds = [8, 13, 20, 27, 28] := rfl
@[simp] theorem h70_steal : h70.steal = [11, 16, 17, 25, 26, 29, 33, 34] := rfl
@[simp] theorem h70_live : h70.live = [] := rfl
@[simp] theorem h70_roots : h70.roots = [] := rfl
@[simp] theorem h70_rets : h70.rets = true := rfl
@[simp] theorem h70_glob : h70.glob = [] := rfl
@[simp] theorem h70_sw : h70.sw = [] := rfl
@[simp] theorem h70_msd : h70.msd = [] := rfl
@[simp] theorem h70_alt : h70.alt = [] := rfl
@[simp] theorem h70_fz : h70.fz = 0 := rfl
@[simp] theorem h70_gc : h70.gc = false := rfl
@[simp] theorem h70_wk : h70.wk = false := rfl
def h71 : Hint where
  vars := [0, 1, 4, 5]
  conds := [9, 17]
  steal := [10, 18]
  live := [(2, [0, 1, 5])]
  roots := []
  rets := true
  glob := []
  sw := []
  msd := []
  alt := []
  fz := 0
  gc := true
  wk := false
@[simp] theorem h71_vars : h71.vars = [0, 1, 4, 5] := rfl
@[simp] theorem h71_conds : h71.conds = [9, 17] := rfl
@[simp] theorem h71_steal : h71.steal = [10, 18] := rfl
@[simp] theorem h71_live : h71.live = [(2, [0, 1, 5])] := rfl
@[simp] theorem h71_roots : h71.roots = [] := rfl
@[simp] theorem h71_rets : h71.rets = true := rfl
@[simp] theorem h71_glob : h71.glob = [] := rfl
@[simp] theorem h71_sw : h71.sw = [] := rfl
@[simp] theorem h71_msd : h71.msd = [] := rfl
@[simp] theorem h71_alt : h71.alt = [] := rfl
@[simp] theorem h71_fz : h71.fz = 0 := rfl
@[simp] theorem h71_gc : h71.gc = true := rfl
@[simp] theorem h71_wk : h71.wk = false := rfl
def h72 : Hint where
  vars := [0, 2]
  conds := []
  steal := [5, 6]
  live := []
  roots := []
  rets := true
  glob := []
  sw := []
  msd := []
  alt := []
  fz := 0
  gc := false
  wk := false
@[simp] theorem h72_vars : h72.vars = [0, 2] := rfl
@[simp] theorem h72_conds : h72.conds = [] := rfl
@[simp] theorem h72_steal : h72.steal = [5, 6] := rfl
@[simp] theorem h72_live : h72.live = [] := rfl
@[simp] theorem h72_roots : h72.roots = [] := rfl
@[simp] theorem h72_rets : h72.rets = true := rfl
@[simp] theorem h72_glob : h72.glob = [] := rfl
@[simp] theorem h72_sw : h72.sw = [] := rfl
@[simp] theorem h72_msd : h72.msd = [] := rfl
@[simp] theorem h72_alt : h72.alt = [] := rfl
@[simp] theorem h72_fz : h72.fz = 0 := rfl
@[simp] theorem h72_gc : h72.gc = false := rfl
@[simp] theorem h72_wk : h72.wk = false := rfl
def h73 : Hint where
  vars := [0, 1, 4, 5]
  conds := []
  steal := [6, 7, 10]
  live := []
  roots := []
  rets := true
  glob := []
  sw := []
  msd := []
  alt := []
  fz := 0
  gc := false
  wk := false
@[simp] theorem h73_vars : h73.vars = [0, 1, 4, 5] := rfl
@[simp] theorem h73_conds : h73.conds = [] := rfl
@[simp] theorem h73_steal : h73.steal = [6, 7, 10] := rfl
@[simp] theorem h73_live : h73.live = [] := rfl
@[simp] theorem h73_roots : h73.roots = [] := rfl
@[simp] theorem h73_rets : h73.rets = true := rfl
@[simp] theorem h73_glob : h73.glob = [] := rfl
@[simp] theorem h73_sw : h73.sw = [] := rfl
@[simp] theorem h73_msd : h73.msd = [] := rfl
@[simp] theorem h73_alt : h73.alt = [] := rfl
@[simp] theorem h73_fz : h73.fz = 0 := rfl
@[simp] theorem h73_gc : h73.gc = false := rfl
@[simp] theorem h73_wk : h73.wk = false := rfl
def h74 : Hint where
  vars := [0, 2, 3, 4, 5]
  conds := [18]
  steal := [9, 14, 19, 20, 23]
  live := []
  roots := []
  rets := true
  glob := []
  sw := []
  msd := []
  alt := []
  fz := 0
  gc := false
  wk := false
@[simp] theorem h74_vars : h74.vars = [0, 2, 3, 4, 5] := rfl
@[simp] theorem h74_conds : h74.conds = [18] := rfl
@[simp] theorem h74_steal : h74.steal = [9, 14, 19, 20, 23] := rfl
@[simp] theorem h74_live : h74.live = [] := rfl
@[simp] theorem h74_roots : h74.roots = [] := rfl
@[simp] theorem h74_rets : h74.rets = true := rfl
@[simp] theorem h74_glob : h74.glob = [] := rfl
@[simp] theorem h74_sw : h74.sw = [] := rfl
@[simp] theorem h74_msd : h74.msd = [] := rfl
@[simp] theorem h74_alt : h74.alt = [] := rfl
@[simp] theorem h74_fz : h74.fz = 0 := rfl
@[simp] theorem h74_gc : h74.gc = false := rfl
@[simp] theorem h74_wk : h74.wk = false := rfl
def h75 : Hint where
  vars := [0, 2, 3]
  conds := [8, 14]
  steal := [9, 15]
  live := [(2, [0, 3])]
  roots := []
  rets := true
  glob := []
  sw := []
  msd := []
  alt := []
  fz := 0
  gc := false
  wk := false
@[simp] theorem h75_vars : h75.vars = [0, 2, 3] := rfl
@[simp] theorem h75_conds : h75.conds = [8, 14] := rfl
@[simp] theorem h75_steal : h75.steal = [9, 15] := rfl
@[simp] theorem h75_live : h75.live = [(2, [0, 3])] := rfl
@[simp] theorem h75_roots : h75.roots = [] := rfl
@[simp] theorem h75_rets : h75.rets = true := rfl
@[simp] theorem h75_glob : h75.glob = [] := rfl
@[simp] theorem h75_sw : h75.sw = [] := rfl
@[simp] theorem h75_msd : h75.msd = [] := rfl
@[simp] theorem h75_alt : h75.alt = [] := rfl
@[simp] theorem h75_fz : h75.fz = 0 := rfl
@[simp] theorem h75_gc : h75.gc = false := rfl
@[simp] theorem h75_wk : h75.wk = false := rfl
def h76 : Hint where
  vars := [0, 2, 3, 4]
  conds := [19]
  steal := [9, 14, 20, 21, 25, 27]
  live := []
  roots := []
  rets := true
  glob := []
  sw := []
  msd := []
  alt := []
  fz := 0
  gc := false
  wk := false
@[simp] theorem h76_vars : h76.vars = [0, 2, 3, 4] := rfl
@[simp] theorem h76_conds : h76.conds = [19] := rfl
@[simp] theorem h76_steal : h76.steal = [9, 14, 20, 21, 25, 27] := rfl
@[simp] theorem h76_live : h76.live = [] := rfl
@[simp] theorem h76_roots : h76.roots = [] := rfl
@[simp] theorem h76_rets : h76.rets = true := rfl
@[simp] theorem h76_glob : h76.glob = [] := rfl
@[simp] theorem h76_sw : h76.sw = [] := rfl
@[simp] theorem h76_msd : h76.msd = [] := rfl
@[simp] theorem h76_alt : h76.alt = [] := rfl
@[simp] theorem h76_fz : h76.fz = 0 := rfl
@[simp] theorem h76_gc : h76.gc = false := rfl
@[simp] theorem h76_wk : h76.wk = false := rfl
def h77 : Hint where
  vars := [0, 1, 4, 5, 6, 7]
  conds := [11, 24]
  steal := [12, 18, 25, 27, 34]
  live := [(4, [0, 1, 5, 6, 7])]
  roots := []
  rets := true
  glob := []
  sw := []
  msd := []
  alt := []
  fz := 0
  gc := false
  wk := false
@[simp] theorem h77_vars : h77.vars = [0, 1, 4, 5, 6, 7] := rfl
@[simp] theorem h77_conds : h77.conds = [11, 24] := rfl
@[simp] theorem h77_steal : h77.steal = [12, 18, 25, 27, 34] := rfl
@[simp] theorem h77_live : h77.live = [(4, [0, 1, 5, 6, 7])] := rfl
@[simp] theorem h77_roots : h77.roots = [] := rfl
@[simp] theorem h77_rets : h77.rets = true := rfl
@[simp] theorem h77_glob : h77.glob = [] := rfl
@[simp] theorem h77_sw : h77.sw = [] := rfl
@[simp] theorem h77_msd : h77.msd = [] := rfl
@[simp] theorem h77_alt : h77.alt = [] := rfl
@[simp] theorem h77_fz : h77.fz = 0 := rfl
@[simp] theorem h77_gc : h77.gc = false := rfl
@[simp] theorem h77_wk : h77.wk = false := rfl
def h78 : Hint where
  vars := [0, 1, 4, 5, 6]
  conds := [21, 25, 64]
  steal := [9, 14, 26, 34, 39, 44, 48, 52, 56, 60, 61]
  live := [(4, [0, 1, 5])]
  roots := []
  rets := true
  glob := []
  sw := []
  msd := []
  alt := []
  fz := 0
  gc := false
  wk := false
@[simp] theorem h78_vars : h78.vars = [0, 1, 4, 5, 6] := rfl
@[simp] theorem h78_conds : h78.conds = [21, 25, 64] := rfl
@[simp] theorem h78_steal : h78.steal = [9, 14, 26, 34, 39, 44, 48, 52, 56, 60, 61] := rfl
@[simp] theorem h78_live : h78.live = [(4, [0, 1, 5])] := rfl
@[simp] theorem h78_roots : h78.roots = [] := rfl
@[simp] theorem h78_rets : h78.rets = true := rfl
@[simp] theorem h78_glob : h78.glob = [] := rfl
@[simp] theorem h78_sw : h78.sw = [] := rfl
@[simp] theorem h78_msd : h78.msd = [] := rfl
@[simp] theorem h78_alt : h78.alt = [] := rfl
@[simp] theorem h78_fz : h78.fz = 0 := rfl
@[simp] theorem h78_gc : h78.gc = false := rfl
@[simp] theorem h78_wk : h78.wk = false := rfl
def h79 : Hint where
  vars := [0, 2, 3, 4]
  conds := [8, 26]
  steal := [9, 15, 21, 27, 28, 34, 35, 36]
  live := [(3, [0, 3, 4])]
  roots := []
  rets := true
  glob := []
  sw := []
  msd := []
  alt := []
  fz := 0
  gc := false
  wk := false
@[simp] theorem h79_vars : h79.vars = [0, 2, 3, 4] := rfl
@[simp] theorem h79_conds : h79.conds = [8, 26] := rfl
@[simp] theorem h79_steal : h79.steal = [9, 15, 21, 27, 28, 34, 35, 36] := rfl
@[simp] theorem h79_live : h79.live = [(3, [0, 3, 4])] := rfl
@[simp] theorem h79_roots : h79.roots = [] := rfl
@[simp] theorem h79_rets : h79.rets = true := rfl
@[simp] theorem h79_glob : h79.glob = [] := rfl
@[simp] theorem h79_sw : h79.sw = [] := rfl
@[simp] theorem h79_msd : h79.msd = [] := rfl
@[simp] theorem h79_alt : h79.alt = [] := rfl
@[simp] theorem h79_fz : h79.fz = 0 := rfl
@[simp] theorem h79_gc : h79.gc = false := rfl
@[simp] theorem h79_wk : h79.wk = false := rfl
def h80 : Hint where
  vars := [0, 2, 3]
  conds := [7, 14]
  steal := [8, 15]
  live := [(2, [0, 3])]
  roots := []
  rets := true
  glob := []
  sw := []
  msd := []
  alt := []
  fz := 0
  gc := false
  wk := false
@[simp] theorem h80_vars : h80.vars = [0, 2, 3] := rfl
@[simp] theorem h80_conds : h80.conds = [7, 14] := rfl
@[simp] theorem h80_steal : h80.steal = [8, 15] := rfl
@[simp] theorem h80_live : h80.live = [(2, [0, 3])] := rfl
@[simp] theorem h80_roots : h80.roots = [] := rfl
@[simp] theorem h80_rets : h80.rets = true := rfl
@[simp] theorem h80_glob : h80.glob = [] := rfl
@[simp] theorem h80_sw : h80.sw = [] := rfl
@[simp] theorem h80_msd : h80.msd = [] := rfl
@[simp] theorem h80_alt : h80.alt = [] := rfl
@[simp] theorem h80_fz : h80.fz = 0 := rfl
@[simp] theorem h80_gc : h80.gc = false := rfl
@[simp] theorem h80_wk : h80.wk = false := rfl
def h81 : Hint where
  vars := [0, 2, 7]
  conds := []
  steal := [8, 9, 15, 16]
  live := []
  roots := []
  rets := true
  glob := []
  sw := []
  msd := []
  alt := []
  fz := 0
  gc := false
  wk := false
@[simp] theorem h81_vars : h81.vars = [0, 2, 7] := rfl
@[simp] theorem h81_conds : h81.conds = [] := rfl
@[simp] theorem h81_steal : h81.steal = [8, 9, 15, 16] := rfl
@[simp] theorem h81_live : h81.live = [] := rfl
@[simp] theorem h81_roots : h81.roots = [] := rfl
@[simp] theorem h81_rets : h81.rets = true := rfl
@[simp] theorem h81_glob : h81.glob = [] := rfl
@[simp] theorem h81_sw : h81.sw = [] := rfl
@[simp] theorem h81_msd : h81.msd = [] := rfl
@[simp] theorem h81_alt : h81.alt = [] := rfl
@[simp] theorem h81_fz : h81.fz = 0 := rfl
@[simp] theorem h81_gc : h81.gc = false := rfl
@[simp] theorem h81_wk : h81.wk = false := rfl
def h82 : Hint where
  vars := [0, 1, 2, 3]
  conds := [11]
  steal := [7, 15, 19, 23, 27, 28]
  live := []
  roots := []
  rets := true
  glob := [1]
  sw := []
  msd := []
  alt := []
  fz := 0
  gc := true
  wk := false
@[simp] theorem h82_vars : h82.vars = [0, 1, 2, 3] := rfl
@[simp] theorem h82_conds : h82.conds = [11] := rfl
@[simp] theorem h82_steal : h82.steal = [7, 15, 19, 23, 27, 28] := rfl
@[simp] theorem h82_live : h82.live = [] := rfl
@[simp] theorem h82_roots : h82.roots = [] := rfl
@[simp] theorem h82_rets : h82.rets = true := rfl
@[simp] theorem h82_glob : h82.glob = [1] := rfl
@[simp] theorem h82_sw : h82.sw = [] := rfl
@[simp] theorem h82_msd : h82.msd = [] := rfl
@[simp] theorem h82_alt : h82.alt = [] := rfl
@[simp] theorem h82_fz : h82.fz = 0 := rfl
@[simp] theorem h82_gc : h82.gc = true := rfl
@[simp] theorem h82_wk : h82.wk = false := rfl
def h83 : Hint where
  vars := [0, 2]
  conds := []
  steal := [6, 7]
  live := []
  roots := []
  rets := true
  glob := []
  sw := []
  msd := []
  alt := []
  fz := 0
  gc := false
  wk := false
@[simp] theorem h83_vars : h83.vars = [0, 2] := rfl
@[simp] theorem h83_conds : h83.conds = [] := rfl
@[simp] theorem h83_steal : h83.steal = [6, 7] := rfl
@[simp] theorem h83_live : h83.live = [] := rfl
@[simp] theorem h83_roots : h83.roots = [] := rfl
@[simp] theorem h83_rets : h83.rets = true := rfl
@[simp] theorem h83_glob : h83.glob = [] := rfl
@[simp] theorem h83_sw : h83.sw = [] := rfl
@[simp] theorem h83_msd : h83.msd = [] := rfl
@[simp] theorem h83_alt : h83.alt = [] := rfl
@[simp] theorem h83_fz : h83.fz = 0 := rfl
@[simp] theorem h83_gc : h83.gc = false := rfl
@[simp] theorem h83_wk : h83.wk = false := rfl
def h84 : Hint where
  vars := [0, 1, 2]
  conds := []
  steal := []
  live := []
  roots := [(3, 1), (8, 1), (13, 1)]
  rets := true
  glob := []
  sw := [10]
  msd := []
  alt := []
  fz := 0
  gc := false
  wk := false
@[simp] theorem h84_vars : h84.vars = [0, 1, 2] := rfl
@[simp] theorem h84_conds : h84.conds = [] := rfl
@[simp] theorem h84_steal : h84.steal = [] := rfl
@[simp] theorem h84_live : h84.live = [] := rfl
@[simp] theorem h84_roots : h84.roots = [(3, 1), (8, 1), (13, 1)] := rfl
@[simp] theorem h84_rets : h84.rets = true := rfl
@[simp] theorem h84_glob : h84.glob = [] := rfl
@[simp] theorem h84_sw : h84.sw = [10] := rfl
@[simp] theorem h84_msd : h84.msd = [] := rfl
@[simp] theorem h84_alt : h84.alt = [] := rfl
@[simp] theorem h84_fz : h84.fz = 0 := rfl
@[simp] theorem h84_gc : h84.gc = false := rfl
@[simp] theorem h84_wk : h84.wk = false := rfl
def h85 : Hint where
  vars := [0, 2]
  conds := [10]
  steal := [6, 14, 19, 24, 29, 30]
  live := []
  roots := []
  rets := true
  glob := []
  sw := []
  msd := []
  alt := []
  fz := 0
  gc := false
  wk := false
@[simp] theorem h85_vars : h85.vars = [0, 2] := rfl
@[simp] theorem h85_conds : h85.conds = [10] := rfl
@[simp] theorem h85_steal : h85.steal = [6, 14, 19, 24, 29, 30] := rfl
@[simp] theorem h85_live : h85.live = [] := rfl
@[simp] theorem h85_roots : h85.roots = [] := rfl
@[simp] theorem h85_rets : h85.rets = true := rfl
@[simp] theorem h85_glob : h85.glob = [] := rfl
@[simp] theorem h85_sw : h85.sw = [] := rfl
@[simp] theorem h85_msd : h85.msd = [] := rfl
@[simp] theorem h85_alt : h85.alt = [] := rfl
@[simp] theorem h85_fz : h85.fz = 0 := rfl
@[simp] theorem h85_gc : h85.gc = false := rfl
@[simp] theorem h85_wk : h85.wk = false := rfl
def h86 : Hint where
  vars := [0, 2, 3]
  conds := [7, 26]
  steal := [8, 15, 20, 27]
  live := [(2, [0, 3])]
  roots := []
  rets := true
  glob := []
  sw := []
  msd := []
  alt := []
  fz := 0
  gc := false
  wk := false
@[simp] theorem h86_vars : h86.vars = [0, 2, 3] := rfl
@[simp] theorem h86_conds : h86.conds = [7, 26] := rfl
@[simp] theorem h86_steal : h86.steal = [8, 15, 20, 27] := rfl
@[simp] theorem h86_live : h86.live = [(2, [0, 3])] := rfl
@[simp] theorem h86_roots : h86.roots = [] := rfl
@[simp] theorem h86_rets : h86.rets = true := rfl
@[simp] theorem h86_glob : h86.glob = [] := rfl
@[simp] theorem h86_sw : h86.sw = [] := rfl
@[simp] theorem h86_msd : h86.msd = [] := rfl
@[simp] theorem h86_alt : h86.alt = [] := rfl
@[simp] theorem h86_fz : h86.fz = 0 := rfl
@[simp] theorem h86_gc : h86.gc = false := rfl
@[simp] theorem h86_wk : h86.wk = false := rfl
def h87 : Hint where
  vars := [0, 2]
  conds := []
  steal := [3]
  live := []
  roots := []
  rets := true
  glob := []
  sw := []
  msd := []
  alt := []
  fz := 0
  gc := false
  wk := false
@[simp] theorem h87_vars : h87.vars = [0, 2] := rfl
@[simp] theorem h87_conds : h87.conds = [] := rfl
@[simp] theorem h87_steal : h87.steal = [3] := rfl
@[simp] theorem h87_live : h87.live = [] := rfl
@[simp] theorem h87_roots : h87.roots = [] := rfl
@[simp] theorem h87_rets : h87.rets = true := rfl
@[simp] theorem h87_glob : h87.glob = [] := rfl
@[simp] theorem h87_sw : h87.sw = [] := rfl
@[simp] theorem h87_msd : h87.msd = [] := rfl
@[simp] theorem h87_alt : h87.alt = [] := rfl
@[simp] theorem h87_fz : h87.fz = 0 := rfl
@[simp] theorem h87_gc : h87.gc = false := rfl
@[simp] theorem h87_wk : h87.wk = false := rfl
def h88 : Hint where
  vars := [0, 1, 4, 5]
  conds := []
  steal := [6, 7, 10]
  live := []
  roots := []
  rets := true
  glob := []
  sw := []
  msd := []
  alt := []
  fz := 0
  gc := false
  wk := false
@[simp] theorem h88_vars : h88.vars = [0, 1, 4, 5] := rfl
@[simp] theorem h88_conds : h88.conds = [] := rfl
@[simp] theorem h88_steal : h88.steal = [6, 7, 10] := rfl
@[simp] theorem h88_live : h88.live = [] := rfl
@[simp] theorem h88_roots : h88.roots = [] := rfl
@[simp] theorem h88_rets : h88.rets = true := rfl
@[simp] theorem h88_glob : h88.glob = [] := rfl
@[simp] theorem h88_sw : h88.sw = [] := rfl
@[simp] theorem h88_msd : h88.msd = [] := rfl
@[simp] theorem h88_alt : h88.alt = [] := rfl
@[simp] theorem h88_fz : h88.fz = 0 := rfl
@[simp] theorem h88_gc : h88.gc = false := rfl
@[simp] theorem h88_wk : h88.wk = false := rfl
def h89 : Hint where
  vars := [0, 1, 4]
  conds := []
  steal := [10, 12, 18]
  live := []
  roots := []
  rets := true
  glob := []
  sw := []
  msd := []
  alt := []
  fz := 0
  gc := false
  wk := false
@[simp] theorem h89_vars : h89.vars = [0, 1, 4] := rfl
@[simp] theorem h89_conds : h89.conds = [] := rfl
@[simp] theorem h89_steal : h89.steal = [10, 12, 18] := rfl
@[simp] theorem h89_live : h89.live = [] := rfl
@[simp] theorem h89_roots : h89.roots = [] := rfl
@[simp] theorem h89_rets : h89.rets = true := rfl
@[simp] theorem h89_glob : h89.glob = [] := rfl
@[simp] theorem h89_sw : h89.sw = [] := rfl
@[simp] theorem h89_msd : h89.msd = [] := rfl
@[simp] theorem h89_alt : h89.alt = [] := rfl
@[simp] theorem h89_fz : h89.fz = 0 := rfl
@[simp] theorem h89_gc : h89.gc = false := rfl
@[simp] theorem h89_wk : h89.wk = false := rfl
def h90 : Hint where
  vars := [0, 1, 4, 5]
  conds := []
  steal := [9, 12, 14]
  live := []
  roots := []
  rets := true
  glob := [10]
  sw := []
  msd := [10]
  alt := []
  fz := 2
  gc := true
  wk := false
@[simp] theorem h90_vars : h90.vars = [0, 1, 4, 5] := rfl
@[simp] theorem h90_conds : h90.conds = [] := rfl
@[simp] theorem h90_steal : h90.steal = [9, 12, 14] := rfl
@[simp] theorem h90_live : h90.live = [] := rfl
@[simp] theorem h90_roots : h90.roots = [] := rfl
@[simp] theorem h90_rets : h90.rets = true := rfl
@[simp] theorem h90_glob : h90.glob = [10] := rfl
@[simp] theorem h90_sw : h90.sw = [] := rfl
@[simp] theorem h90_msd : h90.msd = [10] := rfl
@[simp] theorem h90_alt : h90.alt = [] := rfl
@[simp] theorem h90_fz : h90.fz = 2 := rfl
@[simp] theorem h90_gc : h90.gc = true := rfl
@[simp] theorem h90_wk : h90.wk = false := rfl
def h91 : Hint where
  vars := [0, 1, 4, 5]
  conds := []
  steal := [9, 12, 14]
  live := []
  roots := []
  rets := true
  glob := [10]
  sw := []
  msd := [10]
  alt := []
  fz := 2
  gc := true
  wk := false
@[simp] theorem h91_vars : h91.vars = [0, 1, 4, 5] := rfl
@[simp] theorem h91_conds : h91.conds = [] := rfl
@[simp] theorem h91_steal : h91.steal = [9, 12, 14] := rfl
@[simp] theorem h91_live : h91.live = [] := rfl
@[simp] theorem h91_roots : h91.roots = [] := rfl
@[simp] theorem h91_rets : h91.rets = true := rfl
@[simp] theorem h91_glob : h91.glob = [10] := rfl
@[simp] theorem h91_sw : h91.sw = [] := rfl
@[simp] theorem h91_msd : h91.msd = [10] := rfl
@[simp] theorem h91_alt : h91.alt = [] := rfl
@[simp] theorem h91_fz : h91.fz = 2 := rfl
@[simp] theorem h91_gc : h91.gc = true := rfl
@[simp] theorem h91_wk : h91.wk = false := rfl
def h92 : Hint where
  vars := [0, 1, 2, 3, 4]
  conds := []
  steal := []
  live := []
  roots := [(5, 2), (7, 3), (10, 2), (12, 3)]
  rets := true
  glob := []
  sw := [14]
  msd := []
  alt := []
  fz := 0
  gc := false
  wk := false
@[simp] theorem h92_vars : h92.vars = [0, 1, 2, 3, 4] := rfl
@[simp] theorem h92_conds : h92.conds = [] := rfl
@[simp] theorem h92_steal : h92.steal = [] := rfl
@[simp] theorem h92_live : h92.live = [] := rfl
@[simp] theorem h92_roots : h92.roots = [(5, 2), (7, 3), (10, 2), (12, 3)] := rfl
@[simp] theorem h92_rets : h92.rets = true := rfl
@[simp] theorem h92_glob : h92.glob = [] := rfl
@[simp] theorem h92_sw : h92.sw = [14] := rfl
@[simp] theorem h92_msd : h92.msd = [] := rfl
@[simp] theorem h92_alt : h92.alt = [] := rfl
@[simp] theorem h92_fz : h92.fz = 0 := rfl
@[simp] theorem h92_gc : h92.gc = false := rfl
@[simp] theorem h92_wk : h92.wk = false := rfl
def h93 : Hint where
  vars := [0, 2]
  conds := []
  steal := [5, 10, 13, 14]
  live := []
  roots := []
  rets := true
  glob := []
  sw := []
  msd := []
  alt := []
  fz := 0
  gc := false
  wk := false
@[simp] theorem h93_vars : h93.vars = [0, 2] := rfl
@[simp] theorem h93_conds : h93.conds = [] := rfl
@[simp] theorem h93_steal : h93.steal = [5, 10, 13, 14] := rfl
@[simp] theorem h93_live : h93.live = [] := rfl
@[simp] theorem h93_roots : h93.roots = [] := rfl
@[simp] theorem h93_rets : h93.rets = true := rfl
@[simp] theorem h93_glob : h93.glob = [] := rfl
@[simp] theorem h93_sw : h93.sw = [] := rfl
@[simp] theorem h93_msd : h93.msd = [] := rfl
@[simp] theorem h93_alt : h93.alt = [] := rfl
@[simp] theorem h93_fz : h93.fz = 0 := rfl
@[simp] theorem h93_gc : h93.gc = false := rfl
@[simp] theorem h93_wk : h93.wk = false := rfl
def h94 : Hint where
  vars := [0, 2, 3]
  conds := [7, 34]
  steal := [8, 15, 22, 29, 37, 41, 45, 46]
  live := [(2, [0, 3])]
  roots := []
  rets := true
  glob := []
  sw := []
  msd := []
  alt := []
  fz := 0
  gc := false
  wk := false
@[simp] theorem h94_vars : h94.vars = [0, 2, 3] := rfl
@[simp] theorem h94_conds : h94.conds = [7, 34] := rfl
@[simp] theorem h94_steal : h94.steal = [8, 15, 22, 29, 37, 41, 45, 46] := rfl
@[simp] theorem h94_live : h94.live = [(2, [0, 3])] := rfl
@[simp] theorem h94_roots : h94.roots = [] := rfl
@[simp] theorem h94_rets : h94.rets = true := rfl
@[simp] theorem h94_glob : h94.glob = [] := rfl
@[simp] theorem h94_sw : h94.sw = [] := rfl
@[simp] theorem h94_msd : h94.msd = [] := rfl
@[simp] theorem h94_alt : h94.alt = [] := rfl
@[simp] theorem h94_fz : h94.fz = 0 := rfl
@[simp] theorem h94_gc : h94.gc = false := rfl
@[simp] theorem h94_wk : h94.wk = false := rfl
def h95 : Hint where
  vars := [0, 2, 3, 4, 5, 6, 7, 8]
  conds := [18, 44, 48, 60, 70, 75, 78]
  steal := [12, 19, 23, 28, 32, 38, 40, 49, 55, 71, 73, 75, 76, 79]
  live := [(9, [4, 5, 6, 7])]
  roots := []
  rets := true
  glob := []
  sw := []
  msd := []
  alt := []
  fz := 0
  gc := false
  wk := false
@[simp] theorem h95_vars : h95.vars = [0, 2, 3, 4, 5, 6, 7, 8] := rfl
@[simp] theorem h95_conds : h95.conds = [18, 44, 48, 60, 70, 75, 78] := rfl
@[simp] theorem h95_steal : h95.steal = [12, 19, 23, 28, 32, 38, 40, 49, 55, 71, 73, 75, 76, 79] := rfl
@[simp] theorem h95_live : h95.live = [(9, [4, 5, 6, 7])] := rfl
@[simp] theorem h95_roots : h95.roots = [] := rfl
@[simp] theorem h95_rets : h95.rets = true := rfl
@[simp] theorem h95_glob : h95.glob = [] := rfl
@[simp] theorem h95_sw : h95.sw = [] := rfl
@[simp] theorem h95_msd : h95.msd = [] := rfl
@[simp] theorem h95_alt : h95.alt = [] := rfl
@[simp] theorem h95_fz : h95.fz = 0 := rfl
@[simp] theorem h95_gc : h95.gc = false := rfl
@[simp] theorem h95_wk : h95.wk = false := rfl
def h96 : Hint where
  vars := [0, 1, 4]
  conds := [7, 10]
  steal := [8, 9]
  live := []
  roots := []
  rets := true
  glob := []
  sw := []
  msd := []
  alt := []
  fz := 0
  gc := false
  wk := false
@[simp] theorem h96_vars : h96.vars = [0, 1, 4] := rfl
@[simp] theorem h96_conds : h96.conds = [7, 10] := rfl
@[simp] theorem h96_steal : h96.steal = [8, 9] := rfl
@[simp] theorem h96_live : h96.live = [] := rfl
@[simp] theorem h96_roots : h96.roots = [] := rfl
@[simp] theorem h96_rets : h96.rets = true := rfl
@[simp] theorem h96_glob : h96.glob = [] := rfl
@[simp] theorem h96_sw : h96.sw = [] := rfl
@[simp] theorem h96_msd : h96.msd = [] := rfl
@[simp] theorem h96_alt : h96.alt = [] := rfl
@[simp] theorem h96_fz : h96.fz = 0 := rfl
@[simp] theorem h96_gc : h96.gc = false := rfl
@[simp] theorem h96_wk : h96.wk = false := rfl
def h97 : Hint where
  vars := [0, 1, 4]
  conds := [7, 10]
  steal := [8, 9]
  live := []
  roots := []
  rets := true
  glob := []
  sw := []
  msd := []
  alt := []
  fz := 0
  gc := false
  wk := false
@[simp] theorem h97_vars : h97.vars = [0, 1, 4] := rfl
@[simp] theorem h97_conds : h97.conds = [7, 10] := rfl
@[simp] theorem h97_steal : h97.steal = [8, 9] := rfl
@[simp] theorem h97_live : h97.live = [] := rfl
@[simp] theorem h97_roots : h97.roots = [] := rfl
@[simp] theorem h97_rets : h97.rets = true := rfl
@[simp] theorem h97_glob : h97.glob = [] := rfl
@[simp] theorem h97_sw : h97.sw = [] := rfl
@[simp] theorem h97_msd : h97.msd = [] := rfl
@[simp] theorem h97_alt : h97.alt = [] := rfl
@[simp] theorem h97_fz : h97.fz = 0 := rfl
@[simp] theorem h97_gc : h97.gc = false := rfl
@[simp] theorem h97_wk : h97.wk = false := rfl
def h98 : Hint where
  vars := [0, 2]
  conds := [3]
  steal := [3]
  live := []
  roots := []
  rets := true
  glob := []
  sw := []
  msd := []
  alt := []
  fz := 0
  gc := false
  wk := false
@[simp] theorem h98_vars : h98.vars = [0, 2] := rfl
@[simp] theorem h98_conds : h98.conds = [3] := rfl
@[simp] theorem h98_steal : h98.steal = [3] := rfl
@[simp] theorem h98_live : h98.live = [] := rfl
@[simp] theorem h98_roots : h98.roots = [] := rfl
@[simp] theorem h98_rets : h98.rets = true := rfl
@[simp] theorem h98_glob : h98.glob = [] := rfl
@[simp] theorem h98_sw : h98.sw = [] := rfl
@[simp] theorem h98_msd : h98.msd = [] := rfl
@[simp] theorem h98_alt : h98.alt = [] := rfl
@[simp] theorem h98_fz : h98.fz = 0 := rfl
@[simp] theorem h98_gc : h98.gc = false := rfl
@[simp] theorem h98_wk : h98.wk = false := rfl
def h99 : Hint where
  vars := [0, 1, 4, 5, 6]
  conds := [14, 19, 30, 31]
  steal := [12, 20, 22, 25, 26, 29, 31, 32, 33]
  live := []
  roots := []
  rets := true
  glob := []
  sw := []
  msd := []
  alt := []
  fz := 0
  gc := false
  wk := false
@[simp] theorem h99_vars : h99.vars = [0, 1, 4, 5, 6] := rfl
@[simp] theorem h99_conds : h99.conds = [14, 19, 30, 31] := rfl
@[simp] theorem h99_steal : h99.steal = [12, 20, 22, 25, 26, 29, 31, 32, 33] := rfl
@[simp] theorem h99_live : h99.live = [] := rfl
@[simp] theorem h99_roots : h99.roots = [] := rfl
@[simp] theorem h99_rets : h99.rets = true := rfl
@[simp] theorem h99_glob : h99.glob = [] := rfl
@[simp] theorem h99_sw : h99.sw = [] := rfl
@[simp] theorem h99_msd : h99.msd = [] := rfl
@[simp] theorem h99_alt : h99.alt = [] := rfl
@[simp] theorem h99_fz : h99.fz = 0 := rfl
@[simp] theorem h99_gc : h99.gc = false := rfl
@[simp] theorem h99_wk : h99.wk = false := rfl
def h100 : Hint where
  vars := [0, 1, 4]
  conds := []
  steal := [5, 6]
  live := []
  roots := []
  rets := true
  glob := []
  sw := []
  msd := []
  alt := []
  fz := 0
  gc := false
  wk := false
@[simp] theorem h100_vars : h100.vars = [0, 1, 4] := rfl
@[simp] theorem h100_conds : h100.conds = [] := rfl
@[simp] theorem h100_steal : h100.steal = [5, 6] := rfl
@[simp] theorem h100_live : h100.live = [] := rfl
@[simp] theorem h100_roots : h100.roots = [] := rfl
@[simp] theorem h100_rets : h100.rets = true := rfl
@[simp] theorem h100_glob : h100.glob = [] := rfl
@[simp] theorem h100_sw : h100.sw = [] := rfl
@[simp] theorem h100_msd : h100.msd = [] := rfl
@[simp] theorem h100_alt : h100.alt = [] := rfl
@[simp] theorem h100_fz : h100.fz = 0 := rfl
@[simp] theorem h100_gc : h100.gc = false := rfl
@[simp] theorem h100_wk : h100.wk = false := rfl
def h101 : Hint where
  vars := [0, 1, 4]
  conds := []
  steal := [5, 6]
  live := []
  roots := []
  rets := true
  glob := []
  sw := []
  msd := []
  alt := []
  fz := 0
  gc := false
  wk := false
@[simp] theorem h101_vars : h101.vars = [0, 1, 4] := rfl
@[simp] theorem h101_conds : h101.conds = [] := rfl
@[simp] theorem h101_steal : h101.steal = [5, 6] := rfl
@[simp] theorem h101_live : h101.live = [] := rfl
@[simp] theorem h101_roots : h101.roots = [] := rfl
@[simp] theorem h101_rets : h101.rets = true := rfl
@[simp] theorem h101_glob : h101.glob = [] := rfl
@[simp] theorem h101_sw : h101.sw = [] := rfl
@[simp] theorem h101_msd : h101.msd = [] := rfl
@[simp] theorem h101_alt : h101.alt = [] := rfl
@[simp] theorem h101_fz : h101.fz = 0 := rfl
@[simp] theorem h101_gc : h101.gc = false := rfl
@[simp] theorem h101_wk : h101.wk = false := rfl
def h102 : Hint where
  vars := [0, 2, 4, 6, 7, 8]
  conds := [9, 24]
  steal := [5, 16, 19, 20]
  live := [(2, [6, 7, 8])]
  roots := []
  rets := true
  glob := []
  sw := []
  msd := []
  alt := []
  fz := 0
  gc := true
  wk := false
@[simp] theorem h102_vars : h102.vars = [0, 2, 4, 6, 7, 8] := rfl
@[simp] theorem h102_conds : h102.conds = [9, 24] := rfl
@[simp] theorem h102_steal : h102.steal = [5, 16, 19, 20] := rfl
@[simp] theorem h102_live : h102.live = [(2, [6, 7, 8])] := rfl
@[simp] theorem h102_roots : h102.roots = [] := rfl
@[simp] theorem h102_rets : h102.rets = true := rfl
@[simp] theorem h102_glob : h102.glob = [] := rfl
@[simp] theorem h102_sw : h102.sw = [] := rfl
@[simp] theorem h102_msd : h102.msd = [] := rfl
@[simp] theorem h102_alt : h102.alt = [] := rfl
@[simp] theorem h102_fz : h102.fz = 0 := rfl
@[simp] theorem h102_gc : h102.gc = true := rfl
@[simp] theorem h102_wk : h102.wk = false := rfl
def h103 : Hint where
  vars := [0, 1, 4]
  conds := []
  steal := [5, 6]
  live := []
  roots := []
  rets := true
  glob := []
  sw := []
  msd := []
  alt := []
  fz := 0
  gc := false
  wk := false
@[simp] theorem h103_vars : h103.vars = [0, 1, 4] := rfl
@[simp] theorem h103_conds : h103.conds = [] := rfl
@[simp] theorem h103_steal : h103.steal = [5, 6] := rfl
@[simp] theorem h103_live : h103.live = [] := rfl
@[simp] theorem h103_roots : h103.roots = [] := rfl
@[simp] theorem h103_rets : h103.rets = true := rfl
@[simp] theorem h103_glob : h103.glob = [] := rfl
@[simp] theorem h103_sw : h103.sw = [] := rfl
@[simp] theorem h103_msd : h103.msd = [] := rfl
@[simp] theorem h103_alt : h103.alt = [] := rfl
@[simp] theorem h103_fz : h103.fz = 0 := rfl
@[simp] theorem h103_gc : h103.gc = false := rfl
@[simp] theorem h103_wk : h103.wk = false := rfl
def h104 : Hint where
  vars := [0, 2]
  conds := []
  steal := [4]
  live := []
  roots := []
  rets := true
  glob := []
  sw := []
  msd := []
  alt := []
  fz := 0
  gc := false
  wk := false
@[simp] theorem h104_vars : h104.vars = [0, 2] := rfl
@[simp] theorem h104_conds : h104.conds = [] := rfl
@[simp] theorem h104_steal : h104.steal = [4] := rfl
@[simp] theorem h104_live : h104.live = [] := rfl
@[simp] theorem h104_roots : h104.roots = [] := rfl
@[simp] theorem h104_rets : h104.rets = true := rfl
@[simp] theorem h104_glob : h104.glob = [] := rfl
@[simp] theorem h104_sw : h104.sw = [] := rfl
@[simp] theorem h104_msd : h104.msd = [] := rfl
@[simp] theorem h104_alt : h104.alt = [] := rfl
@[simp] theorem h104_fz : h104.fz = 0 := rfl
@[simp] theorem h104_gc : h104.gc = false := rfl
@[simp] theorem h104_wk : h104.wk = false := rfl
def h105 : Hint where
  vars := [0, 1, 2, 6, 7, 8, 9, 10, 11, 12, 13]
  conds := [14, 21, 31, 38]
  steal := [23, 27, 28, 32, 34, 36]
  live := [(2, [0, 1, 2, 11, 12, 13])]
  roots := []
  rets := true
  glob := []
  sw := []
  msd := []
  alt := []
  fz := 0
  gc := true
  wk := false
@[simp] theorem h105_vars : h105.vars = [0, 1, 2, 6, 7, 8, 9, 10, 11, 12, 13] := rfl
@[simp] theorem h105_conds : h105.conds = [14, 21, 31, 38] := rfl
@[simp] theorem h105_steal : h105.steal = [23, 27, 28, 32, 34, 36] := rfl
@[simp] theorem h105_live : h105.live = [(2, [0, 1, 2, 11, 12, 13])] := rfl
@[simp] theorem h105_roots : h105.roots = [] := rfl
@[simp] theorem h105_rets : h105.rets = true := rfl
@[simp] theorem h105_glob : h105.glob = [] := rfl
@[simp] theorem h105_sw : h105.sw = [] := rfl
@[simp] theorem h105_msd : h105.msd = [] := rfl
@[simp] theorem h105_alt : h105.alt = [] := rfl
@[simp] theorem h105_fz : h105.fz = 0 := rfl
@[simp] theorem h105_gc : h105.gc = true := rfl
@[simp] theorem h105_wk : h105.wk = false := rfl
def h106 : Hint where
  vars := [0, 1, 4, 5, 6]
  conds := [11, 26, 28]
  steal := [13, 21, 22, 27, 29, 30, 31]
  live := []
  roots := []
  rets := true
  glob := []
  sw := []
  msd := []
  alt := []
  fz := 0
  gc := false
  wk := false
@[simp] theorem h106_vars : h106.vars = [0, 1, 4, 5, 6] := rfl
@[simp] theorem h106_conds : h106.conds = [11, 26, 28] := rfl
@[simp] theorem h106_steal : h106.steal = [13, 21, 22, 27, 29, 30, 31] := rfl
@[simp] theorem h106_live : h106.live = [] := rfl
@[simp] theorem h106_roots : h106.roots = [] := rfl
@[simp] theorem h106_rets : h106.rets = true := rfl
@[simp] theorem h106_glob : h106.glob = [] := rfl
@[simp] theorem h106_sw : h106.sw = [] := rfl
@[simp] theorem h106_msd : h106.msd = [] := rfl
@[simp] theorem h106_alt : h106.alt = [] := rfl
@[simp] theorem h106_fz : h106.fz = 0 := rfl
@[simp] theorem h106_gc : h106.gc = false := rfl
@[simp] theorem h106_wk : h106.wk = false := rfl
def h108 : Hint where
  vars := [0, 1, 4, 5, 6, 7]
  conds := [12]
  steal := [22]
  live := []
  roots := []
  rets := true
  glob := []
  sw := []
  msd := []
  alt := []
  fz := 0
  gc := false
  wk := false
@[simp] theorem h108_vars : h108.vars = [0, 1, 4, 5, 6, 7] := rfl
@[simp] theorem h108_conds : h108.conds = [12] := rfl
@[simp] theorem h108_steal : h108.steal = [22] := rfl
@[simp] theorem h108_live : h108.live = [] := rfl
@[simp] theorem h108_roots : h108.roots = [] := rfl
@[simp] theorem h108_rets : h108.rets = true := rfl
@[simp] theorem h108_glob : h108.glob = [] := rfl
@[simp] theorem h108_sw : h108.sw = [] := rfl
@[simp] theorem h108_msd : h108.msd = [] := rfl
@[simp] theorem h108_alt : h108.alt = [] := rfl
@[simp] theorem h108_fz : h108.fz = 0 := rfl
@[simp] theorem h108_gc : h108.gc = false := rfl
@[simp] theorem h108_wk : h108.wk = false := rfl
def h109 : Hint where
  vars := [0, 1, 3]
  conds := []
  steal := [6, 10, 14, 16]
  live := []
  roots := []
  rets := true
  glob := []
  sw := []
  msd := []
  alt := []
  fz := 0
  gc := false
  wk := false
@[simp] theorem h109_vars : h109.vars = [0, 1, 3] := rfl
@[simp] theorem h109_conds : h109.conds = [] := rfl
@[simp] theorem h109_steal : h109.steal = [6, 10, 14, 16] := rfl
@[simp] theorem h109_live : h109.live = [] := rfl
@[simp] theorem h109_roots : h109.roots = [] := rfl
@[simp] theorem h109_rets : h109.rets = true := rfl
@[simp] theorem h109_glob : h109.glob = [] := rfl
@[simp] theorem h109_sw : h109.sw = [] := rfl
@[simp] theorem h109_msd : h109.msd = [] := rfl
@[simp] theorem h109_alt : h109.alt = [] := rfl
@[simp] theorem h109_fz : h109.fz = 0 := rfl
@[simp] theorem h109_gc : h109.gc = false := rfl
@[simp] theorem h109_wk : h109.wk = false := rfl
def h110 : Hint where
  vars := [0, 1, 4]
  conds := []
  steal := [5, 6]
  live := []
  roots := []
  rets := true
  glob := []
  sw := []
  msd := []
  alt := []
  fz := 0
  gc := false
  wk := false
@[simp] theorem h110_vars : h110.vars = [0, 1, 4] := rfl
@[simp] theorem h110_conds : h110.conds = [] := rfl
@[simp] theorem h110_steal : h110.steal = [5, 6] := rfl
@[simp] theorem h110_live : h110.live = [] := rfl
@[simp] theorem h110_roots : h110.roots = [] := rfl
@[simp] theorem h110_rets : h110.rets = true := rfl
@[simp] theorem h110_glob : h110.glob = [] := rfl
@[simp] theorem h110_sw : h110.sw = [] := rfl
@[simp] theorem h110_msd : h110.msd = [] := rfl
@[simp] theorem h110_alt : h110.alt = [] := rfl
@[simp] theorem h110_fz : h110.fz = 0 := rfl
@[simp] theorem h110_gc : h110.gc = false := rfl
@[simp] theorem h110_wk : h110.wk = false := rfl
def h111 : Hint where
  vars := [0, 1, 4]
  conds := []
  steal := [5, 6]
  live := []
  roots := []
  rets := true
  glob := []
  sw := []
  msd := []
  alt := []
  fz := 0
  gc := false
  wk := false
@[simp] theorem h111_vars : h111.vars = [0, 1, 4] := rfl
@[simp] theorem h111_conds : h111.conds = [] := rfl
@[simp] theorem h111_steal : h111.steal = [5, 6] := rfl
@[simp] theorem h111_live : h111.live = [] := rfl
@[simp] theorem h111_roots : h111.roots = [] := rfl
@[simp] theorem h111_rets : h111.rets = true := rfl
@[simp] theorem h111_glob : h111.glob = [] := rfl
@[simp] theorem h111_sw : h111.sw = [] := rfl
@[simp] theorem h111_msd : h111.msd = [] := rfl
@[simp] theorem h111_alt : h111.alt = [] := rfl
@[simp] theorem h111_fz : h111.fz = 0 := rfl
@[simp] theorem h111_gc : h111.gc = false := rfl
@[simp] theorem h111_wk : h111.wk = false := rfl
def h112 : Hint where
  vars := [0, 1, 4, 5]
  conds := [10, 17]
  steal := [11, 18]
  live := [(2, [0, 1, 5])]
  roots := []
  rets := true
  glob := []
  sw := []
  msd := []
  alt := []
  fz := 0
  gc := false
  wk := false
@[simp] theorem h112_vars : h112.vars = [0, 1, 4, 5] := rfl
@[simp] theorem h112_conds : h112.conds = [10, 17] := rfl
@[simp] theorem h112_steal : h112.steal = [11, 18] := rfl
@[simp] theorem h112_live : h112.live = [(2, [0, 1, 5])] := rfl
@[simp] theorem h112_roots : h112.roots = [] := rfl
@[simp] theorem h112_rets : h112.rets = true := rfl
@[simp] theorem h112_glob : h112.glob = [] := rfl
@[simp] theorem h112_sw : h112.sw = [] := rfl
@[simp] theorem h112_msd : h112.msd = [] := rfl
@[simp] theorem h112_alt : h112.alt = [] := rfl
@[simp] theorem h112_fz : h112.fz = 0 := rfl
@[simp] theorem h112_gc : h112.gc = false := rfl
@[simp] theorem h112_wk : h112.wk = false := rfl
def h113 : Hint where
  vars := [0, 1, 4, 5, 6, 7, 8, 9, 10, 11]
  conds := [28, 47, 52, 85]
  steal := [12, 16, 29, 31, 41, 48, 49, 53, 55, 57, 63, 76, 86]
  live := [(6, [0, 1, 5, 6, 7, 8, 9, 10]), (12, [0, 1, 5, 6, 7, 9, 11])]
  roots := []
  rets := true
  glob := []
  sw := []
  msd := []
  alt := []
  fz := 0
  gc := false
  wk := false
@[simp] theorem h113_vars : h113.vars = [0, 1, 4, 5, 6, 7, 8, 9, 10, 11] := rfl
@[simp] theorem h113_conds : h113.conds = [28, 47, 52, 85] := rfl
@[simp] theorem h113_steal : h113.steal = [12, 16, 29, 31, 41, 48, 49, 53, 55, 57, 63, 76, 86] := rfl
@[simp] theorem h113_live : h113.live = [(6, [0, 1, 5, 6, 7, 8, 9, 10]), (12, [0, 1, 5, 6, 7, 9, 11])] := rfl
@[simp] theorem h113_roots : h113.roots = [] := rfl
@[simp] theorem h113_rets : h113.rets = true := rfl
@[simp] theorem h113_glob : h113.glob = [] := rfl
@[simp] theorem h113_sw : h113.sw = [] := rfl
@[simp] theorem h113_msd : h113.msd = [] := rfl
@[simp] theorem h113_alt : h113.alt = [] := rfl
@[simp] theorem h113_fz : h113.fz = 0 := rfl
@[simp] theorem h113_gc : h113.gc = false := rfl
@[simp] theorem h113_wk : h113.wk = false := rfl
def h114 : Hint where
  vars := [0, 1, 4, 5]
  conds := [9]
  steal := [10, 11, 12]
  live := []
  roots := []
  rets := true
  glob := []
  sw := []
  msd := []
  alt := []
  fz := 0
  gc := false
  wk := false
@[simp] theorem h114_vars : h114.vars = [0, 1, 4, 5] := rfl
@[simp] theorem h114_conds : h114.conds = [9] := rfl
@[simp] theorem h114_steal : h114.steal = [10, 11, 12] := rfl
@[simp] theorem h114_live : h114.live = [] := rfl
@[simp] theorem h114_roots : h114.roots = [] := rfl
@[simp] theorem h114_rets : h114.rets = true := rfl
@[simp] theorem h114_glob : h114.glob = [] := rfl
@[simp] theorem h114_sw : h114.sw = [] := rfl
@[simp] theorem h114_msd : h114.msd = [] := rfl
@[simp] theorem h114_alt : h114.alt = [] := rfl
@[simp] theorem h114_fz : h114.fz = 0 := rfl
@[simp] theorem h114_gc : h114.gc = false := rfl
@[simp] theorem h114_wk : h114.wk = false := rfl
def h115 : Hint where
  vars := [0, 2]
  conds := []
  steal := [5, 8, 9]
  live := []
  roots := []
  rets := true
  glob := []
  sw := []
  msd := []
  alt := []
  fz := 0
  gc := false
  wk := false
@[simp] theorem h115_vars : h115.vars = [0, 2] := rfl
@[simp] theorem h115_conds : h115.conds = [] := rfl
@[simp] theorem h115_steal : h115.steal = [5, 8, 9] := rfl
@[simp] theorem h115_live : h115.live = [] := rfl
@[simp] theorem h115_roots : h115.roots = [] := rfl
@[simp] theorem h115_rets : h115.rets = true := rfl
@[simp] theorem h115_glob : h115.glob = [] := rfl
@[simp] theorem h115_sw : h115.sw = [] := rfl
@[simp] theorem h115_msd : h115.msd = [] := rfl
@[simp] theorem h115_alt : h115.alt = [] := rfl
@[simp] theorem h115_fz : h115.fz = 0 := rfl
@[simp] theorem h115_gc : h115.gc = false := rfl
@[simp] theorem h115_wk : h115.wk = false := rfl
def h116 : Hint where
  vars := [0, 2, 3, 4, 5]
  conds := [12]
  steal := [6, 10, 13, 14, 15, 17]
  live := []
  roots := []
  rets := true
  glob := []
  sw := []
  msd := []
  alt := []
  fz := 0
  gc := false
  wk := false
@[simp] theorem h116_vars : h116.vars = [0, 2, 3, 4, 5] := rfl
@[simp] theorem h116_conds : h116.conds = [12] := rfl
@[simp] theorem h116_steal : h116.steal = [6, 10, 13, 14, 15, 17] := rfl
@[simp] theorem h116_live : h116.live = [] := rfl
@[simp] theorem h116_roots : h116.roots = [] := rfl
@[simp] theorem h116_rets : h116.rets = true := rfl
@[simp] theorem h116_glob : h116.glob = [] := rfl
@[simp] theorem h116_sw : h116.sw = [] := rfl
@[simp] theorem h116_msd : h116.msd = [] := rfl
@[simp] theorem h116_alt : h116.alt = [] := rfl
@[simp] theorem h116_fz : h116.fz = 0 := rfl
@[simp] theorem h116_gc : h116.gc = false := rfl
@[simp] theorem h116_wk : h116.wk = false := rfl
def h117 : Hint where
  vars := [0, 2]
  conds := []
  steal := [5, 6]
  live := []
  roots := []
  rets := true
  glob := []
  sw := []
  msd := []
  alt := []
  fz := 0
  gc := false
  wk := false
@[simp] theorem h117_vars : h117.vars = [0, 2] := rfl
@[simp] theorem h117_conds : h117.conds = [] := rfl
@[simp] theorem h117_steal : h117.steal = [5, 6] := rfl
@[simp] theorem h117_live : h117.live = [] := rfl
@[simp] theorem h117_roots : h117.roots = [] := rfl
@[simp] theorem h117_rets : h117.rets = true := rfl
@[simp] theorem h117_glob : h117.glob = [] := rfl
@[simp] theorem h117_sw : h117.sw = [] := rfl
@[simp] theorem h117_msd : h117.msd = [] := rfl
@[simp] theorem h117_alt : h117.alt = [] := rfl
@[simp] theorem h117_fz : h117.fz = 0 := rfl
@[simp] theorem h117_gc : h117.gc = false := rfl
@[simp] theorem h117_wk : h117.wk = false := rfl
def h118 : Hint where
  vars := [0, 1, 2, 3, 7]
  conds := []
  steal := [13, 15, 18, 21]
  live := []
  roots := []
  rets := true
  glob := []
  sw := []
  msd := []
  alt := []
  fz := 0
  gc := false
  wk := false
@[simp] theorem h118_vars : h118.vars = [0, 1, 2, 3, 7] := rfl
@[simp] theorem h118_conds : h118.conds = [] := rfl
@[simp] theorem h118_steal : h118.steal = [13, 15, 18, 21] := rfl
@[simp] theorem h118_live : h118.live = [] := rfl
@[simp] theorem h118_roots : h118.roots = [] := rfl
@[simp] theorem h118_rets : h118.rets = true := rfl
@[simp] theorem h118_glob : h118.glob = [] := rfl
@[simp] theorem h118_sw : h118.sw = [] := rfl
@[simp] theorem h118_msd : h118.msd = [] := rfl
@[simp] theorem h118_alt : h118.alt = [] := rfl
@[simp] theorem h118_fz : h118.fz = 0 := rfl
@[simp] theorem h118_gc : h118.gc = false := rfl
@[simp] theorem h118_wk : h118.wk = false := rfl
def h119 : Hint where
  vars := [0, 2]
  conds := []
  steal := [5, 8, 9]
  live := []
  roots := []
  rets := true
  glob := []
  sw := []
  msd := []
  alt := []
  fz := 0
  gc := false
  wk := false
@[simp] theorem h119_vars : h119.vars = [0, 2] := rfl
@[simp] theorem h119_conds : h119.conds = [] := rfl
@[simp] theorem h119_steal : h119.steal = [5, 8, 9] := rfl
@[simp] theorem h119_live : h119.live = [] := rfl
@[simp] theorem h119_roots : h119.roots = [] := rfl
@[simp] theorem h119_rets : h119.rets = true := rfl
@[simp] theorem h119_glob : h119.glob = [] := rfl
@[simp] theorem h119_sw : h119.sw = [] := rfl
@[simp] theorem h119_msd : h119.msd = [] := rfl
@[simp] theorem h119_alt : h119.alt = [] := rfl
@[simp] theorem h119_fz : h119.fz = 0 := rfl
@[simp] theorem h119_gc : h119.gc = false := rfl
@[simp] theorem h119_wk : h119.wk = false := rfl
def h120 : Hint where
  vars := [0, 1, 2, 6, 7]
  conds := []
  steal := [19, 21, 22, 23]
  live := []
  roots := []
  rets := true
  glob := []
  sw := []
  msd := []
  alt := []
  fz := 0
  gc := false
  wk := false
@[simp] theorem h120_vars : h120.vars = [0, 1, 2, 6, 7] := rfl
@[simp] theorem h120_conds : h120.conds = [] := rfl
@[simp] theorem h120_steal : h120.steal = [19, 21, 22, 23] := rfl
@[simp] theorem h120_live : h120.live = [] := rfl
@[simp] theorem h120_roots : h120.roots = [] := rfl
@[simp] theorem h120_rets : h120.rets = true := rfl
@[simp] theorem h120_glob : h120.glob = [] := rfl
@[simp] theorem h120_sw : h120.sw = [] := rfl
@[simp] theorem h120_msd : h120.msd = [] := rfl
@[simp] theorem h120_alt : h120.alt = [] := rfl
@[simp] theorem h120_fz : h120.fz = 0 := rfl
@[simp] theorem h120_gc : h120.gc = false := rfl
@[simp] theorem h120_wk : h120.wk = false := rfl
def h121 : Hint where
  vars := [0, 2]
  conds := []
  steal := [3]
  live := []
  roots := []
  rets := true
  glob := []
  sw := []
  msd := []
  alt := []
  fz := 0
  gc := false
  wk := false
@[simp] theorem h121_vars : h121.vars = [0, 2] := rfl
@[simp] theorem h121_conds : h121.conds = [] := rfl
@[simp] theorem h121_steal : h121.steal = [3] := rfl
@[simp] theorem h121_live : h121.live = [] := rfl
@[simp] theorem h121_roots : h121.roots = [] := rfl
@[simp] theorem h121_rets : h121.rets = true := rfl
@[simp] theorem h121_glob : h121.glob = [] := rfl
@[simp] theorem h121_sw : h121.sw = [] := rfl
@[simp] theorem h121_msd : h121.msd = [] := rfl
@[simp] theorem h121_alt : h121.alt = [] := rfl
@[simp] theorem h121_fz : h121.fz = 0 := rfl
@[simp] theorem h121_gc : h121.gc = false := rfl
@[simp] theorem h121_wk : h121.wk = false := rfl
def h122 : Hint where
  vars := [0, 1, 4, 5]
  conds := [9]
  steal := [10, 12, 14]
  live := []
  roots := []
  rets := true
  glob := []
  sw := []
  msd := []
  alt := []
  fz := 0
  gc := false
  wk := false
@[simp] theorem h122_vars : h122.vars = [0, 1, 4, 5] := rfl
@[simp] theorem h122_conds : h122.conds = [9] := rfl
@[simp] theorem h122_steal : h122.steal = [10, 12, 14] := rfl
@[simp] theorem h122_live : h122.live = [] := rfl
@[simp] theorem h122_roots : h122.roots = [] := rfl
@[simp] theorem h122_rets : h122.rets = true := rfl
@[simp] theorem h122_glob : h122.glob = [] := rfl
@[simp] theorem h122_sw : h122.sw = [] := rfl
@[simp] theorem h122_msd : h122.msd = [] := rfl
@[simp] theorem h122_alt : h122.alt = [] := rfl
@[simp] theorem h122_fz : h122.fz = 0 := rfl
@[simp] theorem h122_gc : h122.gc = false := rfl
@[simp] theorem h122_wk : h122.wk = false := rfl
def h123 : Hint where
  vars := [0, 1]
  conds := []
  steal := [5, 7]
  live := []
  roots := []
  rets := true
  glob := []
  sw := []
  msd := []
  alt := []
  fz := 0
  gc := false
  wk := false
@[simp] theorem h123_vars : h123.vars = [0, 1] := rfl
@[simp] theorem h123_conds : h123.conds = [] := rfl
@[simp] theorem h123_steal : h123.steal = [5, 7] := rfl
@[simp] theorem h123_live : h123.live = [] := rfl
@[simp] theorem h123_roots : h123.roots = [] := rfl
@[simp] theorem h123_rets : h123.rets = true := rfl
@[simp] theorem h123_glob : h123.glob = [] := rfl
@[simp] theorem h123_sw : h123.sw = [] := rfl
@[simp] theorem h123_msd : h123.msd = [] := rfl
@[simp] theorem h123_alt : h123.alt = [] := rfl
@[simp] theorem h123_fz : h123.fz = 0 := rfl
@[simp] theorem h123_gc : h123.gc = false := rfl
@[simp] theorem h123_wk : h123.wk = false := rfl
def h124 : Hint where
  vars := [0, 1]
  conds := []
  steal := [5, 7]
  live := []
  roots := []
  rets := true
  glob := []
  sw := []
  msd := []
  alt := []
  fz := 0
  gc := false
  wk := false
@[simp] theorem h124_vars : h124.vars = [0, 1] := rfl
@[simp] theorem h124_conds : h124.conds = [] := rfl
@[simp] theorem h124_steal : h124.steal = [5, 7] := rfl
@[simp] theorem h124_live : h124.live = [] := rfl
@[simp] theorem h124_roots : h124.roots = [] := rfl
@[simp] theorem h124_rets : h124.rets = true := rfl
@[simp] theorem h124_glob : h124.glob = [] := rfl
@[simp] theorem h124_sw : h124.sw = [] := rfl
@[simp] theorem h124_msd : h124.msd = [] := rfl
@[simp] theorem h124_alt : h124.alt = [] := rfl
@[simp] theorem h124_fz : h124.fz = 0 := rfl
@[simp] theorem h124_gc : h124.gc = false := rfl
@[simp] theorem h124_wk : h124.wk = false := rfl
def h125 : Hint where
  vars := [0, 1, 4]
  conds := []
  steal := [10, 11, 15]
  live := []
  roots := []
  rets := true
  glob := []
  sw := []
  msd := []
  alt := []
  fz := 0
  gc := false
  wk := false
@[simp] theorem h125_vars : h125.vars = [0, 1, 4] := rfl
@[simp] theorem h125_conds : h125.conds = [] := rfl
@[simp] theorem h125_steal : h125.steal = [10, 11, 15] := rfl
@[simp] theorem h125_live : h125.live = [] := rfl
@[simp] theorem h125_roots : h125.roots = [] := rfl
@[simp] theorem h125_rets : h125.rets = true := rfl
@[simp] theorem h125_glob : h125.glob = [] := rfl
@[simp] theorem h125_sw : h125.sw = [] := rfl
@[simp] theorem h125_msd : h125.msd = [] := rfl
@[simp] theorem h125_alt : h125.alt = [] := rfl
@[simp] theorem h125_fz : h125.fz = 0 := rfl
@[simp] theorem h125_gc : h125.gc = false := rfl
@[simp] theorem h125_wk : h125.wk = false := rfl
def h126 : Hint where
  vars := [0, 1, 2, 3, 8, 9, 10, 11]
  conds := [13, 15, 20, 36, 41]
  steal := [16, 17, 25, 32, 50, 51, 56, 60, 62, 63]
  live := [(11, [0, 1, 2, 3, 9, 10])]
  roots := []
  rets := true
  glob := [31]
  sw := []
  msd := [31]
  alt := []
  fz := 2
  gc := true
  wk := false
@[simp] theorem h126_vars : h126.vars = [0, 1, 2, 3, 8, 9, 10, 11] := rfl
@[simp] theorem h126_conds : h126.conds = [13, 15, 20, 36, 41] := rfl
@[simp] theorem h126_steal : h126.steal = [16, 17, 25, 32, 50, 51, 56, 60, 62, 63] := rfl
@[simp] theorem h126_live : h126.live = [(11, [0, 1, 2, 3, 9, 10])] := rfl
@[simp] theorem h126_roots : h126.roots = [] := rfl
@[simp] theorem h126_rets : h126.rets = true := rfl
@[simp] theorem h126_glob : h126.glob = [31] := rfl
@[simp] theorem h126_sw : h126.sw = [] := rfl
@[simp] theorem h126_msd : h126.msd = [31] := rfl
@[simp] theorem h126_alt : h126.alt = [] := rfl
@[simp] theorem h126_fz : h126.fz = 2 := rfl
@[simp] theorem h126_gc : h126.gc = true := rfl
@[simp] theorem h126_wk : h126.wk = false := rfl
def h129 : Hint where
  vars := [0, 1, 4, 5, 6, 7, 8, 9, 10, 11, 12, 13]
  conds := [16, 24, 31, 36, 59, 64, 73, 93, 107, 114, 132, 139]
  steal := [19, 27, 28, 40, 45, 46, 74, 75, 84, 94, 95, 97, 102, 108, 111, 115, 116, 121, 128, 133, 136, 140, 141]
  live := [(15, [0, 1, 5, 6, 7, 8, 9, 10])]
  roots := []
  rets := true
  glob := []
  sw := []
  msd := []
  alt := []
  fz := 0
  gc := false
  wk := false
@[simp] theorem h129_vars : h129.vars = [0, 1, 4, 5, 6, 7, 8, 9, 10, 11, 12, 13] := rfl
@[simp] theorem h129_conds : h129.conds = [16, 24, 31, 36, 59, 64, 73, 93, 107, 114, 132, 139] := rfl
@[simp] theorem h129_steal : h129.steal = [19, 27, 28, 40, 45, 46, 74, 75, 84, 94, 95, 97, 102, 108, 111, 115, 116, 121, 128, 133, 136, 140, 141] := rfl
@[simp] theorem h129_live : h129.live = [(15, [0, 1, 5, 6, 7, 8, 9, 10])] := rfl
@[simp] theorem h129_roots : h129.roots = [] := rfl
@[simp] theorem h129_rets : h129.rets = true := rfl
@[simp] theorem h129_glob : h129.glob = [] := rfl
@[simp] theorem h129_sw : h129.sw = [] := rfl
@[simp] theorem h129_msd : h129.msd = [] := rfl
@[simp] theorem h129_alt : h129.alt = [] := rfl
@[simp] theorem h129_fz : h129.fz = 0 := rfl
@[simp] theorem h129_gc : h129.gc = false := rfl
@[simp] theorem h129_wk : h129.wk = false := rfl
def h130 : Hint where
  vars := [0, 1, 4]
  conds := []
  steal := [5, 6]
  live := []
  roots := []
  rets := true
  glob := []
  sw := []
  msd := []
  alt := []
  fz := 0
  gc := false
  wk := false
@[simp] theorem h130_vars : h130.vars = [0, 1, 4] := rfl
@[simp] theorem h130_conds : h130.conds = [] := rfl
@[simp] theorem h130_steal : h130.steal = [5, 6] := rfl
@[simp] theorem h130_live : h130.live = [] := rfl
@[simp] theorem h130_roots : h130.roots = [] := rfl
@[simp] theorem h130_rets : h130.rets = true := rfl
@[simp] theorem h130_glob : h130.glob = [] := rfl
@[simp] theorem h130_sw : h130.sw = [] := rfl
@[simp] theorem h130_msd : h130.msd = [] := rfl
@[simp] theorem h130_alt : h130.alt = [] := rfl
@[simp] theorem h130_fz : h130.fz = 0 := rfl
@[simp] theorem h130_gc : h130.gc = false := rfl
@[simp] theorem h130_wk : h130.wk = false := rfl
def h131 : Hint where
  vars := [0, 2, 3, 4, 5, 6, 7, 8]
  conds := [13, 26, 31]
  steal := [14, 16, 23, 27, 32, 36, 38, 39]
  live := [(3, [0, 4, 5]), (8, [4, 6, 7, 8])]
  roots := []
  rets := true
  glob := []
  sw := []
  msd := []
  alt := []
  fz := 0
  gc := false
  wk := false
@[simp] theorem h131_vars : h131.vars = [0, 2, 3, 4, 5, 6, 7, 8] := rfl
@[simp] theorem h131_conds : h131.conds = [13, 26, 31] := rfl
@[simp] theorem h131_steal : h131.steal = [14, 16, 23, 27, 32, 36, 38, 39] := rfl
@[simp] theorem h131_live : h131.live = [(3, [0, 4, 5]), (8, [4, 6, 7, 8])] := rfl
@[simp] theorem h131_roots : h131.roots = [] := rfl
@[simp] theorem h131_rets : h131.rets = true := rfl
@[simp] theorem h131_glob : h131.glob = [] := rfl
@[simp] theorem h131_sw : h131.sw = [] := rfl
@[simp] theorem h131_msd : h131.msd = [] := rfl
@[simp] theorem h131_alt : h131.alt = [] := rfl
@[simp] theorem h131_fz : h131.fz = 0 := rfl
@[simp] theorem h131_gc : h131.gc = false := rfl
@[simp] theorem h131_wk : h131.wk = false := rfl
def h132 : Hint where
  vars := [0, 2, 3, 4, 5, 6, 8, 9, 10, 47, 48, 49]
  conds := [30, 39, 44, 50, 56, 66]
  steal := [16, 21, 25, 26, 35, 40, 46, 53, 58, 60, 64, 67, 69, 70, 71, 74, 75, 76]
  live := [(10, [5, 6, 47, 48, 49])]
  roots := []
  rets := true
  glob := []
  sw := []
  msd := [47]
  alt := []
  fz := 0
  gc := false
  wk := false
@[simp] theorem h132_vars : h132.vars = [0, 2, 3, 4, 5, 6, 8, 9, 10, 47, 48, 49] := rfl
@[simp] theorem h132_conds : h132.conds = [30, 39, 44, 50, 56, 66] := rfl
@[simp] theorem h132_steal : h132.steal = [16, 21, 25, 26, 35, 40, 46, 53, 58, 60, 64, 67, 69, 70, 71, 74, 75, 76] := rfl
@[simp] theorem h132_live : h132.live = [(10, [5, 6, 47, 48, 49])] := rfl
@[simp] theorem h132_roots : h132.roots = [] := rfl
@[simp] theorem h132_rets : h132.rets = true := rfl
@[simp] theorem h132_glob : h132.glob = [] := rfl
@[simp] theorem h132_sw : h132.sw = [] := rfl
@[simp] theorem h132_msd : h132.msd = [47] := rfl
@[simp] theorem h132_alt : h132.alt = [] := rfl
@[simp] theorem h132_fz : h132.fz = 0 := rfl
@[simp] theorem h132_gc : h132.gc = false := rfl
@[simp] theorem h132_wk : h132.wk = false := rfl
def h133 : Hint where
  vars := [0, 1, 2, 3, 4, 10, 11]
  conds := [12, 19, 26, 34]
  steal := [15, 16, 22, 23, 29, 30, 31, 37, 38, 39, 42]
  live := []
  roots := []
  rets := true
  glob := []
  sw := []
  msd := []
  alt := []
  fz := 0
  gc := true
  wk := true
@[simp] theorem h133_vars : h133.vars = [0, 1, 2, 3, 4, 10, 11] := rfl
@[simp] theorem h133_conds : h133.conds = [12, 19, 26, 34] := rfl
@[simp] theorem h133_steal : h133.steal = [15, 16, 22, 23, 29, 30, 31, 37, 38, 39, 42] := rfl
@[simp] theorem h133_live : h133.live = [] := rfl
@[simp] theorem h133_roots : h133.roots = [] := rfl
@[simp] theorem h133_rets : h133.rets = true := rfl
@[simp] theorem h133_glob : h133.glob = [] := rfl
@[simp] theorem h133_sw : h133.sw = [] := rfl
@[simp] theorem h133_msd : h133.msd = [] := rfl
@[simp] theorem h133_alt : h133.alt = [] := rfl
@[simp] theorem h133_fz : h133.fz = 0 := rfl
@[simp] theorem h133_gc : h133.gc = true := rfl
@[simp] theorem h133_wk : h133.wk = true := rfl
def h134 : Hint where
  vars := [0, 1, 4, 5, 6, 7, 9]
  conds := [11, 17, 23, 34]
  steal := [14, 18, 24, 31, 33, 36, 40, 44, 47, 48, 52, 53]
  live := []
  roots := []
  rets := true
  glob := [5]
  sw := []
  msd := []
  alt := []
  fz := 0
  gc := true
  wk := false
@[simp] theorem h134_vars : h134.vars = [0, 1, 4, 5, 6, 7, 9] := rfl
@[simp] theorem h134_conds : h134.conds = [11, 17, 23, 34] := rfl
@[simp] theorem h134_steal : h134.steal = [14, 18, 24, 31, 33, 36, 40, 44, 47, 48, 52, 53] := rfl
@[simp] theorem h134_live : h134.live = [] := rfl
@[simp] theorem h134_roots : h134.roots = [] := rfl
@[simp] theorem h134_rets : h134.rets = true := rfl
@[simp] theorem h134_glob : h134.glob = [5] := rfl
@[simp] theorem h134_sw : h134.sw = [] := rfl
@[simp] theorem h134_msd : h134.msd = [] := rfl
@[simp] theorem h134_alt : h134.alt = [] := rfl
@[simp] theorem h134_fz : h134.fz = 0 := rfl
@[simp] theorem h134_gc : h134.gc = true := rfl
@[simp] theorem h134_wk : h134.wk = false := rfl
def h135 : Hint where
  vars := [0, 1, 4]
  conds := []
  steal := [10, 12, 18]
  live := []
  roots := []
  rets := true
  glob := []
  sw := []
  msd := []
  alt := []
  fz := 0
  gc := false
  wk := false
@[simp] theorem h135_vars : h135.vars = [0, 1, 4] := rfl
@[simp] theorem h135_conds : h135.conds = [] := rfl
@[simp] theorem h135_steal : h135.steal = [10, 12, 18] := rfl
@[simp] theorem h135_live : h135.live = [] := rfl
@[simp] theorem h135_roots : h135.roots = [] := rfl
@[simp] theorem h135_rets : h135.rets = true := rfl
@[simp] theorem h135_glob : h135.glob = [] := rfl
@[simp] theorem h135_sw : h135.sw = [] := rfl
@[simp] theorem h135_msd : h135.msd = [] := rfl
@[simp] theorem h135_alt : h135.alt = [] := rfl
@[simp] theorem h135_fz : h135.fz = 0 := rfl
@[simp] theorem h135_gc : h135.gc = false := rfl
@[simp] theorem h135_wk : h135.wk = false := rfl
def h136 : Hint where
  vars := [0, 1, 2, 6, 7, 8, 9]
  conds := [13, 30, 35, 54]
  steal := [15, 20, 24, 38, 45, 56, 57, 61]
  live := [(2, [0, 1, 2, 6, 7, 8]), (7, [0, 1, 2, 6]), (9, [0, 1, 2, 6, 7, 8])]
  roots := []
  rets := true
  glob := []
  sw := []
  msd := []
  alt := []
  fz := 0
  gc := false
  wk := false
@[simp] theorem h136_vars : h136.vars = [0, 1, 2, 6, 7, 8, 9] := rfl
@[simp] theorem h136_conds : h136.conds = [13, 30, 35, 54] := rfl
@[simp] theorem h136_steal : h136.steal = [15, 20, 24, 38, 45, 56, 57, 61] := rfl
@[simp] theorem h136_live : h136.live = [(2, [0, 1, 2, 6, 7, 8]), (7, [0, 1, 2, 6]), (9, [0, 1, 2, 6, 7, 8])] := rfl
@[simp] theorem h136_roots : h136.roots = [] := rfl
@[simp] theorem h136_rets : h136.rets = true := rfl
@[simp] theorem h136_glob : h136.glob = [] := rfl
@[simp] theorem h136_sw : h136.sw = [] := rfl
@[simp] theorem h136_msd : h136.msd = [] := rfl
@[simp] theorem h136_alt : h136.alt = [] := rfl
@[simp] theorem h136_fz : h136.fz = 0 := rfl
@[simp] theorem h136_gc : h136.gc = false := rfl
@[simp] theorem h136_wk : h136.wk = false := rfl
def h137 : Hint where
  vars := [0, 1, 2, 6, 7, 8, 9]
  conds := [13, 30, 35, 54]
  steal := [15, 20, 24, 38, 45, 56, 57, 61]
  live := [(2, [0, 1, 2, 6, 7, 8]), (7, [0, 1, 2, 6]), (9, [0, 1, 2, 6, 7, 8])]
  roots := []
  rets := true
  glob := []
  sw := []
  msd := []
  alt := []
  fz := 0
  gc := false
  wk := false
@[simp] theorem h137_vars : h137.vars = [0, 1, 2, 6, 7, 8, 9] := rfl
@[simp] theorem h137_conds : h137.conds = [13, 30, 35, 54] := rfl
@[simp] theorem h137_steal : h137.steal = [15, 20, 24, 38, 45, 56, 57, 61] := rfl
@[simp] theorem h137_live : h137.live = [(2, [0, 1, 2, 6, 7, 8]), (7, [0, 1, 2, 6]), (9, [0, 1, 2, 6, 7, 8])] := rfl
@[simp] theorem h137_roots : h137.roots = [] := rfl
@[simp] theorem h137_rets : h137.rets = true := rfl
@[simp] theorem h137_glob : h137.glob = [] := rfl
@[simp] theorem h137_sw : h137.sw = [] := rfl
@[simp] theorem h137_msd : h137.msd = [] := rfl
@[simp] theorem h137_alt : h137.alt = [] := rfl
@[simp] theorem h137_fz : h137.fz = 0 := rfl
@[simp] theorem h137_gc : h137.gc = false := rfl
@[simp] theorem h137_wk : h137.wk = false := rfl
def h138 : Hint where
  vars := [0, 1, 4, 5, 6, 7, 9]
  conds := [18, 25, 43]
  steal := [14, 19, 26, 28, 32, 39, 40, 45, 47, 49]
  live := [(6, [0, 1, 6, 7])]
  roots := []
  rets := true
  glob := [21]
  sw := []
  msd := [21]
  alt := []
  fz := 2
  gc := true
  wk := false
@[simp] theorem h138_vars : h138.vars = [0, 1, 4, 5, 6, 7, 9] := rfl
@[simp] theorem h138_conds : h138.conds = [18, 25, 43] := rfl
@[simp] theorem h138_steal : h138.steal = [14, 19, 26, 28, 32, 39, 40, 45, 47, 49] := rfl
@[simp] theorem h138_live : h138.live = [(6, [0, 1, 6, 7])] := rfl
@[simp] theorem h138_roots : h138.roots = [] := rfl
@[simp] theorem h138_rets : h138.rets = true := rfl
@[simp] theorem h138_glob : h138.glob = [21] := rfl
@[simp] theorem h138_sw : h138.sw = [] := rfl
@[simp] theorem h138_msd : h138.msd = [21] := rfl
@[simp] theorem h138_alt : h138.alt = [] := rfl
@[simp] theorem h138_fz : h138.fz = 2 := rfl
@[simp] theorem h138_gc : h138.gc = true := rfl
@[simp] theorem h138_wk : h138.wk = false := rfl
def h139 : Hint where
  vars := [0, 1, 4, 5, 6]
  conds := [9, 15, 24]
  steal := [10, 16, 17, 25, 26, 28, 29]
  live := [(6, [0, 1, 5])]
  roots := []
  rets := true
  glob := []
  sw := []
  msd := []
  alt := []
  fz := 0
  gc := false
  wk := false
@[simp] theorem h139_vars : h139.vars = [0, 1, 4, 5, 6] := rfl
@[simp] theorem h139_conds : h139.conds = [9, 15, 24] := rfl
@[simp] theorem h139_steal : h139.steal = [10, 16, 17, 25, 26, 28, 29] := rfl
@[simp] theorem h139_live : h139.live = [(6, [0, 1, 5])] := rfl
@[simp] theorem h139_roots : h139.roots = [] := rfl
@[simp] theorem h139_rets : h139.rets = true := rfl
@[simp] theorem h139_glob : h139.glob = [] := rfl
@[simp] theorem h139_sw : h139.sw = [] := rfl
@[simp] theorem h139_msd : h139.msd = [] := rfl
@[simp] theorem h139_alt : h139.alt = [] := rfl
@[simp] theorem h139_fz : h139.fz = 0 := rfl
@[simp] theorem h139_gc : h139.gc = false := rfl
@[simp] theorem h139_wk : h139.wk = false := rfl
def h141 : Hint where
  vars := [0, 2]
  conds := []
  steal := [3]
  live := []
  roots := []
  rets := true
  glob := []
  sw := []
  msd := []
  alt := []
  fz := 0
  gc := false
  wk := false
@[simp] theorem h141_vars : h141.vars = [0, 2] := rfl
@[simp] theorem h141_conds : h141.conds = [] := rfl
@[simp] theorem h141_steal : h141.steal = [3] := rfl
@[simp] theorem h141_live : h141.live = [] := rfl
@[simp] theorem h141_roots : h141.roots = [] := rfl
@[simp] theorem h141_rets : h141.rets = true := rfl
@[simp] theorem h141_glob : h141.glob = [] := rfl
@[simp] theorem h141_sw : h141.sw = [] := rfl
@[simp] theorem h141_msd : h141.msd = [] := rfl
@[simp] theorem h141_alt : h141.alt = [] := rfl
@[simp] theorem h141_fz : h141.fz = 0 := rfl
@[simp] theorem h141_gc : h141.gc = false := rfl
@[simp] theorem h141_wk : h141.wk = false := rfl
def h142 : Hint where
  vars := [0, 1, 4, 5, 6, 7, 8, 9, 10]
  conds := [20, 39, 44, 77]
  steal := [11, 15, 21, 23, 33, 45, 47, 53, 63, 68, 78, 79]
  live := [(5, [0, 1, 5, 6, 7, 8, 9]), (11, [0, 1, 5, 6, 7, 8, 10])]
  roots := []
  rets := true
  glob := []
  sw := []
  msd := []
  alt := []
  fz := 0
  gc := false
  wk := false
@[simp] theorem h142_vars : h142.vars = [0, 1, 4, 5, 6, 7, 8, 9, 10] := rfl
@[simp] theorem h142_conds : h142.conds = [20, 39, 44, 77] := rfl
@[simp] theorem h142_steal : h142.steal = [11, 15, 21, 23, 33, 45, 47, 53, 63, 68, 78, 79] := rfl
@[simp] theorem h142_live : h142.live = [(5, [0, 1, 5, 6, 7, 8, 9]), (11, [0, 1, 5, 6, 7, 8, 10])] := rfl
@[simp] theorem h142_roots : h142.roots = [] := rfl
@[simp] theorem h142_rets : h142.rets = true := rfl
@[simp] theorem h142_glob : h142.glob = [] := rfl
@[simp] theorem h142_sw : h142.sw = [] := rfl
@[simp] theorem h142_msd : h142.msd = [] := rfl
@[simp] theorem h142_alt : h142.alt = [] := rfl
@[simp] theorem h142_fz : h142.fz = 0 := rfl
@[simp] theorem h142_gc : h142.gc = false := rfl
@[simp] theorem h142_wk : h142.wk = false := rfl
def h144 : Hint where
  vars := [0, 1, 2, 6, 7, 8, 9, 10, 11, 16]
  conds := [13, 17, 21, 38, 41, 52, 62, 69]
  steal := [19, 23, 25, 26, 27, 31, 34, 39, 42, 48, 53, 58, 63, 67, 69, 70, 72]
  live := []
  roots := []
  rets := true
  glob := []
  sw := []
  msd := []
  alt := []
  fz := 0
  gc := false
  wk := false
@[simp] theorem h144_vars : h144.vars = [0, 1, 2, 6, 7, 8, 9, 10, 11, 16] := rfl
@[simp] theorem h144_conds : h144.conds = [13, 17, 21, 38, 41, 52, 62, 69] := rfl
@[simp] theorem h144_steal : h144.steal = [19, 23, 25, 26, 27, 31, 34, 39, 42, 48, 53, 58, 63, 67, 69, 70, 72] := rfl
@[simp] theorem h144_live : h144.live = [] := rfl
@[simp] theorem h144_roots : h144.roots = [] := rfl
@[simp] theorem h144_rets : h144.rets = true := rfl
@[simp] theorem h144_glob : h144.glob = [] := rfl
@[simp] theorem h144_sw : h144.sw = [] := rfl
@[simp] theorem h144_msd : h144.msd = [] := rfl
@[simp] theorem h144_alt : h144.alt = [] := rfl
@[simp] theorem h144_fz : h144.fz = 0 := rfl
@[simp] theorem h144_gc : h144.gc = false := rfl
@[simp] theorem h144_wk : h144.wk = false := rfl
def h145 : Hint where
  vars := [0, 1, 4]
  conds := []
  steal := []
  live := []
  roots := []
  rets := true
  glob := [10]
  sw := []
  msd := []
  alt := []
  fz := 0
  gc := false
  wk := false
@[simp] theorem h145_vars : h145.vars = [0, 1, 4] := rfl
@[simp] theorem h145_conds : h145.conds = [] := rfl
@[simp] theorem h145_steal : h145.steal = [] := rfl
@[simp] theorem h145_live : h145.live = [] := rfl
@[simp] theorem h145_roots : h145.roots = [] := rfl
@[simp] theorem h145_rets : h145.rets = true := rfl
@[simp] theorem h145_glob : h145.glob = [10] := rfl
@[simp] theorem h145_sw : h145.sw = [] := rfl
@[simp] theorem h145_msd : h145.msd = [] := rfl
@[simp] theorem h145_alt : h145.alt = [] := rfl
@[simp] theorem h145_fz : h145.fz = 0 := rfl
@[simp] theorem h145_gc : h145.gc = false := rfl
@[simp] theorem h145_wk : h145.wk = false := rfl
def h146 : Hint where
  vars := [0, 1, 4]
  conds := []
  steal := []
  live := []
  roots := []
  rets := true
  glob := [10]
  sw := []
  msd := []
  alt := []
  fz := 0
  gc := false
  wk := false
@[simp] theorem h146_vars : h146.vars = [0, 1, 4] := rfl
@[simp] theorem h146_conds : h146.conds = [] := rfl
@[simp] theorem h146_steal : h146.steal = [] := rfl
@[simp] theorem h146_live : h146.live = [] := rfl
@[simp] theorem h146_roots : h146.roots = [] := rfl
@[simp] theorem h146_rets : h146.rets = true := rfl
@[simp] theorem h146_glob : h146.glob = [10] := rfl
@[simp] theorem h146_sw : h146.sw = [] := rfl
@[simp] theorem h146_msd : h146.msd = [] := rfl
@[simp] theorem h146_alt : h146.alt = [] := rfl
@[simp] theorem h146_fz : h146.fz = 0 := rfl
@[simp] theorem h146_gc : h146.gc = false := rfl
@[simp] theorem h146_wk : h146.wk = false := rfl
def h147 : Hint where
  vars := [0, 1, 2, 6]
  conds := []
  steal := [7, 8, 10]
  live := []
  roots := []
  rets := true
  glob := [15]
  sw := []
  msd := []
  alt := []
  fz := 0
  gc := false
  wk := false
@[simp] theorem h147_vars : h147.vars = [0, 1, 2, 6] := rfl
@[simp] theorem h147_conds : h147.conds = [] := rfl
@[simp] theorem h147_steal : h147.steal = [7, 8, 10] := rfl
@[simp] theorem h147_live : h147.live = [] := rfl
@[simp] theorem h147_roots : h147.roots = [] := rfl
@[simp] theorem h147_rets : h147.rets = true := rfl
@[simp] theorem h147_glob : h147.glob = [15] := rfl
@[simp] theorem h147_sw : h147.sw = [] := rfl
@[simp] theorem h147_msd : h147.msd = [] := rfl
@[simp] theorem h147_alt : h147.alt = [] := rfl
@[simp] theorem h147_fz : h147.fz = 0 := rfl
@[simp] theorem h147_gc : h147.gc = false := rfl
@[simp] theorem h147_wk : h147.wk = false := rfl
def h148 : Hint where
  vars := [0, 1, 2, 6]
  conds := []
  steal := [7, 8, 10]
  live := []
  roots := []
  rets := true
  glob := [15]
  sw := []
  msd := []
  alt := []
  fz := 0
  gc := false
  wk := false
@[simp] theorem h148_vars : h148.vars = [0, 1, 2, 6] := rfl
@[simp] theorem h148_conds : h148.conds = [] := rfl
@[simp] theorem h148_steal : h148.steal = [7, 8, 10] := rfl
@[simp] theorem h148_live : h148.live = [] := rfl
@[simp] theorem h148_roots : h148.roots = [] := rfl
@[simp] theorem h148_rets : h148.rets = true := rfl
@[simp] theorem h148_glob : h148.glob = [15] := rfl
@[simp] theorem h148_sw : h148.sw = [] := rfl
@[simp] theorem h148_msd : h148.msd = [] := rfl
@[simp] theorem h148_alt : h148.alt = [] := rfl
@[simp] theorem h148_fz : h148.fz = 0 := rfl
@[simp] theorem h148_gc : h148.gc = false := rfl
@[simp] theorem h148_wk : h148.wk = false := rfl
def h149 : Hint where
  vars := [0, 2]
  conds := [4]
  steal := [6, 11]
  live := []
  roots := []
  rets := true
  glob := []
  sw := []
  msd := []
  alt := []
  fz := 0
  gc := false
  wk := false
@[simp] theorem h149_vars : h149.vars = [0, 2] := rfl
@[simp] theorem h149_conds : h149.conds = [4] := rfl
@[simp] theorem h149_steal : h149.steal = [6, 11] := rfl
@[simp] theorem h149_live : h149.live = [] := rfl
@[simp] theorem h149_roots : h149.roots = [] := rfl
@[simp] theorem h149_rets : h149.rets = true := rfl
@[simp] theorem h149_glob : h149.glob = [] := rfl
@[simp] theorem h149_sw : h149.sw = [] := rfl
@[simp] theorem h149_msd : h149.msd = [] := rfl
@[simp] theorem h149_alt : h149.alt = [] := rfl
@[simp] theorem h149_fz : h149.fz = 0 := rfl
@[simp] theorem h149_gc : h149.gc = false := rfl
@[simp] theorem h149_wk : h149.wk = false := rfl
def h150 : Hint where
  vars := [0, 2, 3]
  conds := []
  steal := [8, 9]
  live := []
  roots := []
  rets := true
  glob := []
  sw := []
  msd := []
  alt := []
  fz := 0
  gc := false
  wk := false
@[simp] theorem h150_vars : h150.vars = [0, 2, 3] := rfl
@[simp] theorem h150_conds : h150.conds = [] := rfl
@[simp] theorem h150_steal : h150.steal = [8, 9] := rfl
@[simp] theorem h150_live : h150.live = [] := rfl
@[simp] theorem h150_roots : h150.roots = [] := rfl
@[simp] theorem h150_rets : h150.rets = true := rfl
@[simp] theorem h150_glob : h150.glob = [] := rfl
@[simp] theorem h150_sw : h150.sw = [] := rfl
@[simp] theorem h150_msd : h150.msd = [] := rfl
@[simp] theorem h150_alt : h150.alt = [] := rfl
@[simp] theorem h150_fz : h150.fz = 0 := rfl
@[simp] theorem h150_gc : h150.gc = false := rfl
@[simp] theorem h150_wk : h150.wk = false := rfl
def h151 : Hint where
  vars := [0, 1, 4, 5, 6, 7, 8, 9, 10, 11, 12, 13, 14, 15, 16]
  conds := [20, 99, 139, 161]
  steal := [24, 28, 33, 39, 94, 96, 102, 107, 136, 143, 158, 160, 162, 163]
  live := [(1, [0, 1, 4])]
  roots := []
  rets := true
  glob := []
  sw := [53, 54, 66, 67, 79, 80, 92, 93, 121, 122, 134, 135, 156, 157]
  msd := []
  alt := []
  fz := 0
  gc := false
  wk := false
@[simp] theorem h151_vars : h151.vars = [0, 1, 4, 5, 6, 7, 8, 9, 10, 11, 12, 13, 14, 15, 16] := rfl
@[simp] theorem h151_conds : h151.conds = [20, 99, 139, 161] := rfl
@[simp] theorem h151_steal : h151.steal = [24, 28, 33, 39, 94, 96, 102, 107, 136, 143, 158, 160, 162, 163] := rfl
@[simp] theorem h151_live : h151.live = [(1, [0, 1, 4])] := rfl
@[simp] theorem h151_roots : h151.roots = [] := rfl
@[simp] theorem h151_rets : h151.rets = true := rfl
@[simp] theorem h151_glob : h151.glob = [] := rfl
@[simp] theorem h151_sw : h151.sw = [53, 54, 66, 67, 79, 80, 92, 93, 121, 122, 134, 135, 156, 157] := rfl
@[simp] theorem h151_msd : h151.msd = [] := rfl
@[simp] theorem h151_alt : h151.alt = [] := rfl
@[simp] theorem h151_fz : h151.fz = 0 := rfl
@[simp] theorem h151_gc : h151.gc = false := rfl
@[simp] theorem h151_wk : h151.wk = false := rfl
def h152 : Hint where
  vars := [0, 1, 2, 3, 4, 10, 11, 12, 13, 14, 15, 16, 17, 18]
  conds := [28, 30, 34, 46, 68, 89, 94]
  steal := [21, 25, 31, 41, 47, 55, 58, 61, 64, 69, 75, 82, 83, 86, 89, 90, 94, 95, 96, 99]
  live := [(11, [0, 1, 3, 4, 10, 11, 12, 13, 14, 15, 16]), (18, [0, 1, 3, 4, 10, 11, 12, 13, 17])]
  roots := []
  rets := true
  glob := [12]
  sw := []
  msd := []
  alt := []
  fz := 0
  gc := true
  wk := false
@[simp] theorem h152_vars : h152.vars = [0, 1, 2, 3, 4, 10, 11, 12, 13, 14, 15, 16, 17, 18] := rfl
@[simp] theorem h152_conds : h152.conds = [28, 30, 34, 46, 68, 89, 94] := rfl
@[simp] theorem h152_steal : h152.steal = [21, 25, 31, 41, 47, 55, 58, 61, 64, 69, 75, 82, 83, 86, 89, 90, 94, 95, 96, 99] := rfl
@[simp] theorem h152_live : h152.live = [(11, [0, 1, 3, 4, 10, 11, 12, 13, 14, 15, 16]), (18, [0, 1, 3, 4, 10, 11, 12, 13, 17])] := rfl
@[simp] theorem h152_roots : h152.roots = [] := rfl
@[simp] theorem h152_rets : h152.rets = true := rfl
@[simp] theorem h152_glob : h152.glob = [12] := rfl
@[simp] theorem h152_sw : h152.sw = [] := rfl
@[simp] theorem h152_msd : h152.msd = [] := rfl
@[simp] theorem h152_alt : h152.alt = [] := rfl
@[simp] theorem h152_fz : h152.fz = 0 := rfl
@[simp] theorem h152_gc : h152.gc = true := rfl
@[simp] theorem h152_wk : h152.wk = false := rfl
def h153 : Hint where
  vars := [0, 1, 2, 3, 8, 9]
  conds := [14, 34]
  steal := [15, 35]
  live := [(1, [0, 1, 2, 3, 8]), (4, [0, 1, 2, 3, 8, 9])]
  roots := []
  rets := true
  glob := []
  sw := [32, 51, 52]
  msd := []
  alt := []
  fz := 0
  gc := true
  wk := false
@[simp] theorem h153_vars : h153.vars = [0, 1, 2, 3, 8, 9] := rfl
@[simp] theorem h153_conds : h153.conds = [14, 34] := rfl
@[simp] theorem h153_steal : h153.steal = [15, 35] := rfl
@[simp] theorem h153_live : h153.live = [(1, [0, 1, 2, 3, 8]), (4, [0, 1, 2, 3, 8, 9])] := rfl
@[simp] theorem h153_roots : h153.roots = [] := rfl
@[simp] theorem h153_rets : h153.rets = true := rfl
@[simp] theorem h153_glob : h153.glob = [] := rfl
@[simp] theorem h153_sw : h153.sw = [32, 51, 52] := rfl
@[simp] theorem h153_msd : h153.msd = [] := rfl
@[simp] theorem h153_alt : h153.alt = [] := rfl
@[simp] theorem h153_fz : h153.fz = 0 := rfl
@[simp] theorem h153_gc : h153.gc = true := rfl
@[simp] theorem h153_wk : h153.wk = false := rfl
def h154 : Hint where
  vars := [0, 1, 2, 3, 4, 10, 11, 12, 13, 14, 15, 16, 17, 18, 19, 20, 21, 22, 23, 24]
  conds := [28, 33, 50, 58, 80, 85, 103, 110, 140, 151, 171, 185, 199, 213]
  steal := [29, 30, 51, 53, 54, 59, 81, 104, 106, 107, 111, 172, 174, 175, 181, 188, 195, 201, 202, 209, 214, 215, 216, 217, 218]
  live := [(3, [0, 1, 4, 10, 11]), (9, [0, 10, 13]), (15, [0, 2, 4, 14, 15]), (21, [0, 14, 17]), (33, [0, 1, 2, 3, 4, 18, 19, 20, 21, 22])]
  roots := []
  rets := true
  glob := []
  sw := [49, 75, 76, 101, 127, 128, 169]
  msd := []
  alt := []
  fz := 0
  gc := true
  wk := false
@[simp] theorem h154_vars : h154.vars = [0, 1, 2, 3, 4, 10, 11, 12, 13, 14, 15, 16, 17, 18, 19, 20, 21, 22, 23, 24] := rfl
@[simp] theorem h154_conds : h154.conds = [28, 33, 50, 58, 80, 85, 103, 110, 140, 151, 171, 185, 199, 213] := rfl
@[simp] theorem h154_steal : h154.steal = [29, 30, 51, 53, 54, 59, 81, 104, 106, 107, 111, 172, 174, 175, 181, 188, 195, 201, 202, 209, 214, 215, 216, 217, 218] := rfl
@[simp] theorem h154_live : h154.live = [(3, [0, 1, 4, 10, 11]), (9, [0, 10, 13]), (15, [0, 2, 4, 14, 15]), (21, [0, 14, 17]), (33, [0, 1, 2, 3, 4, 18, 19, 20, 21, 22])] := rfl
@[simp] theorem h154_roots : h154.roots = [] := rfl
@[simp] theorem h154_rets : h154.rets = true := rfl
@[simp] theorem h154_glob : h154.glob = [] := rfl
@[simp] theorem h154_sw : h154.sw = [49, 75, 76, 101, 127, 128, 169] := rfl
@[simp] theorem h154_msd : h154.msd = [] := rfl
@[simp] theorem h154_alt : h154.alt = [] := rfl
@[simp] theorem h154_fz : h154.fz = 0 := rfl
@[simp] theorem h154_gc : h154.gc = true := rfl
@[simp] theorem h154_wk : h154.wk = false := rfl
def h155 : Hint where
  vars := [0, 1, 2, 3, 8, 9]
  conds := [14, 34]
  steal := [15, 35]
  live := [(1, [0, 1, 2, 3, 8]), (4, [0, 1, 2, 3, 8, 9])]
  roots := []
  rets := true
  glob := []
  sw := [32, 51, 52]
  msd := []
  alt := []
  fz := 0
  gc := true
  wk := false
@[simp] theorem h155_vars : h155.vars = [0, 1, 2, 3, 8, 9] := rfl
@[simp] theorem h155_conds : h155.conds = [14, 34] := rfl
@[simp] theorem h155_steal : h155.steal = [15, 35] := rfl
@[simp] theorem h155_live : h155.live = [(1, [0, 1, 2, 3, 8]), (4, [0, 1, 2, 3, 8, 9])] := rfl
@[simp] theorem h155_roots : h155.roots = [] := rfl
@[simp] theorem h155_rets : h155.rets = true := rfl
@[simp] theorem h155_glob : h155.glob = [] := rfl
@[simp] theorem h155_sw : h155.sw = [32, 51, 52] := rfl
@[simp] theorem h155_msd : h155.msd = [] := rfl
@[simp] theorem h155_alt : h155.alt = [] := rfl
@[simp] theorem h155_fz : h155.fz = 0 := rfl
@[simp] theorem h155_gc : h155.gc = true := rfl
@[simp] theorem h155_wk : h155.wk = false := rfl
def h156 : Hint where
  vars := [0, 1, 2, 3, 4, 10, 11, 12, 13, 14, 15, 16, 17, 18, 19, 20, 21, 22, 23, 24]
  conds := [28, 33, 50, 58, 80, 85, 103, 110, 140, 151, 171, 185, 199, 213]
  steal := [29, 30, 51, 53, 54, 59, 81, 104, 106, 107, 111, 172, 174, 175, 181, 188, 195, 201, 202, 209, 214, 215, 216, 217, 218]
  live := [(3, [0, 1, 4, 10, 11]), (9, [0, 10, 13]), (15, [0, 2, 4, 14, 15]), (21, [0, 14, 17]), (33, [0, 1, 2, 3, 4, 18, 19, 20, 21, 22])]
  roots := []
  rets := true
  glob := []
  sw := [49, 75, 76, 101, 127, 128, 169]
  msd := []
  alt := []
  fz := 0
  gc := true
  wk := false
@[simp] theorem h156_vars : h156.vars = [0, 1, 2, 3, 4, 10, 11, 12, 13, 14, 15, 16, 17, 18, 19, 20, 21, 22, 23, 24] := rfl
@[simp] theorem h156_conds : h156.conds = [28, 33, 50, 58, 80, 85, 103, 110, 140, 151, 171, 185, 199, 213] := rfl
@[simp] theorem h156_steal : h156.steal = [29, 30, 51, 53, 54, 59, 81, 104, 106, 107, 111, 172, 174, 175, 181, 188, 195, 201, 202, 209, 214, 215, 216, 217, 218] := rfl
@[simp] theorem h156_live : h156.live = [(3, [0, 1, 4, 10, 11]), (9, [0, 10, 13]), (15, [0, 2, 4, 14, 15]), (21, [0, 14, 17]), (33, [0, 1, 2, 3, 4, 18, 19, 20, 21, 22])] := rfl
@[simp] theorem h156_roots : h156.roots = [] := rfl
@[simp] theorem h156_rets : h156.rets = true := rfl
@[simp] theorem h156_glob : h156.glob = [] := rfl
@[simp] theorem h156_sw : h156.sw = [49, 75, 76, 101, 127, 128, 169] := rfl
@[simp] theorem h156_msd : h156.msd = [] := rfl
@[simp] theorem h156_alt : h156.alt = [] := rfl
@[simp] theorem h156_fz : h156.fz = 0 := rfl
@[simp] theorem h156_gc : h156.gc = true := rfl
@[simp] theorem h156_wk : h156.wk = false := rfl
def h157 : Hint where
  vars := [0, 2, 4]
  conds := [6]
  steal := [3, 6, 7, 9]
  live := [(2, [2, 4])]
  roots := []
  rets := true
  glob := []
  sw := []
  msd := []
  alt := []
  fz := 0
  gc := false
  wk := false
@[simp] theorem h157_vars : h157.vars = [0, 2, 4] := rfl
@[simp] theorem h157_conds : h157.conds = [6] := rfl
@[simp] theorem h157_steal : h157.steal = [3, 6, 7, 9] := rfl
@[simp] theorem h157_live : h157.live = [(2, [2, 4])] := rfl
@[simp] theorem h157_roots : h157.roots = [] := rfl
@[simp] theorem h157_rets : h157.rets = true := rfl
@[simp] theorem h157_glob : h157.glob = [] := rfl
@[simp] theorem h157_sw : h157.sw = [] := rfl
@[simp] theorem h157_msd : h157.msd = [] := rfl
@[simp] theorem h157_alt : h157.alt = [] := rfl
@[simp] theorem h157_fz : h157.fz = 0 := rfl
@[simp] theorem h157_gc : h157.gc = false := rfl
@[simp] theorem h157_wk : h157.wk = false := rfl
def h158 : Hint where
  vars := [0, 2, 3]
  conds := [10]
  steal := [6, 11, 14, 15, 18]
  live := []
  roots := []
  rets := true
  glob := []
  sw := []
  msd := []
  alt := []
  fz := 0
  gc := false
  wk := false
@[simp] theorem h158_vars : h158.vars = [0, 2, 3] := rfl
@[simp] theorem h158_conds : h158.conds = [10] := rfl
@[simp] theorem h158_steal : h158.steal = [6, 11, 14, 15, 18] := rfl
@[simp] theorem h158_live : h158.live = [] := rfl
@[simp] theorem h158_roots : h158.roots = [] := rfl
@[simp] theorem h158_rets : h158.rets = true := rfl
@[simp] theorem h158_glob : h158.glob = [] := rfl
@[simp] theorem h158_sw : h158.sw = [] := rfl
@[simp] theorem h158_msd : h158.msd = [] := rfl
@[simp] theorem h158_alt : h158.alt = [] := rfl
@[simp] theorem h158_fz : h158.fz = 0 := rfl
@[simp] theorem h158_gc : h158.gc = false := rfl
@[simp] theorem h158_wk : h158.wk = false := rfl
def h160 : Hint where
  vars := [0, 2, 3, 4, 5, 6, 7, 8]
  conds := [12, 25, 30]
  steal := [13, 15, 22, 26, 31, 35, 37, 38]
  live := [(3, [0, 4, 5]), (8, [4, 6, 7, 8])]
  roots := []
  rets := true
  glob := []
  sw := []
  msd := []
  alt := []
  fz := 0
  gc := false
  wk := false
@[simp] theorem h160_vars : h160.vars = [0, 2, 3, 4, 5, 6, 7, 8] := rfl
@[simp] theorem h160_conds : h160.conds = [12, 25, 30] := rfl
@[simp] theorem h160_steal : h160.steal = [13, 15, 22, 26, 31, 35, 37, 38] := rfl
@[simp] theorem h160_live : h160.live = [(3, [0, 4, 5]), (8, [4, 6, 7, 8])] := rfl
@[simp] theorem h160_roots : h160.roots = [] := rfl
@[simp] theorem h160_rets : h160.rets = true := rfl
@[simp] theorem h160_glob : h160.glob = [] := rfl
@[simp] theorem h160_sw : h160.sw = [] := rfl
@[simp] theorem h160_msd : h160.msd = [] := rfl
@[simp] theorem h160_alt : h160.alt = [] := rfl
@[simp] theorem h160_fz : h160.fz = 0 := rfl
@[simp] theorem h160_gc : h160.gc = false := rfl
@[simp] theorem h160_wk : h160.wk = false := rfl
def h161 : Hint where
  vars := [0, 1, 2, 6, 7, 8, 9, 10, 11, 12, 13, 15, 16, 17, 85, 99, 100, 101]
  conds := [19, 25, 32, 37, 40, 52, 64, 77, 83, 90, 92, 102, 106, 112, 121, 137, 141, 159, 169]
  steal := [28, 33, 38, 44, 50, 56, 62, 68, 74, 80, 94, 98, 109, 115, 119, 125, 130, 142, 144, 149, 153, 155, 160, 162, 164, 165, 166, 171]
  live := [(36, [1, 8, 9, 10, 11, 12, 13, 99, 100, 101])]
  roots := []
  rets := true
  glob := []
  sw := []
  msd := [99]
  alt := []
  fz := 0
  gc := false
  wk := false
@[simp] theorem h161_vars : h161.vars = [0, 1, 2, 6, 7, 8, 9, 10, 11, 12, 13, 15, 16, 17, 85, 99, 100, 101] := rfl
@[simp] theorem h161_conds : h161.conds = [19, 25, 32, 37, 40, 52, 64, 77, 83, 90, 92, 102, 106, 112, 121, 137, 141, 159, 169] := rfl
@[simp] theorem h161_steal : h161.steal = [28, 33, 38, 44, 50, 56, 62, 68, 74, 80, 94, 98, 109, 115, 119, 125, 130, 142, 144, 149, 153, 155, 160, 162, 164, 165, 166, 171] := rfl
@[simp] theorem h161_live : h161.live = [(36, [1, 8, 9, 10, 11, 12, 13, 99, 100, 101])] := rfl
@[simp] theorem h161_roots : h161.roots = [] := rfl
@[simp] theorem h161_rets : h161.rets = true := rfl
@[simp] theorem h161_glob : h161.glob = [] := rfl
@[simp] theorem h161_sw : h161.sw = [] := rfl
@[simp] theorem h161_msd : h161.msd = [99] := rfl
@[simp] theorem h161_alt : h161.alt = [] := rfl
@[simp] theorem h161_fz : h161.fz = 0 := rfl
@[simp] theorem h161_gc : h161.gc = false := rfl
@[simp] theorem h161_wk : h161.wk = false := rfl
def h162 : Hint where
  vars := [0, 2, 3]
  conds := [6]
  steal := [11, 15]
  live := []
  roots := []
  rets := true
  glob := [9]
  sw := []
  msd := [9, 12]
  alt := []
  fz := 0
  gc := true
  wk := false
@[simp] theorem h162_vars : h162.vars = [0, 2, 3] := rfl
@[simp] theorem h162_conds : h162.conds = [6] := rfl
@[simp] theorem h162_steal : h162.steal = [11, 15] := rfl
@[simp] theorem h162_live : h162.live = [] := rfl
@[simp] theorem h162_roots : h162.roots = [] := rfl
@[simp] theorem h162_rets : h162.rets = true := rfl
@[simp] theorem h162_glob : h162.glob = [9] := rfl
@[simp] theorem h162_sw : h162.sw = [] := rfl
@[simp] theorem h162_msd : h162.msd = [9, 12] := rfl
@[simp] theorem h162_alt : h162.alt = [] := rfl
@[simp] theorem h162_fz : h162.fz = 0 := rfl
@[simp] theorem h162_gc : h162.gc = true := rfl
@[simp] theorem h162_wk : h162.wk = false := rfl
def h163 : Hint where
  vars := [0, 2]
  conds := []
  steal := [3]
  live := []
  roots := []
  rets := true
  glob := [5]
  sw := []
  msd := []
  alt := []
  fz := 0
  gc := true
  wk := true
@[simp] theorem h163_vars : h163.vars = [0, 2] := rfl
@[simp] theorem h163_conds : h163.conds = [] := rfl
@[simp] theorem h163_steal : h163.steal = [3] := rfl
@[simp] theorem h163_live : h163.live = [] := rfl
@[simp] theorem h163_roots : h163.roots = [] := rfl
@[simp] theorem h163_rets : h163.rets = true := rfl
@[simp] theorem h163_glob : h163.glob = [5] := rfl
@[simp] theorem h163_sw : h163.sw = [] := rfl
@[simp] theorem h163_msd : h163.msd = [] := rfl
@[simp] theorem h163_alt : h163.alt = [] := rfl
@[simp] theorem h163_fz : h163.fz = 0 := rfl
@[simp] theorem h163_gc : h163.gc = true := rfl
@[simp] theorem h163_wk : h163.wk = true := rfl
def h164 : Hint where
  vars := [0, 2]
  conds := []
  steal := [3]
  live := []
  roots := []
  rets := true
  glob := []
  sw := []
  msd := []
  alt := []
  fz := 0
  gc := false
  wk := false
@[simp] theorem h164_vars : h164.vars = [0, 2] := rfl
@[simp] theorem h164_conds : h164.conds = [] := rfl
@[simp] theorem h164_steal : h164.steal = [3] := rfl
@[simp] theorem h164_live : h164.live = [] := rfl
@[simp] theorem h164_roots : h164.roots = [] := rfl
@[simp] theorem h164_rets : h164.rets = true := rfl
@[simp] theorem h164_glob : h164.glob = [] := rfl
@[simp] theorem h164_sw : h164.sw = [] := rfl
@[simp] theorem h164_msd : h164.msd = [] := rfl
@[simp] theorem h164_alt : h164.alt = [] := rfl
@[simp] theorem h164_fz : h164.fz = 0 := rfl
@[simp] theorem h164_gc : h164.gc = false := rfl
@[simp] theorem h164_wk : h164.wk = false := rfl
def h165 : Hint where
  vars := [0, 2]
  conds := [4, 8, 14]
  steal := [5, 9, 11, 15, 17, 19, 20]
  live := []
  roots := []
  rets := true
  glob := []
  sw := []
  msd := []
  alt := []
  fz := 0
  gc := false
  wk := false
@[simp] theorem h165_vars : h165.vars = [0, 2] := rfl
@[simp] theorem h165_conds : h165.conds = [4, 8, 14] := rfl
@[simp] theorem h165_steal : h165.steal = [5, 9, 11, 15, 17, 19, 20] := rfl
@[simp] theorem h165_live : h165.live = [] := rfl
@[simp] theorem h165_roots : h165.roots = [] := rfl
@[simp] theorem h165_rets : h165.rets = true := rfl
@[simp] theorem h165_glob : h165.glob = [] := rfl
@[simp] theorem h165_sw : h165.sw = [] := rfl
@[simp] theorem h165_msd : h165.msd = [] := rfl
@[simp] theorem h165_alt : h165.alt = [] := rfl
@[simp] theorem h165_fz : h165.fz = 0 := rfl
@[simp] theorem h165_gc : h165.gc = false := rfl
@[simp] theorem h165_wk : h165.wk = false := rfl
def h166 : Hint where
  vars := [0, 2]
  conds := [3]
  steal := [3]
  live := []
  roots := []
  rets := true
  glob := []
  sw := []
  msd := []
  alt := []
  fz := 0
  gc := false
  wk := false
@[simp] theorem h166_vars : h166.vars = [0, 2] := rfl
@[simp] theorem h166_conds : h166.conds = [3] := rfl
@[simp] theorem h166_steal : h166.steal = [3] := rfl
@[simp] theorem h166_live : h166.live = [] := rfl
@[simp] theorem h166_roots : h166.roots = [] := rfl
@[simp] theorem h166_rets : h166.rets = true := rfl
@[simp] theorem h166_glob : h166.glob = [] := rfl
@[simp] theorem h166_sw : h166.sw = [] := rfl
@[simp] theorem h166_msd : h166.msd = [] := rfl
@[simp] theorem h166_alt : h166.alt = [] := rfl
@[simp] theorem h166_fz : h166.fz = 0 := rfl
@[simp] theorem h166_gc : h166.gc = false := rfl
@[simp] theorem h166_wk : h166.wk = false := rfl
def h167 : Hint where
  vars := [0, 2]
  conds := []
  steal := [4]
  live := []
  roots := []
  rets := true
  glob := []
  sw := []
  msd := []
  alt := []
  fz := 0
  gc := false
  wk := false
@[simp] theorem h167_vars : h167.vars = [0, 2] := rfl
@[simp] theorem h167_conds : h167.conds = [] := rfl
@[simp] theorem h167_steal : h167.steal = [4] := rfl
@[simp] theorem h167_live : h167.live = [] := rfl
@[simp] theorem h167_roots : h167.roots = [] := rfl
@[simp] theorem h167_rets : h167.rets = true := rfl
@[simp] theorem h167_glob : h167.glob = [] := rfl
@[simp] theorem h167_sw : h167.sw = [] := rfl
@[simp] theorem h167_msd : h167.msd = [] := rfl
@[simp] theorem h167_alt : h167.alt = [] := rfl
@[simp] theorem h167_fz : h167.fz = 0 := rfl
@[simp] theorem h167_gc : h167.gc = false := rfl
@[simp] theorem h167_wk : h167.wk = false := rfl
def h168 : Hint where
  vars := [0, 2]
  conds := []
  steal := [3, 6]
  live := []
  roots := []
  rets := true
  glob := []
  sw := []
  msd := []
  alt := []
  fz := 0
  gc := false
  wk := false
@[simp] theorem h168_vars : h168.vars = [0, 2] := rfl
@[simp] theorem h168_conds : h168.conds = [] := rfl
@[simp] theorem h168_steal : h168.steal = [3, 6] := rfl
@[simp] theorem h168_live : h168.live = [] := rfl
@[simp] theorem h168_roots : h168.roots = [] := rfl
@[simp] theorem h168_rets : h168.rets = true := rfl
@[simp] theorem h168_glob : h168.glob = [] := rfl
@[simp] theorem h168_sw : h168.sw = [] := rfl
@[simp] theorem h168_msd : h168.msd = [] := rfl
@[simp] theorem h168_alt : h168.alt = [] := rfl
@[simp] theorem h168_fz : h168.fz = 0 := rfl
@[simp] theorem h168_gc : h168.gc = false := rfl
@[simp] theorem h168_wk : h168.wk = false := rfl
def h169 : Hint where
  vars := [0, 1, 2, 3, 4, 10, 11]
  conds := [20, 23]
  steal := [13, 15, 32, 47, 50, 54, 55, 56]
  live := [(2, [0, 2, 4, 10, 11])]
  roots := []
  rets := true
  glob := []
  sw := []
  msd := []
  alt := []
  fz := 0
  gc := false
  wk := false
@[simp] theorem h169_vars : h169.vars = [0, 1, 2, 3, 4, 10, 11] := rfl
@[simp] theorem h169_conds : h169.conds = [20, 23] := rfl
@[simp] theorem h169_steal : h169.steal = [13, 15, 32, 47, 50, 54, 55, 56] := rfl
@[simp] theorem h169_live : h169.live = [(2, [0, 2, 4, 10, 11])] := rfl
@[simp] theorem h169_roots : h169.roots = [] := rfl
@[simp] theorem h169_rets : h169.rets = true := rfl
@[simp] theorem h169_glob : h169.glob = [] := rfl
@[simp] theorem h169_sw : h169.sw = [] := rfl
@[simp] theorem h169_msd : h169.msd = [] := rfl
@[simp] theorem h169_alt : h169.alt = [] := rfl
@[simp] theorem h169_fz : h169.fz = 0 := rfl
@[simp] theorem h169_gc : h169.gc = false := rfl
@[simp] theorem h169_wk : h169.wk = false := rfl
def h170 : Hint where
  vars := [0, 1, 2, 3, 4, 10, 11]
  conds := [20, 23]
  steal := [13, 15, 32, 47, 50, 54, 55, 56]
  live := [(2, [0, 2, 4, 10, 11])]
  roots := []
  rets := true
  glob := []
  sw := []
  msd := []
  alt := []
  fz := 0
  gc := false
  wk := false
@[simp] theorem h170_vars : h170.vars = [0, 1, 2, 3, 4, 10, 11] := rfl
@[simp] theorem h170_conds : h170.conds = [20, 23] := rfl
@[simp] theorem h170_steal : h170.steal = [13, 15, 32, 47, 50, 54, 55, 56] := rfl
@[simp] theorem h170_live : h170.live = [(2, [0, 2, 4, 10, 11])] := rfl
@[simp] theorem h170_roots : h170.roots = [] := rfl
@[simp] theorem h170_rets : h170.rets = true := rfl
@[simp] theorem h170_glob : h170.glob = [] := rfl
@[simp] theorem h170_sw : h170.sw = [] := rfl
@[simp] theorem h170_msd : h170.msd = [] := rfl
@[simp] theorem h170_alt : h170.alt = [] := rfl
@[simp] theorem h170_fz : h170.fz = 0 := rfl
@[simp] theorem h170_gc : h170.gc = false := rfl
@[simp] theorem h170_wk : h170.wk = false := rfl
def h171 : Hint where
  vars := [0, 2, 3, 4, 5, 6, 7, 8, 9, 10, 11, 12]
  conds := [16, 23, 45, 57, 59, 75, 77, 98]
  steal := [24, 28, 33, 39, 43, 52, 60, 64, 72, 76, 78, 82, 87, 91, 95, 99, 103, 108, 113]
  live := []
  roots := []
  rets := true
  glob := []
  sw := []
  msd := []
  alt := []
  fz := 0
  gc := false
  wk := false
@[simp] theorem h171_vars : h171.vars = [0, 2, 3, 4, 5, 6, 7, 8, 9, 10, 11, 12] := rfl
@[simp] theorem h171_conds : h171.conds = [16, 23, 45, 57, 59, 75, 77, 98] := rfl
@[simp] theorem h171_steal : h171.steal = [24, 28, 33, 39, 43, 52, 60, 64, 72, 76, 78, 82, 87, 91, 95, 99, 103, 108, 113] := rfl
@[simp] theorem h171_live : h171.live = [] := rfl
@[simp] theorem h171_roots : h171.roots = [] := rfl
@[simp] theorem h171_rets : h171.rets = true := rfl
@[simp] theorem h171_glob : h171.glob = [] := rfl
@[simp] theorem h171_sw : h171.sw = [] := rfl
@[simp] theorem h171_msd : h171.msd = [] := rfl
@[simp] theorem h171_alt : h171.alt = [] := rfl
@[simp] theorem h171_fz : h171.fz = 0 := rfl
@[simp] theorem h171_gc : h171.gc = false := rfl
@[simp] theorem h171_wk : h171.wk = false := rfl
def h172 : Hint where
  vars := [0, 2]
  conds := []
  steal := [3]
  live := []
  roots := []
  rets := true
  glob := []
  sw := []
  msd := []
  alt := []
  fz := 0
  gc := false
  wk := false
@[simp] theorem h172_vars : h172.vars = [0, 2] := rfl
@[simp] theorem h172_conds : h172.conds = [] := rfl
@[simp] theorem h172_steal : h172.steal = [3] := rfl
@[simp] theorem h172_live : h172.live = [] := rfl
@[simp] theorem h172_roots : h172.roots = [] := rfl
@[simp] theorem h172_rets : h172.rets = true := rfl
@[simp] theorem h172_glob : h172.glob = [] := rfl
@[simp] theorem h172_sw : h172.sw = [] := rfl
@[simp] theorem h172_msd : h172.msd = [] := rfl
@[simp] theorem h172_alt : h172.alt = [] := rfl
@[simp] theorem h172_fz : h172.fz = 0 := rfl
@[simp] theorem h172_gc : h172.gc = false := rfl
@[simp] theorem h172_wk : h172.wk = false := rfl
def h173 : Hint where
  vars := [0, 2, 3, 4, 5]
  conds := [18, 46, 54, 83, 87, 89, 91]
  steal := [9, 13, 19, 24, 29, 34, 40, 55, 61, 67, 69, 76, 88, 90, 92]
  live := [(10, [0, 3, 4, 5])]
  roots := []
  rets := true
  glob := []
  sw := []
  msd := []
  alt := []
  fz := 0
  gc := false
  wk := false
@[simp] theorem h173_vars : h173.vars = [0, 2, 3, 4, 5] := rfl
@[simp] theorem h173_conds : h173.conds = [18, 46, 54, 83, 87, 89, 91] := rfl
@[simp] theorem h173_steal : h173.steal = [9, 13, 19, 24, 29, 34, 40, 55, 61, 67, 69, 76, 88, 90, 92] := rfl
@[simp] theorem h173_live : h173.live = [(10, [0, 3, 4, 5])] := rfl
@[simp] theorem h173_roots : h173.roots = [] := rfl
@[simp] theorem h173_rets : h173.rets = true := rfl
@[simp] theorem h173_glob : h173.glob = [] := rfl
@[simp] theorem h173_sw : h173.sw = [] := rfl
@[simp] theorem h173_msd : h173.msd = [] := rfl
@[simp] theorem h173_alt : h173.alt = [] := rfl
@[simp] theorem h173_fz : h173.fz = 0 := rfl
@[simp] theorem h173_gc : h173.gc = false := rfl
@[simp] theorem h173_wk : h173.wk = false := rfl
def h174 : Hint where
  vars := [0, 2]
  conds := [4]
  steal := [6]
  live := []
  roots := []
  rets := true
  glob := []
  sw := []
  msd := []
  alt := []
  fz := 0
  gc := false
  wk := false
@[simp] theorem h174_vars : h174.vars = [0, 2] := rfl
@[simp] theorem h174_conds : h174.conds = [4] := rfl
@[simp] theorem h174_steal : h174.steal = [6] := rfl
@[simp] theorem h174_live : h174.live = [] := rfl
@[simp] theorem h174_roots : h174.roots = [] := rfl
@[simp] theorem h174_rets : h174.rets = true := rfl
@[simp] theorem h174_glob : h174.glob = [] := rfl
@[simp] theorem h174_sw : h174.sw = [] := rfl
@[simp] theorem h174_msd : h174.msd = [] := rfl
@[simp] theorem h174_alt : h174.alt = [] := rfl
@[simp] theorem h174_fz : h174.fz = 0 := rfl
@[simp] theorem h174_gc : h174.gc = false := rfl
@[simp] theorem h174_wk : h174.wk = false := rfl
def h175 : Hint where
  vars := [0, 2]
  conds := [4]
  steal := [6]
  live := []
  roots := []
  rets := true
  glob := []
  sw := []
  msd := []
  alt := []
  fz := 0
  gc := false
  wk := false
@[simp] theorem h175_vars : h175.vars = [0, 2] := rfl
@[simp] theorem h175_conds : h175.conds = [4] := rfl
@[simp] theorem h175_steal : h175.steal = [6] := rfl
@[simp] theorem h175_live : h175.live = [] := rfl
@[simp] theorem h175_roots : h175.roots = [] := rfl
@[simp] theorem h175_rets : h175.rets = true := rfl
@[simp] theorem h175_glob : h175.glob = [] := rfl
@[simp] theorem h175_sw : h175.sw = [] := rfl
@[simp] theorem h175_msd : h175.msd = [] := rfl
@[simp] theorem h175_alt : h175.alt = [] := rfl
@[simp] theorem h175_fz : h175.fz = 0 := rfl
@[simp] theorem h175_gc : h175.gc = false := rfl
@[simp] theorem h175_wk : h175.wk = false := rfl
def h176 : Hint where
  vars := [0, 1, 2, 3, 4, 10]
  conds := [13]
  steal := [14]
  live := [(1, [0, 1, 2, 3, 10])]
  roots := []
  rets := true
  glob := []
  sw := [36, 37]
  msd := []
  alt := []
  fz := 0
  gc := false
  wk := false
@[simp] theorem h176_vars : h176.vars = [0, 1, 2, 3, 4, 10] := rfl
@[simp] theorem h176_conds : h176.conds = [13] := rfl
@[simp] theorem h176_steal : h176.steal = [14] := rfl
@[simp] theorem h176_live : h176.live = [(1, [0, 1, 2, 3, 10])] := rfl
@[simp] theorem h176_roots : h176.roots = [] := rfl
@[simp] theorem h176_rets : h176.rets = true := rfl
@[simp] theorem h176_glob : h176.glob = [] := rfl
@[simp] theorem h176_sw : h176.sw = [36, 37] := rfl
@[simp] theorem h176_msd : h176.msd = [] := rfl
@[simp] theorem h176_alt : h176.alt = [] := rfl
@[simp] theorem h176_fz : h176.fz = 0 := rfl
@[simp] theorem h176_gc : h176.gc = false := rfl
@[simp] theorem h176_wk : h176.wk = false := rfl
def h177 : Hint where
  vars := [0, 1, 2, 3, 4, 10]
  conds := [13]
  steal := [14]
  live := [(1, [0, 1, 2, 3, 10])]
  roots := []
  rets := true
  glob := []
  sw := [36, 37]
  msd := []
  alt := []
  fz := 0
  gc := false
  wk := false
@[simp] theorem h177_vars : h177.vars = [0, 1, 2, 3, 4, 10] := rfl
@[simp] theorem h177_conds : h177.conds = [13] := rfl
@[simp] theorem h177_steal : h177.steal = [14] := rfl
@[simp] theorem h177_live : h177.live = [(1, [0, 1, 2, 3, 10])] := rfl
@[simp] theorem h177_roots : h177.roots = [] := rfl
@[simp] theorem h177_rets : h177.rets = true := rfl
@[simp] theorem h177_glob : h177.glob = [] := rfl
@[simp] theorem h177_sw : h177.sw = [36, 37] := rfl
@[simp] theorem h177_msd : h177.msd = [] := rfl
@[simp] theorem h177_alt : h177.alt = [] := rfl
@[simp] theorem h177_fz : h177.fz = 0 := rfl
@[simp] theorem h177_gc : h177.gc = false := rfl
@[simp] theorem h177_wk : h177.wk = false := rfl
def h207 : Hint where
  vars := []
  conds := []
  steal := []
  live := []
  roots := []
  rets := true
  glob := []
  sw := []
  msd := []
  alt := []
  fz := 0
  gc := false
  wk := false
@[simp] theorem h207_vars : h207.vars = [] := rfl
@[simp] theorem h207_conds : h207.conds = [] := rfl
@[simp] theorem h207_steal : h207.steal = [] := rfl
@[simp] theorem h207_live : h207.live = [] := rfl
@[simp] theorem h207_roots : h207.roots = [] := rfl
@[simp] theorem h207_rets : h207.rets = true := rfl
@[simp] theorem h207_glob : h207.glob = [] := rfl
@[simp] theorem h207_sw : h207.sw = [] := rfl
@[simp] theorem h207_msd : h207.msd = [] := rfl
@[simp] theorem h207_alt : h207.alt = [] := rfl
@[simp] theorem h207_fz : h207.fz = 0 := rfl
@[simp] theorem h207_gc : h207.gc = false := rfl
@[simp] theorem h207_wk : h207.wk = false := rfl
def H : FuncId → Hint
  | 2 => h2
  | 3 => h3
  | 4 => h4
  | 5 => h5
  | 6 => h6
  | 7 => h7
  | 8 => h8
  | 9 => h9
  | 10 => h10
  | 11 => h11
  | 12 => h12
  | 13 => h13
  | 14 => h14
  | 15 => h15
  | 16 => h16
  | 17 => h17
  | 18 => h18
  | 19 => h19
  | 20 => h20
  | 21 => h21
  | 22 => h22
  | 23 => h23
  | 24 => h24
  | 25 => h25
  | 26 => h26
  | 27 => h27
  | 28 => h28
  | 29 => h29
  | 30 => h30
  | 31 => h31
  | 32 => h32
  | 33 => h33
  | 34 => h34
  | 35 => h35
  | 36 => h36
  | 37 => h37
  | 38 => h38
  | 39 => h39
  | 40 => h40
  | 41 => h41
  | 42 => h42
  | 43 => h43
  | 44 => h44
  | 45 => h45
  | 46 => h46
  | 47 => h47
  | 48 => h48
  | 49 => h49
  | 50 => h50
  | 51 => h51
  | 52 => h52
  | 53 => h53
  | 54 => h54
  | 55 => h55
  | 56 => h56
  | 57 => h57
  | 58 => h58
  | 59 => h59
  | 60 => h60
  | 61 => h61
  | 62 => h62
  | 63 => h63
  | 64 => h64
  | 65 => h65
  | 66 => h66
  | 67 => h67
  | 68 => h68
  | 69 => h69
  | 70 => h70
  | 71 => h71
  | 72 => h72
  | 73 => h73
  | 74 => h74
  | 75 => h75
  | 76 => h76
  | 77 => h77
  | 78 => h78
  | 79 => h79
  | 80 => h80
  | 81 => h81
  | 82 => h82
  | 83 => h83
  | 84 => h84
  | 85 => h85
  | 86 => h86
  | 87 => h87
  | 88 => h88
  | 89 => h89
  | 90 => h90
  | 91 => h91
  | 92 => h92
  | 93 => h93
  | 94 => h94
  | 95 => h95
  | 96 => h96
  | 97 => h97
  | 98 => h98
  | 99 => h99
  | 100 => h100
  | 101 => h101
  | 102 => h102
  | 103 => h103
  | 104 => h104
  | 105 => h105
  | 106 => h106
  | 108 => h108
  | 109 => h109
  | 110 => h110
  | 111 => h111
  | 112 => h112
  | 113 => h113
  | 114 => h114
  | 115 => h115
  | 116 => h116
  | 117 => h117
  | 118 => h118
  | 119 => h119
  | 120 => h120
  | 121 => h121
  | 122 => h122
  | 123 => h123
  | 124 => h124
  | 125 => h125
  | 126 => h126
  | 129 => h129
  | 130 => h130
  | 131 => h131
  | 132 => h132
  | 133 => h133
  | 134 => h134
  | 135 => h135
  | 136 => h136
  | 137 => h137
  | 138 => h138
  | 139 => h139
  | 141 => h141
  | 142 => h142
  | 144 => h144
  | 145 => h145
  | 146 => h146
  | 147 => h147
  | 148 => h148
  | 149 => h149
  | 150 => h150
  | 151 => h151
  | 152 => h152
  | 153 => h153
  | 154 => h154
  | 155 => h155
  | 156 => h156
  | 157 => h157
  | 158 => h158
  | 160 => h160
  | 161 => h161
  | 162 => h162
  | 163 => h163
  | 164 => h164
  | 165 => h165
  | 166 => h166
  | 167 => h167
  | 168 => h168
  | 169 => h169
  | 170 => h170
  | 171 => h171
  | 172 => h172
  | 173 => h173
  | 174 => h174
  | 175 => h175
  | 176 => h176
  | 177 => h177
  | 207 => h207
  | _ => {}
@[simp] theorem H2 : H 2 = h2 := rfl
@[simp] theorem H3 : H 3 = h3 := rfl
@[simp] theorem H4 : H 4 = h4 := rfl
@[simp] theorem H5 : H 5 = h5 := rfl
@[simp] theorem H6 : H 6 = h6 := rfl
@[simp] theorem H7 : H 7 = h7 := rfl
@[simp] theorem H8 : H 8 = h8 := rfl
@[simp] theorem H9 : H 9 = h9 := rfl
@[simp] theorem H10 : H 10 = h10 := rfl
@[simp] theorem H11 : H 11 = h11 := rfl
@[simp] theorem H12 : H 12 = h12 := rfl
@[simp] theorem H13 : H 13 = h13 := rfl
@[simp] theorem H14 : H 14 = h14 := rfl
@[simp] theorem H15 : H 15 = h15 := rfl
@[simp] theorem H16 : H 16 = h16 := rfl
@[simp] theorem H17 : H 17 = h17 := rfl
@[simp] theorem H18 : H 18 = h18 := rfl
@[simp] theorem H19 : H 19 = h19 := rfl
@[simp] theorem H20 : H 20 = h20 := rfl
@[simp] theorem H21 : H 21 = h21 := rfl
@[simp] theorem H22 : H 22 = h22 := rfl
@[simp] theorem H23 : H 23 = h23 := rfl
@[simp] theorem H24 : H 24 = h24 := rfl
@[simp] theorem H25 : H 25 = h25 := rfl
@[simp] theorem H26 : H 26 = h26 := rfl
@[simp] theorem H27 : H 27 = h27 := rfl
@[simp] theorem H28 : H 28 = h28 := rfl
@[simp] theorem H29 : H 29 = h29 := rfl
@[simp] theorem H30 : H 30 = h30 := rfl
@[simp] theorem H31 : H 31 = h31 := rfl
@[simp] theorem H32 : H 32 = h32 := rfl
@[simp] theorem H33 : H 33 = h33 := rfl
@[simp] theorem H34 : H 34 = h34 := rfl
@[simp] theorem H35 : H 35 = h35 := rfl
@[simp] theorem H36 : H 36 = h36 := rfl
@[simp] theorem H37 : H 37 = h37 := rfl
@[simp] theorem H38 : H 38 = h38 := rfl
@[simp] theorem H39 : H 39 = h39 := rfl
@[simp] theorem H40 : H 40 = h40 := rfl
@[simp] theorem H41 : H 41 = h41 := rfl
@[simp] theorem H42 : H 42 = h42 := rfl
@[simp] theorem H43 : H 43 = h43 := rfl
@[simp] theorem H44 : H 44 = h44 := rfl
@[simp] theorem H45 : H 45 = h45 := rfl
@[simp] theorem H46 : H 46 = h46 := rfl
@[simp] theorem H47 : H 47 = h47 := rfl
@[simp] theorem H48 : H 48 = h48 := rfl
@[simp] theorem H49 : H 49 = h49 := rfl
@[simp] theorem H50 : H 50 = h50 := rfl
@[simp] theorem H51 : H 51 = h51 := rfl
@[simp] theorem H52 : H 52 = h52 := rfl
@[simp] theorem H53 : H 53 = h53 := rfl
@[simp] theorem H54 : H 54 = h54 := rfl
@[simp] theorem H55 : H 55 = h55 := rfl
@[simp] theorem H56 : H 56 = h56 := rfl
@[simp] theorem H57 : H 57 = h57 := rfl
@[simp] theorem H58 : H 58 = h58 := rfl
@[simp] theorem H59 : H 59 = h59 := rfl
@[simp] theorem H60 : H 60 = h60 := rfl
@[simp] theorem H61 : H 61 = h61 := rfl
@[simp] theorem H62 : H 62 = h62 := rfl
@[simp] theorem H63 : H 63 = h63 := rfl
@[simp] theorem H64 : H 64 = h64 := rfl
@[simp] theorem H65 : H 65 = h65 := rfl
@[simp] theorem H66 : H 66 = h66 := rfl
@[simp] theorem H67 : H 67 = h67 := rfl
@[simp] theorem H68 : H 68 = h68 := rfl
@[simp] theorem H69 : H 69 = h69 := rfl
@[simp] theorem H70 : H 70 = h70 := rfl
@[simp] theorem H71 : H 71 = h71 := rfl
@[simp] theorem H72 : H 72 = h72 := rfl
@[simp] theorem H73 : H 73 = h73 := rfl
@[simp] theorem H74 : H 74 = h74 := rfl
@[simp] theorem H75 : H 75 = h75 := rfl
@[simp] theorem H76 : H 76 = h76 := rfl
@[simp] theorem H77 : H 77 = h77 := rfl
@[simp] theorem H78 : H 78 = h78 := rfl
@[simp] theorem H79 : H 79 = h79 := rfl
@[simp] theorem H80 : H 80 = h80 := rfl
@[simp] theorem H81 : H 81 = h81 := rfl
@[simp] theorem H82 : H 82 = h82 := rfl
@[simp] theorem H83 : H 83 = h83 := rfl
@[simp] theorem H84 : H 84 = h84 := rfl
@[simp] theorem H85 : H 85 = h85 := rfl
@[simp] theorem H86 : H 86 = h86 := rfl
@[simp] theorem H87 : H 87 = h87 := rfl
@[simp] theorem H88 : H 88 = h88 := rfl
@[simp] theorem H89 : H 89 = h89 := rfl
@[simp] theorem H90 : H 90 = h90 := rfl
@[simp] theorem H91 : H 91 = h91 := rfl
@[simp] theorem H92 : H 92 = h92 := rfl
@[simp] theorem H93 : H 93 = h93 := rfl
@[simp] theorem H94 : H 94 = h94 := rfl
@[simp] theorem H95 : H 95 = h95 := rfl
@[simp] theorem H96 : H 96 = h96 := rfl
@[simp] theorem H97 : H 97 = h97 := rfl
@[simp] theorem H98 : H 98 = h98 := rfl
@[simp] theorem H99 : H 99 = h99 := rfl
@[simp] theorem H100 : H 100 = h100 := rfl
@[simp] theorem H101 : H 101 = h101 := rfl
@[simp] theorem H102 : H 102 = h102 := rfl
@[simp] theorem H103 : H 103 = h103 := rfl
@[simp] theorem H104 : H 104 = h104 := rfl
@[simp] theorem H105 : H 105 = h105 := rfl
@[simp] theorem H106 : H 106 = h106 := rfl
@[simp] theorem H108 : H 108 = h108 := rfl
@[simp] theorem H109 : H 109 = h109 := rfl
@[simp] theorem H110 : H 110 = h110 := rfl
@[simp] theorem H111 : H 111 = h111 := rfl
@[simp] theorem H112 : H 112 = h112 := rfl
@[simp] theorem H113 : H 113 = h113 := rfl
@[simp] theorem H114 : H 114 = h114 := rfl
@[simp] theorem H115 : H 115 = h115 := rfl
@[simp] theorem H116 : H 116 = h116 := rfl
@[simp] theorem H117 : H 117 = h117 := rfl
@[simp] theorem H118 : H 118 = h118 := rfl
@[simp] theorem H119 : H 119 = h119 := rfl
@[simp] theorem H120 : H 120 = h120 := rfl
@[simp] theorem H121 : H 121 = h121 := rfl
@[simp] theorem H122 : H 122 = h122 := rfl
@[simp] theorem H123 : H 123 = h123 := rfl
@[simp] theorem H124 : H 124 = h124 := rfl
@[simp] theorem H125 : H 125 = h125 := rfl
@[simp] theorem H126 : H 126 = h126 := rfl
@[simp] theorem H129 : H 129 = h129 := rfl
@[simp] theorem H130 : H 130 = h130 := rfl
@[simp] theorem H131 : H 131 = h131 := rfl
@[simp] theorem H132 : H 132 = h132 := rfl
@[simp] theorem H133 : H 133 = h133 := rfl
@[simp] theorem H134 : H 134 = h134 := rfl
@[simp] theorem H135 : H 135 = h135 := rfl
@[simp] theorem H136 : H 136 = h136 := rfl
@[simp] theorem H137 : H 137 = h137 := rfl
@[simp] theorem H138 : H 138 = h138 := rfl
@[simp] theorem H139 : H 139 = h139 := rfl
@[simp] theorem H141 : H 141 = h141 := rfl
@[simp] theorem H142 : H 142 = h142 := rfl
@[simp] theorem H144 : H 144 = h144 := rfl
@[simp] theorem H145 : H 145 = h145 := rfl
@[simp] theorem H146 : H 146 = h146 := rfl
@[simp] theorem H147 : H 147 = h147 := rfl
@[simp] theorem H148 : H 148 = h148 := rfl
@[simp] theorem H149 : H 149 = h149 := rfl
@[simp] theorem H150 : H 150 = h150 := rfl
@[simp] theorem H151 : H 151 = h151 := rfl
@[simp] theorem H152 : H 152 = h152 := rfl
@[simp] theorem H153 : H 153 = h153 := rfl
@[simp] theorem H154 : H 154 = h154 := rfl
@[simp] theorem H155 : H 155 = h155 := rfl
@[simp] theorem H156 : H 156 = h156 := rfl
@[simp] theorem H157 : H 157 = h157 := rfl
@[simp] theorem H158 : H 158 = h158 := rfl
@[simp] theorem H160 : H 160 = h160 := rfl
@[simp] theorem H161 : H 161 = h161 := rfl
@[simp] theorem H162 : H 162 = h162 := rfl
@[simp] theorem H163 : H 163 = h163 := rfl
@[simp] theorem H164 : H 164 = h164 := rfl
@[simp] theorem H165 : H 165 = h165 := rfl
@[simp] theorem H166 : H 166 = h166 := rfl
@[simp] theorem H167 : H 167 = h167 := rfl
@[simp] theorem H168 : H 168 = h168 := rfl
@[simp] theorem H169 : H 169 = h169 := rfl
@[simp] theorem H170 : H 170 = h170 := rfl
@[simp] theorem H171 : H 171 = h171 := rfl
@[simp] theorem H172 : H 172 = h172 := rfl
@[simp] theorem H173 : H 173 = h173 := rfl
@[simp] theorem H174 : H 174 = h174 := rfl
@[simp] theorem H175 : H 175 = h175 := rfl
@[simp] theorem H176 : H 176 = h176 := rfl
@[simp] theorem H177 : H 177 = h177 := rfl
@[simp] theorem H207 : H 207 = h207 := rfl
end Go.Proofs.Tryz.Ai
end
section
/- strings.Builder's methods that look at addresses or capacities: each leaves just this world behind. -/
namespace Go.Proofs.Tryz.Ai
open Go Go.AI Go.RowKit Go.Proofs

set_option maxHeartbeats 1000000 in
set_option maxRecDepth 100000 in
theorem copyCheck_used (b : Nat) (w : World) (h0 : w.cell? ⟨b, 0, none⟩ = some (.pointer (some ⟨b, 0, none⟩))) :
    Calls Tryz.prog 107 #[.pointer (some ⟨b, 0, none⟩)] w fun e w' => e = .returned (.tuple #[]) ∧ w' = w := by
  obtain ⟨j, hj, _⟩ : ∃ j, Tryz.prog.info? 71 = some j ∧ j.size = 2 := Option.map_eq_some_iff.1 (by kernel_rfl)
  go_enter Tryz.func107, Tryz.ntmps107
  go_wp2
  rw [Lib.run_neq_ptr_same w _ (te := 71) (by kernel_rfl) hj]
  go_wp2
  go_end0
  exact ⟨rfl, rfl⟩

set_option maxHeartbeats 1000000 in
set_option maxRecDepth 100000 in
theorem copyCheck_fresh (b : Nat) (w : World) (h0 : w.cell? ⟨b, 0, none⟩ = some (.pointer none)) (hsh : w.shape? b = some (71, 2)) (hfz : w.frozen? ⟨b, 0, none⟩ = false) :
    Calls Tryz.prog 107 #[.pointer (some ⟨b, 0, none⟩)] w fun e w' => e = .returned (.tuple #[]) ∧ w' = w.setCell ⟨b, 0, none⟩ (.pointer (some ⟨b, 0, none⟩)) := by
  obtain ⟨j, hj, hjs⟩ : ∃ j, Tryz.prog.info? 71 = some j ∧ j.size = 2 := Option.map_eq_some_iff.1 (by kernel_rfl)
  go_enter Tryz.func107, Tryz.ntmps107
  go_wp2
  rw [Lib.run_to_unsafe (t := 71) w ⟨b, 0, none⟩ (by kernel_rfl) (by kernel_rfl) hj (by rw [hjs]; decide) hsh (Nat.zero_lt_succ 1)]
  simp only [Result.andThen]
  rw [Oper.upon_value]
  go_wp2
  rw [run_callFunc_extern Tryz.func128 (by kernel_rfl) (by kernel_rfl) (by kernel_rfl) (e := Extern.AbiNoEscape.same) (by kernel_rfl)]
  rw [Lib.run_noEscape]
  simp only [Result.andThen]
  rw [Oper.upon_value]
  go_wp2
  rw [Lib.run_from_unsafe (u := 71) w ⟨b, 0, none⟩ (by kernel_rfl) (by kernel_rfl) hj hsh (by kernel_rfl)]
  simp only [Result.andThen]
  rw [Oper.upon_value]
  go_wp2
  go_end0
  exact ⟨rfl, rfl⟩

def SB : TypeId := 71
def U8 : TypeId := 5

set_option maxHeartbeats 2000000 in
set_option maxRecDepth 1000000 in
theorem string_some (b g cap n : Nat) (p : Value) (cur : Array Value) (l : List UInt8) (w : World) (h0 : l ≠ []) (hn : l.length = n) (hbk : Blk w b #[p, .slice (some ⟨g, 0, none⟩) n cap] SB)
    (hg : Blk w g cur U8) (hnc : n ≤ cap) (hcm : cap ≤ maxLen) (hcs : cur.size = cap) (hx : ∀ (j : Nat) (x : UInt8), l[j]? = some x → cur[j]? = some (.int .u8 x.toNat)) :
    Calls Tryz.prog 60 #[.pointer (some ⟨b, 0, none⟩)] w fun e w' => e = .returned (.string ⟨l.toArray⟩) ∧ w' = w.drew.freeze ⟨g, 0, none⟩ n := by
  obtain ⟨fbk, hbk, okbk⟩ := hbk
  obtain ⟨fg, hg, okg⟩ := hg
  subst hn
  have hl0 : l.length ≠ 0 := by simpa using h0
  have c1 : w.drew.cell? ⟨b, 1, none⟩ = some (.slice (some ⟨g, 0, none⟩) l.length cap) := by
    have : w.drew.heap[b]? = some (.cells #[p, .slice (some ⟨g, 0, none⟩) l.length cap] SB fbk) := hbk
    rw [Lib.cell_of_heap this]; rfl
  have hSD : (Builtin.unsafeSliceData_ #[69] 93 #[.slice (some ⟨g, 0, none⟩) l.length cap]).run Tryz.prog w.drew = .ok (.pointer (some ⟨g, 0, none⟩)) w.drew :=
    Lib.run_unsafeSliceData_row _ _ _ _ _ _ (by omega)
  have hUS : (Builtin.unsafeString_ #[93, 3] 9 #[.pointer (some ⟨g, 0, none⟩), .int .i64 l.length]).run Tryz.prog w.drew = .ok (.string ⟨l.toArray⟩) (w.drew.freeze ⟨g, 0, none⟩ l.length) := by
    refine Lib.run_unsafeString_row w.drew 93 3 9 5 (by kernel_rfl) (by kernel_rfl) g cur.size (by have hg' : w.drew.heap[g]? = some (.cells cur U8 fg) := hg; simp [World.shape?, hg', U8]) l h0 (by omega) (by unfold maxLen at hcm; omega) ?_
    intro j x hj
    have := hx j x hj
    have hg' : w.drew.heap[g]? = some (.cells cur U8 fg) := hg
    rw [show (⟨g, 0, none⟩ : Addr).add j = ⟨g, j, none⟩ from by unfold Addr.add; split <;> simp_all, Lib.cell_of_heap hg']; exact this
  go_enter Tryz.func60, Tryz.ntmps60
  go_wp2
  go_region
  all_goals (go_wp2; go_ret; exact ⟨rfl, rfl⟩)

set_option maxHeartbeats 2000000 in
set_option maxRecDepth 1000000 in
theorem string_nil (b : Nat) (p : Value) (w : World) (hbk : Blk w b #[p, .slice none 0 0] SB) :
    Calls Tryz.prog 60 #[.pointer (some ⟨b, 0, none⟩)] w fun e w' => e = .returned (.string ⟨#[]⟩) ∧ w' = w.drew := by
  obtain ⟨fbk, hbk, okbk⟩ := hbk
  have hUS : ∀ (W : World) (q : Option Addr), (Builtin.unsafeString_ #[93, 3] 9 #[.pointer q, .int .i64 0]).run Tryz.prog W = .ok (.string .empty) W := fun W q => Lib.run_unsafeString_none W _ _ _ q
  have c1 : w.drew.cell? ⟨b, 1, none⟩ = some (.slice none 0 0) := by
    have : w.drew.heap[b]? = some (.cells #[p, .slice none 0 0] SB fbk) := hbk
    rw [Lib.cell_of_heap this]; rfl
  have hSD : ∀ W : World, (Builtin.unsafeSliceData_ #[69] 93 #[.slice none 0 0]).run Tryz.prog W = .ok (.pointer none) W := fun W => rfl
  go_enter Tryz.func60, Tryz.ntmps60
  go_wp2
  go_region
  all_goals (go_wp2; go_ret; exact ⟨rfl, rfl⟩)

set_option maxHeartbeats 2000000 in
set_option maxRecDepth 1000000 in
theorem string_room (b g cap : Nat) (p : Value) (w : World) (hc0 : cap ≠ 0) (hbk : Blk w b #[p, .slice (some ⟨g, 0, none⟩) 0 cap] SB) :
    Calls Tryz.prog 60 #[.pointer (some ⟨b, 0, none⟩)] w fun e w' => e = .returned (.string ⟨#[]⟩) ∧ w' = w.drew := by
  obtain ⟨fbk, hbk, okbk⟩ := hbk
  have hUS : ∀ (W : World) (q : Option Addr), (Builtin.unsafeString_ #[93, 3] 9 #[.pointer q, .int .i64 0]).run Tryz.prog W = .ok (.string .empty) W := fun W q => Lib.run_unsafeString_none W _ _ _ q
  have c1 : w.drew.cell? ⟨b, 1, none⟩ = some (.slice (some ⟨g, 0, none⟩) 0 cap) := by
    have : w.drew.heap[b]? = some (.cells #[p, .slice (some ⟨g, 0, none⟩) 0 cap] SB fbk) := hbk
    rw [Lib.cell_of_heap this]; rfl
  have hSD : (Builtin.unsafeSliceData_ #[69] 93 #[.slice (some ⟨g, 0, none⟩) 0 cap]).run Tryz.prog w.drew = .ok (.pointer (some ⟨g, 0, none⟩)) w.drew :=
    Lib.run_unsafeSliceData_row _ _ _ _ _ _ hc0
  clear hc0
  go_enter Tryz.func60, Tryz.ntmps60
  go_wp2
  go_region
  all_goals (go_wp2; go_ret; exact ⟨rfl, rfl⟩)

set_option maxHeartbeats 2000000 in
set_option maxRecDepth 1000000 in
theorem string_noroom (b g : Nat) (p : Value) (cur : Array Value) (w : World) (hbk : Blk w b #[p, .slice (some ⟨g, 0, none⟩) 0 0] SB) (hg : Blk w g cur U8) :
    Calls Tryz.prog 60 #[.pointer (some ⟨b, 0, none⟩)] w fun e w' => e = .returned (.string ⟨#[]⟩) ∧ w' = (w.alloc (.view ⟨g, 0, none⟩ U8)).drew := by
  obtain ⟨fbk, hbk, okbk⟩ := hbk
  obtain ⟨fg, hg, okg⟩ := hg
  have hUS : ∀ (W : World) (q : Option Addr), (Builtin.unsafeString_ #[93, 3] 9 #[.pointer q, .int .i64 0]).run Tryz.prog W = .ok (.string .empty) W := fun W q => Lib.run_unsafeString_none W _ _ _ q
  have hlt : b < w.heap.size := by
    rcases Nat.lt_or_ge b w.heap.size with h' | h'
    · exact h'
    · simp [Array.getElem?_eq_none h'] at hbk
  have c1 : w.drew.cell? ⟨b, 1, none⟩ = some (.slice (some ⟨g, 0, none⟩) 0 0) := by
    have : w.drew.heap[b]? = some (.cells #[p, .slice (some ⟨g, 0, none⟩) 0 0] SB fbk) := hbk
    rw [Lib.cell_of_heap this]; rfl
  have hSD : (Builtin.unsafeSliceData_ #[69] 93 #[.slice (some ⟨g, 0, none⟩) 0 0]).run Tryz.prog w.drew = .ok (.pointer (some ⟨w.drew.heap.size, 0, none⟩)) (w.drew.alloc (.view ⟨g, 0, none⟩ 5)) :=
    Lib.run_unsafeSliceData_zero w.drew _ _ 5 (by kernel_rfl) ⟨g, 0, none⟩ 0 (5, cur.size) (by have hg' : w.drew.heap[g]? = some (.cells cur U8 fg) := hg; simp [World.shape?, hg', U8])
  have c2 : (w.drew.alloc (.view ⟨g, 0, none⟩ 5)).cell? ⟨b, 1, none⟩ = some (.slice (some ⟨g, 0, none⟩) 0 0) := by
    have : (w.drew.alloc (.view ⟨g, 0, none⟩ 5)).heap[b]? = _ := (Lib.alloc_old w.drew _ b hlt).trans hbk
    rw [Lib.cell_of_heap this]; rfl
  have c3 : (w.alloc (.view ⟨g, 0, none⟩ 5)).drew.cell? ⟨b, 1, none⟩ = some (.slice (some ⟨g, 0, none⟩) 0 0) := c2
  have c0 : w.cell? ⟨b, 1, none⟩ = some (.slice (some ⟨g, 0, none⟩) 0 0) := c1
  clear hlt
  go_enter Tryz.func60, Tryz.ntmps60
  go_wp2
  go_region
  all_goals (go_wp2; go_ret; exact ⟨rfl, rfl⟩)

end Go.Proofs.Tryz.Ai
end
section
/- The table's entries for strings.Builder. -/
namespace Go.Proofs.Tryz.Ai
open Go Go.AI Go.RowKit Go.Proofs
set_option linter.unusedVariables false

def copyCheckT : List AV → List (List AV) → Option (AV × List (List AV))
  | [.gp b 0 (some (t, 2))], s => if t = SB then (match s[b]? with
      | some [.nilp, u] => some (.tup [], s.set b [.gp b 0 (some (SB, 2)), u])
      | some [.gp b' 0 _, u] => if b' = b then some (.tup [], s) else none
      | _ => none) else none
  | _, _ => none

theorem one_arg {B : Nat} {T0 : Nat → Prop} {μ0 : Gh} {w0 : World} {N : Nat} {μ : Gh} {lx : Nat → Option Nat} {w : World} {vs : Array Value} {x : AV} {s : List (List AV)} (hsz : vs.size = 1) : ∃ v, vs = #[v] ∧ vs.getD 0 undef = v := by
  obtain ⟨l⟩ := vs
  match l, hsz with
  | [v], _ => exact ⟨v, rfl, rfl⟩

theorem copyCheck_ok {B : Nat} {W0 : World} {xs : List AV} {s : List (List AV)} {r : AV} {s' : List (List AV)} (e : copyCheckT xs s = some (r, s')) : ACalls Tryz.prog B W0 107 xs s r s' := by
  unfold copyCheckT at e
  split at e
  · rename_i b tt
    split at e
    · rename_i ht
      subst ht
      intro T μ w vs hsz hW hs
      split at e
      · rename_i u hb
        simp only [Option.some.injEq, Prod.mk.injEq] at e
        obtain ⟨rfl, rfl⟩ := e
        obtain ⟨blk, cur, ty, h1, h2, h3, h4, h5, h6, h7⟩ := hs.gp_open (i := 0) (b := b) (off := 0) (sh := some (SB, 2)) (by simp [params, look]) hb (by simp)
        have h8 := h7 _ rfl
        simp only [Prod.mk.injEq] at h8
        obtain ⟨rfl, h8⟩ := h8
        obtain ⟨v, rfl, hv⟩ := one_arg (B := B) (T0 := T) (μ0 := μ) (w0 := w) (N := 1) (μ := μ) (lx := fun _ => none) (w := w) (x := .nilp) (s := []) hsz
        have hv0 : v = .pointer (some ⟨blk, 0, none⟩) := h1
        subst hv0
        have hc0 : cur[0]? = some (.pointer none) := by
          have := (h6 0 .nilp rfl).2.1
          have hq : cur[0]? = some (cur.getD 0 undef) := by simp [Array.getD_eq_getD_getElem?, h8]
          rw [hq]; congr 1
          generalize cur.getD 0 undef = z at this
          cases this; rfl
        refine (copyCheck_fresh blk w (by rw [h3.cell]; exact hc0) (by simp [h3.shape, h8, SB]) (h3.frozen (by omega))).mono ?_
        rintro e w' ⟨rfl, rfl⟩
        have h9 := hs.setGlobCell (j := 0) (c := .gp b 0 (some (SB, 2))) (v := .pointer (some ⟨blk, 0, none⟩)) hb h2 h3 (by simp) (.mk' ⟨.gp _ _ _ _ h2 (fun q e => by injection e with e; subst e; simp [h3.shape, h8]), trivial⟩ fun j => by cases j <;> rfl) rfl
        exact ⟨_, _, rfl, h9.unit⟩
      · rename_i b' sh u hb
        split at e
        · rename_i hbb
          obtain rfl : b = b' := hbb.symm
          simp only [Option.some.injEq, Prod.mk.injEq] at e
          obtain ⟨rfl, rfl⟩ := e
          obtain ⟨blk, cur, ty, h1, h2, h3, h4, h5, h6, h7⟩ := hs.gp_open (i := 0) (b := b) (off := 0) (sh := some (SB, 2)) (by simp [params, look]) hb (by simp)
          have h8 := h7 _ rfl
          simp only [Prod.mk.injEq] at h8
          obtain ⟨rfl, h8⟩ := h8
          obtain ⟨v, rfl, hv⟩ := one_arg (B := B) (T0 := T) (μ0 := μ) (w0 := w) (N := 1) (μ := μ) (lx := fun _ => none) (w := w) (x := .nilp) (s := []) hsz
          have hv0 : v = .pointer (some ⟨blk, 0, none⟩) := h1
          subst hv0
          have hc0 : cur[0]? = some (.pointer (some ⟨blk, 0, none⟩)) := by
            have := (h6 0 _ rfl).2.1
            have hq : cur[0]? = some (cur.getD 0 undef) := by simp [Array.getD_eq_getD_getElem?, h8]
            rw [hq]; congr 1
            generalize cur.getD 0 undef = z at this
            cases this with
            | gp _ _ blk' _ hq' _ => rw [h2] at hq'; injection hq' with hq'; rw [hq']
          refine (copyCheck_used blk w (by rw [h3.cell]; exact hc0)).mono ?_
          rintro e w' ⟨rfl, rfl⟩
          exact ⟨_, _, rfl, hs.unit⟩
        · cases e
      · cases e
    · cases e
  · cases e

theorem bytesOf_u8 (l : List UInt8) : bytesOf (l.map .u8) = some l := by
  induction l with
  | nil => rfl
  | cons b r ih => simp [bytesOf, AV.u8, ih, bnd]

noncomputable def stringT : List AV → List (List AV) → Option (AV × List (List AV))
  | [.gp b 0 (some (t, 2))], s => if t = SB then (match s[b]? with
      | some [u, .sl (.ex ty 1) xs] => if ty = U8 then bnd (bytesOf xs) fun l => need (xs = l.map .u8) (some (.str l, s.set b [u, .sl .sh xs])) else none
      | some [u, .sl .nil []] => some (.str [], s)
      | _ => none) else none
  | _, _ => none

theorem string_ok {B : Nat} {W0 : World} {xs : List AV} {s : List (List AV)} {r : AV} {s' : List (List AV)} (e : stringT xs s = some (r, s')) : ACalls Tryz.prog B W0 60 xs s r s' := by
  unfold stringT at e
  split at e
  · rename_i b tt
    split at e
    · rename_i ht
      subst ht
      intro T μ w vs hsz hW hs
      split at e
      · rename_i u ty2 xs hb
        split at e
        rotate_left
        · cases e
        rename_i hty
        subst hty
        obtain ⟨l, hl, e⟩ := bnd_eq e
        obtain ⟨hxs, e⟩ := need_eq e
        simp only [Option.some.injEq, Prod.mk.injEq] at e
        obtain ⟨rfl, rfl⟩ := e
        obtain ⟨blk, cur, ty, h1, h2, h3, h4, h5, h6, h7⟩ := hs.gp_open (i := 0) (b := b) (off := 0) (sh := some (SB, 2)) (by simp [params, look]) hb (by simp)
        have h8 := h7 _ rfl
        simp only [Prod.mk.injEq] at h8
        obtain ⟨rfl, h8⟩ := h8
        obtain ⟨v, rfl, hv⟩ := one_arg (B := B) (T0 := T) (μ0 := μ) (w0 := w) (N := 1) (μ := μ) (lx := fun _ => none) (w := w) (x := .nilp) (s := []) hsz
        have hv0 : v = .pointer (some ⟨blk, 0, none⟩) := h1
        subst hv0
        obtain ⟨p, q, rfl⟩ : ∃ p q, cur = #[p, q] := by
          obtain ⟨l⟩ := cur
          match l, h8 with
          | [p, q], _ => exact ⟨p, q, rfl⟩
        have k1 := h6 1 _ rfl
        have kr : Rep B μ w q (.sl (.ex U8 1) xs) := k1.2.1
        have kt : Tk1 B μ w q (.sl (.ex U8 1) xs) := k1.2.2
        have hq1 : hs = hs := rfl
        have hqc := hs.quietCell hb (j := 1) rfl
        have hown : own ⟨#[.pointer (some ⟨blk, 0, none⟩)], []⟩ (fun _ => none) μ w ⟨params 0 [.gp b 0 (some (SB, 2))], [], s⟩ (.gc b 1) = exBlk q (.sl (.ex U8 1) xs) := by
          simp [own, ownB, hb, h2, h3.cell]
        rcases kt with hn | ⟨g, cap, cur, rfl, hB, hg, c1, c2, c3, c4, c5, c6⟩
        · subst hn
          have hx : xs = [] := by cases kr <;> rfl
          subst hx
          injection hl with hl; subst hl
          refine (string_nil blk p w h3).mono ?_
          rintro e w' ⟨rfl, rfl⟩
          exact ⟨_, _, rfl, hqc.drew.1.text []⟩
        · have hfree : ∀ l, own ⟨#[.pointer (some ⟨blk, 0, none⟩)], []⟩ (fun _ => none) μ w ⟨params 0 [.gp b 0 (some (SB, 2))], [], s.set b [u, .sl .sh xs]⟩ l ≠ some g := by
            intro l e
            have hle : Le ⟨params 0 [.gp b 0 (some (SB, 2))], [], s.set b [u, .sl .sh xs]⟩ ⟨params 0 [.gp b 0 (some (SB, 2))], [], s⟩ := by
              have hb' : b < s.length := (List.getElem?_eq_some_iff.1 hb).1
              refine ⟨fun i v e => ⟨v, e, .inl rfl⟩, fun d cs e => ⟨cs, e, CLe.refl _⟩, fun b' cs' e => ?_, by simp, id⟩
              simp only [List.getElem?_set] at e
              by_cases q : b = b'
              · subst q
                simp [hb'] at e; subst e
                refine ⟨_, hb, rfl, fun j' c' e => ?_⟩
                match j', e with
                | 0, e => exact ⟨_, rfl, .inl (by simpa using e.symm)⟩
                | 1, e => exact ⟨_, rfl, .inr (by simpa [dem1] using e.symm)⟩
              · rw [if_neg q] at e; exact ⟨cs', e, CLe.refl _⟩
            have e1 := own_le hle e
            have := hs.inj l (.gc b 1) g e1 (by rw [hown]; rfl)
            subst this
            have hb' : b < s.length := (List.getElem?_eq_some_iff.1 hb).1
            simp [own, ownB, List.getElem?_set, hb', h2, h3.cell, exBlk] at e
          have hr := hs.rng (.gc b 1) g (by rw [hown]; rfl)
          have hqc' : Sim B T μ w 1 μ (fun _ => none) ⟨#[.pointer (some ⟨blk, 0, none⟩)], []⟩ w ⟨params 0 [.gp b 0 (some (SB, 2))], [], s.set b [u, .sl .sh xs]⟩ := hqc
          by_cases hx : xs = []
          · subst hx
            injection hl with hl; subst hl
            by_cases hc0 : cap = 0
            · subst hc0
              refine (string_noroom blk g p cur w h3 hg).mono ?_
              rintro e w' ⟨rfl, rfl⟩
              exact ⟨_, _, rfl, (hqc'.alloc _).drew.1.text []⟩
            · refine (string_room blk g cap p w hc0 h3).mono ?_
              rintro e w' ⟨rfl, rfl⟩
              exact ⟨_, _, rfl, hqc'.drew.1.text []⟩
          · have hl0 : l ≠ [] := fun e => by subst e; exact hx hxs
            have hll : l.length = xs.length := by rw [hxs]; simp
            obtain ⟨ad, cap', he, _, _, _, k4⟩ := sl_inv kr
            obtain ⟨b', off', sz', f, had, hsz', hall', hcell, hrep⟩ := k4 hx
            injection he with he1 he2 he3
            rw [had] at he1
            injection he1 with he1
            injection he1 with e1 e2
            subst e1; subst e2
            have hsz1 : sz' = 1 := by
              obtain ⟨x0, hx0⟩ := List.exists_mem_of_ne_nil xs hx
              rw [← (hall' x0 hx0).1]; exact (c5 x0 hx0).1
            subst hsz1
            refine (string_some blk g cap xs.length p cur l w hl0 hll h3 hg c1 c2 (by omega) (fun j x hj => ?_)).mono ?_
            · have hjl : j < l.length := (List.getElem?_eq_some_iff.1 hj).1
              have hxj : xs[j]? = some (.u8 x) := by rw [hxs]; simp [hj]
              have h10 := (hcell j (by omega)).1
              have h11 := hrep j 0 (.u8 x) (by rw [hxj]; rfl)
              rw [Nat.zero_add, cell_box hg] at h10
              rw [h10]; congr 1
              simp only [Nat.mul_one, Nat.add_zero] at h11
              generalize f j = z at h11
              cases h11; rfl
            · rintro e w' ⟨rfl, rfl⟩
              have h12 := hqc'.drew
              exact ⟨_, _, rfl, (h12.1.freeze (g := g) (n := xs.length) (fun l e => hfree l (by rw [← h12.2]; exact e)) hB hr.2.2).text l⟩
      · rename_i u hb
        simp only [Option.some.injEq, Prod.mk.injEq] at e
        obtain ⟨rfl, rfl⟩ := e
        obtain ⟨blk, cur, ty, h1, h2, h3, h4, h5, h6, h7⟩ := hs.gp_open (i := 0) (b := b) (off := 0) (sh := some (SB, 2)) (by simp [params, look]) hb (by simp)
        have h8 := h7 _ rfl
        simp only [Prod.mk.injEq] at h8
        obtain ⟨rfl, h8⟩ := h8
        obtain ⟨v, rfl, hv⟩ := one_arg (B := B) (T0 := T) (μ0 := μ) (w0 := w) (N := 1) (μ := μ) (lx := fun _ => none) (w := w) (x := .nilp) (s := []) hsz
        have hv0 : v = .pointer (some ⟨blk, 0, none⟩) := h1
        subst hv0
        obtain ⟨p, q, rfl⟩ : ∃ p q, cur = #[p, q] := by
          obtain ⟨l⟩ := cur
          match l, h8 with
          | [p, q], _ => exact ⟨p, q, rfl⟩
        have kr : Rep B μ w q (.sl .nil []) := (h6 1 _ rfl).2.1
        obtain ⟨rfl, _⟩ := kr.nil_val
        refine (string_nil blk p w h3).mono ?_
        rintro e w' ⟨rfl, rfl⟩
        exact ⟨_, _, rfl, hs.drew.1.text []⟩
      · cases e
    · cases e
  · cases e


end Go.Proofs.Tryz.Ai
end
section
/- Texts by the machine's own words: a byte's place, a byte's number, the order. -/
namespace Go.Proofs.Tryz.Ai
open Go Go.AI Go.RowKit Go.Proofs
set_option linter.unusedVariables false

set_option maxHeartbeats 1000000 in
set_option maxRecDepth 100000 in
theorem walk_index (s : ByteArray) (c : Int) (w : World) :
    Calls Tryz.prog 130 #[.string s, .int .u8 c] w fun e w' => e = .returned (.int .i64 (Lib.indexByte s.data.toList c.toNat.toUInt8)) ∧ w' = w := by
  go_enter Tryz.func130, Tryz.ntmps130
  go_wp2
  rw [run_callFunc_extern Tryz.func143 (by kernel_rfl) (by kernel_rfl) (by kernel_rfl) (e := Extern.BytealgIndexByte.indexByte) (by kernel_rfl), Lib.run_indexByteString]
  simp only [Result.andThen]
  rw [Oper.upon_value]
  go_wp2
  go_ret
  exact ⟨rfl, rfl⟩

set_option maxHeartbeats 1000000 in
set_option maxRecDepth 100000 in
theorem walk_compare (a b : ByteArray) (w : World) :
    Calls Tryz.prog 103 #[.string a, .string b] w fun e w' => e = .returned (.int .i64 (Lib.compareBytes a.data.toList b.data.toList)) ∧ w' = w := by
  go_enter Tryz.func103, Tryz.ntmps103
  go_wp2
  rw [run_callFunc_extern Tryz.func127 (by kernel_rfl) (by kernel_rfl) (by kernel_rfl) (e := Extern.BytealgCompare.compare) (by kernel_rfl), Lib.run_compareString]
  simp only [Result.andThen]
  rw [Oper.upon_value]
  go_wp2
  go_ret
  exact ⟨rfl, rfl⟩

set_option maxHeartbeats 1000000 in
set_option maxRecDepth 100000 in
theorem walk_count (s : ByteArray) (c : UInt8) (w : World) :
    Calls Tryz.prog 139 #[.string s, .string ⟨#[c]⟩] w fun e w' => e = .returned (.int .i64 (Lib.countByte s.data.toList c)) ∧ w' = w := by
  go_enter Tryz.func139, Tryz.ntmps139
  go_wp2
  rw [run_callFunc_extern Tryz.func159 (by kernel_rfl) (by kernel_rfl) (by kernel_rfl) (e := Extern.BytealgCount.count) (by kernel_rfl), Lib.run_countString]
  simp only [Result.andThen]
  rw [Oper.upon_value]
  go_wp2
  go_ret
  exact ⟨rfl, rfl⟩

section
variable {B : Nat} {W0 : World} {T0 : Nat → Prop} {μ0 : Gh} {w0 : World} {N : Nat} {μ : Gh} {lx : Nat → Option Nat} {a : Act} {w : World} {st : St}
theorem sim_num (h : Sim B T0 μ0 w0 N μ lx a w st) (k : IntKind) (n : Int) : Sim B T0 μ0 w0 1 μ (fun _ => none) ⟨#[.int k n], []⟩ w ⟨[(0, .int k n)], [], st.s⟩ :=
  h.out (.mk' ⟨.int k n, trivial⟩ fun j => by cases j <;> simp [ownV, exBlk]) fun d i q => by cases q
theorem two_args {vs : Array Value} (h : vs.size = 2) : ∃ u v, vs = #[u, v] := by
  obtain ⟨l⟩ := vs
  match l, h with
  | [u, v], _ => exact ⟨u, v, rfl⟩
theorem rep_str {v : Value} {l : List UInt8} (h : Rep B μ w v (.str l)) : ∃ s : ByteArray, v = .string s ∧ s.data.toList = l := by
  cases h with
  | str s => exact ⟨s, rfl, rfl⟩
theorem rep_int {v : Value} {k : IntKind} {n : Int} (h : Rep B μ w v (.int k n)) : v = .int k n := by
  cases h; rfl
end

def indexT : List AV → List (List AV) → Option (AV × List (List AV))
  | [.str l, .int .u8 c], s => some (.int .i64 (Lib.indexByte l c.toNat.toUInt8), s)
  | _, _ => none
theorem index_ok {B : Nat} {W0 : World} {xs : List AV} {s : List (List AV)} {r : AV} {s' : List (List AV)} (e : indexT xs s = some (r, s')) : ACalls Tryz.prog B W0 130 xs s r s' := by
  unfold indexT at e
  split at e
  · rename_i l c
    simp only [Option.some.injEq, Prod.mk.injEq] at e
    obtain ⟨rfl, rfl⟩ := e
    intro T μ w vs hsz hW hs
    obtain ⟨u, v, rfl⟩ := two_args (vs := vs) hsz
    obtain ⟨st, rfl, rfl⟩ := rep_str (hs.tmp 0 (.str l) (by simp [params, look])).1
    obtain rfl := rep_int (hs.tmp 1 (.int .u8 c) (by simp [params, look])).1
    refine (walk_index st c w).mono ?_
    rintro e w' ⟨rfl, rfl⟩
    exact ⟨_, _, rfl, sim_num hs _ _⟩
  · cases e
def compareT : List AV → List (List AV) → Option (AV × List (List AV))
  | [.str l, .str m], s => some (.int .i64 (Lib.compareBytes l m), s)
  | _, _ => none
theorem compare_ok {B : Nat} {W0 : World} {xs : List AV} {s : List (List AV)} {r : AV} {s' : List (List AV)} (e : compareT xs s = some (r, s')) : ACalls Tryz.prog B W0 103 xs s r s' := by
  unfold compareT at e
  split at e
  · rename_i l c
    simp only [Option.some.injEq, Prod.mk.injEq] at e
    obtain ⟨rfl, rfl⟩ := e
    intro T μ w vs hsz hW hs
    obtain ⟨u, v, rfl⟩ := two_args (vs := vs) hsz
    obtain ⟨st, rfl, rfl⟩ := rep_str (hs.tmp 0 (.str l) (by simp [params, look])).1
    obtain ⟨st2, rfl, rfl⟩ := rep_str (hs.tmp 1 (.str c) (by simp [params, look])).1
    refine (walk_compare st st2 w).mono ?_
    rintro e w' ⟨rfl, rfl⟩
    exact ⟨_, _, rfl, sim_num hs _ _⟩
  · cases e
def countT : List AV → List (List AV) → Option (AV × List (List AV))
  | [.str l, .str [c]], s => some (.int .i64 (Lib.countByte l c), s)
  | _, _ => none
theorem count_ok {B : Nat} {W0 : World} {xs : List AV} {s : List (List AV)} {r : AV} {s' : List (List AV)} (e : countT xs s = some (r, s')) : ACalls Tryz.prog B W0 139 xs s r s' := by
  unfold countT at e
  split at e
  · rename_i l c
    simp only [Option.some.injEq, Prod.mk.injEq] at e
    obtain ⟨rfl, rfl⟩ := e
    intro T μ w vs hsz hW hs
    obtain ⟨u, v, rfl⟩ := two_args (vs := vs) hsz
    obtain ⟨st, rfl, rfl⟩ := rep_str (hs.tmp 0 (.str l) (by simp [params, look])).1
    obtain ⟨⟨⟨p⟩⟩, rfl, hp⟩ := rep_str (hs.tmp 1 (.str [c]) (by simp [params, look])).1
    simp only at hp
    subst hp
    refine (walk_count st c w).mono ?_
    rintro e w' ⟨rfl, rfl⟩
    exact ⟨_, _, rfl, sim_num hs _ _⟩
  · cases e
end Go.Proofs.Tryz.Ai
end
section
/- The digits of a number: by the laid table of powers. -/
namespace Go.Proofs.Tryz.Ai
open Go Go.AI Go.RowKit Go.Proofs Go.Shelf
set_option linter.unusedVariables false
def ren : Go.Shelf.Ren := ⟨fun | 129 => 165 | 171 => 87 | 243 => 121 | 246 => 134 | 283 => 149 | 284 => 150 | 285 => 151 | 286 => 152 | 317 => 164 | 318 => 166 | 319 => 167 | 320 => 168 | 337 => 174 | 338 => 175 | n => n, fun | 0 => 0 | 2 => 2 | 3 => 3 | 4 => 4 | 5 => 5 | 9 => 9 | 20 => 20 | 37 => 69 | 46 => 113 | 51 => 104 | 53 => 121 | 171 => 120 | 173 => 124 | 212 => 138 | 213 => 139 | 232 => 150 | 233 => 151 | n => n, fun | 17 => 3 | 18 => 6 | 19 => 7 | n => n⟩
theorem lays_LaysM_n171 : LaysM.n171 Tryz.prog ren := { mixed := by kernel_rfl, f129 := by kernel_rfl, f171 := by kernel_rfl, f243 := by kernel_rfl, f246 := by kernel_rfl, f283 := by kernel_rfl, f284 := by kernel_rfl, f285 := by kernel_rfl, f286 := by kernel_rfl, f317 := by kernel_rfl, f318 := by kernel_rfl, f319 := by kernel_rfl, f320 := by kernel_rfl, f337 := by kernel_rfl, f338 := by kernel_rfl, t0 := Tryz.underlying0, a0 := Tryz.isAgg0, z0 := Tryz.sizeOf0, v0 := Tryz.zeroValue0, t2 := Tryz.underlying2, a2 := Tryz.isAgg2, z2 := Tryz.sizeOf2, v2 := Tryz.zeroValue2, t3 := Tryz.underlying3, a3 := Tryz.isAgg3, z3 := Tryz.sizeOf3, v3 := Tryz.zeroValue3, t4 := Tryz.underlying4, a4 := Tryz.isAgg4, z4 := Tryz.sizeOf4, v4 := Tryz.zeroValue4, t5 := Tryz.underlying5, a5 := Tryz.isAgg5, z5 := Tryz.sizeOf5, v5 := Tryz.zeroValue5, t9 := Tryz.underlying9, a9 := Tryz.isAgg9, z9 := Tryz.sizeOf9, v9 := Tryz.zeroValue9, t20 := Tryz.underlying20, a20 := Tryz.isAgg20, z20 := Tryz.sizeOf20, v20 := Tryz.zeroValue20, t37 := Tryz.underlying69, a37 := Tryz.isAgg69, z37 := Tryz.sizeOf69, v37 := Tryz.zeroValue69, t46 := Tryz.underlying113, a46 := Tryz.isAgg113, z46 := Tryz.sizeOf113, v46 := Tryz.zeroValue113, t51 := Tryz.underlying104, a51 := Tryz.isAgg104, z51 := Tryz.sizeOf104, v51 := Tryz.zeroValue104, t53 := Tryz.underlying121, a53 := Tryz.isAgg121, z53 := Tryz.sizeOf121, v53 := Tryz.zeroValue121, t171 := Tryz.underlying120, a171 := Tryz.isAgg120, z171 := Tryz.sizeOf120, v171 := Tryz.zeroValue120, t173 := Tryz.underlying124, a173 := Tryz.isAgg124, z173 := Tryz.sizeOf124, v173 := Tryz.zeroValue124, t212 := Tryz.underlying138, a212 := Tryz.isAgg138, z212 := Tryz.sizeOf138, v212 := Tryz.zeroValue138, t213 := Tryz.underlying139, a213 := Tryz.isAgg139, z213 := Tryz.sizeOf139, t232 := Tryz.underlying150, a232 := Tryz.isAgg150, z232 := Tryz.sizeOf150, v232 := Tryz.zeroValue150, t233 := Tryz.underlying151, a233 := Tryz.isAgg151, z233 := Tryz.sizeOf151, v233 := Tryz.zeroValue151, g17 := by kernel_rfl, g18 := by kernel_rfl, g19 := by kernel_rfl, i0 := by kernel_rfl, i2 := by kernel_rfl, i3 := by kernel_rfl, i4 := by kernel_rfl, i5 := by kernel_rfl, i9 := by kernel_rfl, i20 := by kernel_rfl, i37 := by kernel_rfl, i46 := by kernel_rfl, i51 := by kernel_rfl, i53 := by kernel_rfl, i171 := by kernel_rfl, i173 := by kernel_rfl, i212 := by kernel_rfl, i232 := by kernel_rfl, i233 := by kernel_rfl, m17 := by kernel_rfl, m18 := by kernel_rfl, m19 := by kernel_rfl }

def Laid (W : World) : Prop := Lib.TabIs Tryz.prog W "internal/strconv.uint64pow10" .u64 Lib.pow10Tab
section
variable {B : Nat} {T0 : Nat → Prop} {μ0 : Gh} {w0 : World} {N : Nat} {μ : Gh} {lx : Nat → Option Nat} {a : Act} {w : World} {st : St}
theorem sim_drewN (h : Sim B T0 μ0 w0 N μ lx a w st) (k : Nat) : Sim B T0 μ0 w0 N μ lx a (w.drewN k) st := by
  induction k with
  | zero => exact h
  | succ k ih => exact ih.drew.1
theorem sim_grow (os : List Obj) : ∀ {w : World}, Sim B T0 μ0 w0 N μ lx a w st → Sim B T0 μ0 w0 N μ lx a (Go.Sort.grow w os.toArray) st := by
  induction os with
  | nil => exact fun h => by simpa using h
  | cons o r ih =>
    intro w h
    have := ih (h.alloc o)
    rw [Go.Sort.alloc_eq_grow, Go.Sort.grow_grow] at this
    simpa using this
end
noncomputable def itoaT : List AV → List (List AV) → Option (AV × List (List AV))
  | [.int .i64 n], s => need (-9223372036854775808 ≤ n ∧ n ≤ 9223372036854775807) (some (.str (Lib.itoa n), s))
  | _, _ => none
theorem itoa_ok {W0 : World} (hl : Laid W0) {xs : List AV} {s : List (List AV)} {r : AV} {s' : List (List AV)} (e : itoaT xs s = some (r, s')) : ACalls Tryz.prog W0.heap.size W0 87 xs s r s' := by
  unfold itoaT at e
  split at e
  · rename_i n
    obtain ⟨hn, e⟩ := need_eq e
    simp only [Option.some.injEq, Prod.mk.injEq] at e
    obtain ⟨rfl, rfl⟩ := e
    intro T μ w vs hsz hW hs
    obtain ⟨v, rfl, _⟩ := one_arg (B := 0) (T0 := T) (μ0 := μ) (w0 := w) (N := 1) (μ := μ) (lx := fun _ => none) (w := w) (x := .nilp) (s := []) hsz
    obtain rfl := rep_int (hs.tmp 0 (.int .i64 n) (by simp [params, look])).1
    have hw : Laid w := Lib.tabBelow_of_tabIs hl w hW
    refine (Any.strconv_Itoa lays_LaysM_n171 n hn.1 hn.2 w hw).mono ?_
    rintro e w' ⟨rfl, k, os, rfl⟩
    exact ⟨_, _, rfl, by have := (sim_grow os.toList (sim_drewN hs k)).text (Lib.itoa n); simpa using this⟩
  · cases e
end Go.Proofs.Tryz.Ai
end
section
/- The table of this seat: the functions that are not evaluated by their own code. -/
namespace Go.Proofs.Tryz.Ai
open Go Go.AI Go.RowKit Go.Proofs
set_option linter.unusedVariables false

noncomputable def T : Table
  | 107 => some copyCheckT
  | 60 => some stringT
  | 130 => some indexT
  | 103 => some compareT
  | 139 => some countT
  | 87 => some itoaT
  | _ => none

theorem enters_copyCheck : AI.Enters Tryz.prog 107 := ⟨_, Tryz.func107, by kernel_rfl, by kernel_rfl⟩
theorem enters_String : AI.Enters Tryz.prog 60 := ⟨_, Tryz.func60, by kernel_rfl, by kernel_rfl⟩
theorem enters_index : AI.Enters Tryz.prog 130 := ⟨_, Tryz.func130, by kernel_rfl, by kernel_rfl⟩
theorem enters_compare : AI.Enters Tryz.prog 103 := ⟨_, Tryz.func103, by kernel_rfl, by kernel_rfl⟩
theorem enters_count : AI.Enters Tryz.prog 139 := ⟨_, Tryz.func139, by kernel_rfl, by kernel_rfl⟩
theorem enters_Itoa : AI.Enters Tryz.prog 87 := ⟨_, Tryz.func87, by kernel_rfl, by kernel_rfl⟩

theorem T_ok {W0 : World} (hl : Laid W0) : TableOk Tryz.prog W0.heap.size W0 T := by
  intro f p hf xs s r s' e
  unfold T at hf
  split at hf
  · injection hf with hf; subst hf; exact ⟨enters_copyCheck, copyCheck_ok e⟩
  · injection hf with hf; subst hf; exact ⟨enters_String, string_ok e⟩
  · injection hf with hf; subst hf; exact ⟨enters_index, index_ok e⟩
  · injection hf with hf; subst hf; exact ⟨enters_compare, compare_ok e⟩
  · injection hf with hf; subst hf; exact ⟨enters_count, count_ok e⟩
  · injection hf with hf; subst hf; exact ⟨enters_Itoa, itoa_ok hl e⟩
  · cases hf

noncomputable abbrev ev : Oracle := EV Tryz.prog H T

theorem ev_copyCheck (xs : List AV) (s : List (List AV)) : ev 107 xs s = copyCheckT xs s := EV_table rfl xs s
theorem ev_String (xs : List AV) (s : List (List AV)) : ev 60 xs s = stringT xs s := EV_table rfl xs s
theorem ev_index (xs : List AV) (s : List (List AV)) : ev 130 xs s = indexT xs s := EV_table rfl xs s
theorem ev_compare (xs : List AV) (s : List (List AV)) : ev 103 xs s = compareT xs s := EV_table rfl xs s
theorem ev_count (xs : List AV) (s : List (List AV)) : ev 139 xs s = countT xs s := EV_table rfl xs s
theorem ev_Itoa (xs : List AV) (s : List (List AV)) : ev 87 xs s = itoaT xs s := EV_table rfl xs s
end Go.Proofs.Tryz.Ai
end
section
/- strings.Builder, walked over its table entries. -/
namespace Go.Proofs.Tryz.Ai
open Go Go.AI Go.Proofs
set_option maxHeartbeats 1000000
set_option linter.unusedVariables false

/-- a Builder's box: fresh, or with a text -/
def bc (b : Nat) : Option (List UInt8) → List AV
  | none => [.nilp, .sl .nil []]
  | some l => [.gp b 0 (some (SB, 2)), .sl (.ex U8 1) (l.map .u8)]
/-- after its text was taken -/
def bs (b : Nat) : Option (List UInt8) → List AV
  | none => [.nilp, .sl .nil []]
  | some l => [.gp b 0 (some (SB, 2)), .sl .sh (l.map .u8)]
def txt (o : Option (List UInt8)) : List UInt8 := o.getD []
@[simp] theorem txt_some (l : List UInt8) : txt (some l) = l := rfl
@[simp] theorem txt_none : txt none = [] := rfl
@[simp] theorem bc_lowL (b : Nat) (o : Option (List UInt8)) (n : Nat) : lowL n (bc b o) ↔ o = none ∨ b < n := by cases o <;> simp [bc]
@[simp] theorem bs_lowL (b : Nat) (o : Option (List UInt8)) (n : Nat) : lowL n (bs b o) ↔ o = none ∨ b < n := by cases o <;> simp [bs]

theorem one_most : 1 ≤ most := by unfold most; omega

theorem WriteByte_b (b : Nat) (σ : List (List AV)) (o : Option (List UInt8)) (hl : (txt o).length + 1 ≤ most) (c : UInt8) (hb : σ[b]? = some (bc b o)) :
    ev 59 [.gp b 0 (some (SB, 2)), .u8 c] σ = some (.nili, σ.set b (bc b (some (txt o ++ [c])))) := by
  have hlt : b < σ.length := (List.getElem?_eq_some_iff.1 hb).1
  have h1 := one_most
  refine EV_post rfl Tryz.func59 rfl (by simp [Tryz.ntmps59]) (by kernel_rfl) (by kernel_rfl) ?_
  cases o with
  | none =>
    simp only [bc] at hb ⊢
    simp (maxSteps := 4000000) (disch := omega) [dT, dF, wrap64, -getElem?_pos, List.getElem?_cons_zero, List.getElem?_cons_succ, List.getElem?_set, ev_copyCheck, copyCheckT, hb, hlt, Tryz.results59, h1, SB, U8]
  | some l =>
    simp only [bc, txt_some] at hb hl ⊢
    simp (maxSteps := 4000000) (disch := omega) [dT, dF, wrap64, -getElem?_pos, List.getElem?_cons_zero, List.getElem?_cons_succ, List.getElem?_set, ev_copyCheck, copyCheckT, hb, hlt, Tryz.results59, hl, SB, U8]
theorem WriteByte_eq (σ τ : List (List AV)) (o : Option (List UInt8)) (hl : (txt o).length + 1 ≤ most) (c : UInt8) :
    ev 59 [.gp σ.length 0 (some (SB, 2)), .u8 c] (σ ++ bc σ.length o :: τ) = some (.nili, σ ++ bc σ.length (some (txt o ++ [c])) :: τ) := by
  have := WriteByte_b σ.length (σ ++ bc σ.length o :: τ) o hl c (by simp)
  rw [this]; simp
theorem bytesOf_map (l : List UInt8) : bytesOf (l.map .u8) = some l := by
  induction l with
  | nil => rfl
  | cons x r ih => simp only [List.map_cons, AV.u8] at ih ⊢; unfold bytesOf; simp [ih]
theorem String_b (b : Nat) (σ : List (List AV)) (o : Option (List UInt8)) (hb : σ[b]? = some (bc b o)) :
    ev 60 [.gp b 0 (some (SB, 2))] σ = some (.str (txt o), σ.set b (bs b o)) := by
  show ev 60 _ _ = _
  rw [ev_String]
  cases o with
  | none =>
    simp only [bc, bs, txt_none] at hb ⊢
    have : σ.set b [AV.nilp, .sl .nil []] = σ := by
      apply List.ext_getElem?; intro i; rw [List.getElem?_set]
      split
      · rename_i e; subst e; rw [hb]; simp [(List.getElem?_eq_some_iff.1 hb).1]
      · rfl
    rw [this]
    simp [-getElem?_pos, stringT, hb]
  | some l =>
    simp only [bc, bs, txt_some] at hb ⊢
    simp [-getElem?_pos, -AV.u8, stringT, hb, bytesOf_map, bnd]
theorem String_eq (σ τ : List (List AV)) (o : Option (List UInt8)) :
    ev 60 [.gp σ.length 0 (some (SB, 2))] (σ ++ bc σ.length o :: τ) = some (.str (txt o), σ ++ bs σ.length o :: τ) := by
  have := String_b σ.length (σ ++ bc σ.length o :: τ) o (by simp)
  rw [this]; simp
end Go.Proofs.Tryz.Ai
end
section
/- strconv.Itoa of small numbers; strings.Repeat of two zeros. -/
namespace Go.Proofs.Tryz.Ai
open Go Go.AI Go.Proofs
set_option maxHeartbeats 2000000
set_option linter.unusedVariables false

theorem digs : ∀ n : Nat, n < 10 → (List.take (n + 1) ([48, 49, 50, 51, 52, 53, 54, 55, 56, 57, 97, 98, 99, 100, 101, 102, 103, 104, 105, 106, 107, 108, 109, 110, 111, 112, 113, 114, 115, 116, 117, 118, 119, 120, 121, 122] : List UInt8)).drop n = [UInt8.ofNat (48 + n)] := by decide
theorem small_eq (n : Nat) (h : n < 10) (σ) : ev 149 [.int .i64 n] σ = some (.str [UInt8.ofNat (48 + n)], σ) := by
  refine EV_post rfl Tryz.func149 rfl (by simp [Tryz.ntmps149]) (by kernel_rfl) (by kernel_rfl) ?_
  have h1 : (n : Int) < 10 := by omega
  have h2 := digs n h
  dsimp only at h2
  have h6 : (0 : Int) ≤ (n : Int) + 1 := by omega
  have h3 : n ≤ 36 := by omega
  have h4 : n + 1 ≤ 36 := by omega
  have h5 : n < 36 := by omega
  simp (maxSteps := 4000000) (disch := omega) [dT, dF, wrap64, h1, h2, h3, h4, h5, h6, -List.take_succ_cons, Tryz.results149]
theorem Itoa_dig (n : Nat) (h : n < 10) (σ) : ev 87 [.int .i64 n] σ = some (.str [UInt8.ofNat (48 + n)], σ) := by
  rw [ev_Itoa]
  have : Lib.itoa (n : Int) = [UInt8.ofNat (48 + n)] := by unfold Lib.itoa; rw [if_neg (by omega), Int.toNat_natCast, Lib.decDigits_one h]
  simp only [itoaT]
  rw [need_of (by omega), this]
theorem HasPrefix_eq (a b : List UInt8) (σ) : ev 100 [.str a, .str b] σ = some (.bool (b.isPrefixOf a), σ) := by
  have h1 : ∀ σ, ev 125 [.str a, .str b] σ = some (.bool (b.isPrefixOf a), σ) := by
    intro σ
    refine EV_post rfl Tryz.func125 rfl (by simp [Tryz.ntmps125]) (by kernel_rfl) (by kernel_rfl) ?_
    by_cases hc : b.length ≤ a.length
    · have c1 : (b.length : Int) ≤ a.length := by omega
      have e : (a.take b.length == b) = b.isPrefixOf a := by
        rw [Bool.eq_iff_iff, List.isPrefixOf_iff_prefix, beq_iff_eq, List.prefix_iff_eq_take]
        exact ⟨fun h => h.symm, fun h => h.symm⟩
      simp (maxSteps := 4000000) [List.getElem?_cons_zero, List.getElem?_cons_succ, c1, hc, e, Tryz.results125]
    · have c1 : ¬ (b.length : Int) ≤ a.length := by omega
      have e : b.isPrefixOf a = false := by
        rw [Bool.eq_false_iff]
        intro h
        rw [List.isPrefixOf_iff_prefix] at h
        exact hc h.length_le
      simp (maxSteps := 4000000) [List.getElem?_cons_zero, List.getElem?_cons_succ, c1, hc, e, Tryz.results125]
  refine EV_post rfl Tryz.func100 rfl (by simp [Tryz.ntmps100]) (by kernel_rfl) (by kernel_rfl) ?_
  simp (maxSteps := 4000000) [List.getElem?_cons_zero, List.getElem?_cons_succ, h1, Tryz.results100]
end Go.Proofs.Tryz.Ai
end
section
/- Comparisons of numbers with literals. -/
namespace Go.AI
@[simp] theorem cast_le_lit {n k : Nat} : ((n : Int) ≤ (no_index (OfNat.ofNat k) : Int)) ↔ n ≤ k := by
  show (n : Int) ≤ (k : Int) ↔ n ≤ k; omega
@[simp] theorem lit_le_cast {n k : Nat} : ((no_index (OfNat.ofNat k) : Int) ≤ (n : Int)) ↔ k ≤ n := by
  show (k : Int) ≤ (n : Int) ↔ k ≤ n; omega
@[simp] theorem cast_lt_lit {n k : Nat} : ((n : Int) < (no_index (OfNat.ofNat k) : Int)) ↔ n < k := by
  show (n : Int) < (k : Int) ↔ n < k; omega
@[simp] theorem lit_lt_cast {n k : Nat} : ((no_index (OfNat.ofNat k) : Int) < (n : Int)) ↔ k < n := by
  show (k : Int) < (n : Int) ↔ k < n; omega
@[simp] theorem cast_eq_lit {n k : Nat} : ((n : Int) = (no_index (OfNat.ofNat k) : Int)) ↔ n = k := by
  show (n : Int) = (k : Int) ↔ n = k; omega
@[simp] theorem lit_eq_cast {n k : Nat} : ((no_index (OfNat.ofNat k) : Int) = (n : Int)) ↔ k = n := by
  show (k : Int) = (n : Int) ↔ k = n; omega
@[simp] theorem nonneg_add_lit {n k : Nat} : (0 ≤ (n : Int) + (no_index (OfNat.ofNat k) : Int)) ↔ True := by
  show 0 ≤ (n : Int) + (k : Int) ↔ True; constructor; intro _; trivial; intro _; omega
@[simp] theorem nonneg_add_cast {n k : Nat} : (0 ≤ (n : Int) + (k : Int)) ↔ True := by constructor; intro _; trivial; intro _; omega
@[simp] theorem neg_add_lit {n k : Nat} : ((n : Int) + (no_index (OfNat.ofNat k) : Int) < 0) ↔ False := by
  show (n : Int) + (k : Int) < 0 ↔ False; constructor; intro _; omega; intro h; cases h
@[simp] theorem neg_add_cast {n k : Nat} : ((n : Int) + (k : Int) < 0) ↔ False := by constructor; intro _; omega; intro h; cases h
@[simp] theorem toNat_add_lit {n k : Nat} : ((n : Int) + (no_index (OfNat.ofNat k) : Int)).toNat = n + k := by
  show ((n : Int) + (k : Int)).toNat = n + k; omega
@[simp] theorem toNat_add_cast {n k : Nat} : ((n : Int) + (k : Int)).toNat = n + k := by omega
@[simp] theorem cast_inj' {n k : Nat} : ((n : Int) = (k : Int)) ↔ n = k := by omega
@[simp] theorem cast_lt' {n k : Nat} : ((n : Int) < (k : Int)) ↔ n < k := by omega
@[simp] theorem cast_le' {n k : Nat} : ((n : Int) ≤ (k : Int)) ↔ n ≤ k := by omega
@[simp] theorem u8_inj {n k : UInt8} : n.toNat = k.toNat ↔ n = k := UInt8.toNat_inj
@[simp] theorem u8_lit {a : UInt8} {k : Nat} (h : k < 256) : a.toNat = (no_index (OfNat.ofNat k)) ↔ a = UInt8.ofNat k := by
  show a.toNat = k ↔ _
  constructor
  · intro e; apply UInt8.toNat_inj.1; rw [e]; simp; omega
  · intro e; rw [e]; simp; omega
@[simp] theorem u8_beq {a b : UInt8} : (a == b) = decide (a = b) := by
  by_cases h : a = b <;> simp [h]
end Go.AI
end
section
/- mod's kinds of bytes. -/
namespace Go.Proofs.Tryz.Ai
open Go Go.AI Go.Proofs
set_option maxHeartbeats 1000000
set_option linter.unusedVariables false

theorem digit_eq (c : UInt8) (σ) : ev 72 [.int .u8 c.toNat] σ = some (.bool (isD c), σ) := by
  refine EV_post rfl Tryz.func72 rfl (by simp [Tryz.ntmps72]) (by kernel_rfl) (by kernel_rfl) ?_
  by_cases h1 : 48 ≤ c.toNat
  · simp (maxSteps := 4000000) (disch := omega) [dT, dF, wrap64, isD, h1, Tryz.results72]
  · simp (maxSteps := 4000000) (disch := omega) [dT, dF, wrap64, isD, h1, Tryz.results72]
theorem upper_eq (c : UInt8) (σ) : ev 58 [.int .u8 c.toNat] σ = some (.bool (isU c), σ) := by
  refine EV_post rfl Tryz.func58 rfl (by simp [Tryz.ntmps58]) (by kernel_rfl) (by kernel_rfl) ?_
  by_cases h1 : 65 ≤ c.toNat
  · simp (maxSteps := 4000000) (disch := omega) [dT, dF, wrap64, isU, h1, Tryz.results58]
  · simp (maxSteps := 4000000) (disch := omega) [dT, dF, wrap64, isU, h1, Tryz.results58]
theorem lower_eq (c : UInt8) (σ) : ev 63 [.int .u8 c.toNat] σ = some (.bool (isL c), σ) := by
  refine EV_post rfl Tryz.func63 rfl (by simp [Tryz.ntmps63]) (by kernel_rfl) (by kernel_rfl) ?_
  by_cases h1 : 97 ≤ c.toNat
  · simp (maxSteps := 4000000) (disch := omega) [dT, dF, wrap64, isL, h1, Tryz.results63]
  · simp (maxSteps := 4000000) (disch := omega) [dT, dF, wrap64, isL, h1, Tryz.results63]
theorem high_eq (c : UInt8) (σ) : ev 57 [.int .u8 c.toNat] σ = some (.bool (isH c), σ) := by
  refine EV_post rfl Tryz.func57 rfl (by simp [Tryz.ntmps57]) (by kernel_rfl) (by kernel_rfl) ?_
  simp (maxSteps := 4000000) (disch := omega) [dT, dF, wrap64, isH, Tryz.results57]
theorem rdigit_eq (c : UInt8) (σ) : ev 117 [.int .u8 c.toNat] σ = some (.bool (isD c), σ) := by
  refine EV_post rfl Tryz.func117 rfl (by simp [Tryz.ntmps117]) (by kernel_rfl) (by kernel_rfl) ?_
  by_cases h1 : 48 ≤ c.toNat
  · simp (maxSteps := 4000000) (disch := omega) [dT, dF, wrap64, isD, h1, Tryz.results117]
  · simp (maxSteps := 4000000) (disch := omega) [dT, dF, wrap64, isD, h1, Tryz.results117]
theorem rupper_eq (c : UInt8) (σ) : ev 61 [.int .u8 c.toNat] σ = some (.bool (isU c), σ) := by
  refine EV_post rfl Tryz.func61 rfl (by simp [Tryz.ntmps61]) (by kernel_rfl) (by kernel_rfl) ?_
  by_cases h1 : 65 ≤ c.toNat
  · simp (maxSteps := 4000000) (disch := omega) [dT, dF, wrap64, isU, h1, Tryz.results61]
  · simp (maxSteps := 4000000) (disch := omega) [dT, dF, wrap64, isU, h1, Tryz.results61]
theorem rlower_eq (c : UInt8) (σ) : ev 64 [.int .u8 c.toNat] σ = some (.bool (isL c), σ) := by
  refine EV_post rfl Tryz.func64 rfl (by simp [Tryz.ntmps64]) (by kernel_rfl) (by kernel_rfl) ?_
  by_cases h1 : 97 ≤ c.toNat
  · simp (maxSteps := 4000000) (disch := omega) [dT, dF, wrap64, isL, h1, Tryz.results64]
  · simp (maxSteps := 4000000) (disch := omega) [dT, dF, wrap64, isL, h1, Tryz.results64]

theorem take_all {α β : Type} {s : List α} {p : α → β} {v : β} {i : Nat} (hc : i < s.length) (hn : ∀ x ∈ s.take i, p x = v) (hq : p s[i] = v) : ∀ x ∈ s.take (i + 1), p x = v := by
  intro x hx
  rw [List.take_succ_eq_append_getElem hc, List.mem_append] at hx
  rcases hx with hx | hx
  · exact hn x hx
  · simp at hx; subst hx; exact hq
theorem some_eq (s : List UInt8) (hl : s.length ≤ 2 ^ 40) (g : Nat) (cap : List AV) (p : UInt8 → Bool) (hg : g < 100000) (σ : List (List AV)) (hp : ∀ c : UInt8, ev g (.int .u8 c.toNat :: cap) σ = some (.bool (p c), σ)) :
    ev 55 [.str s, .fn g cap] σ = some (.bool (s.any p), σ) := by
  refine EV_post rfl Tryz.func55 rfl (by simp [Tryz.ntmps55]) (by kernel_rfl) (by kernel_rfl) ?_
  simp (maxSteps := 4000000) (disch := omega) [dT, dF, wrap64]
  refine Post_loop (I := fun i : Nat => ⟨[(0, .str s), (1, .fn g cap), (5, .int .i64 i)], [], σ⟩) (Pr := fun i => i ≤ s.length ∧ ∀ x ∈ s.take i, p x = false) (μ := fun i => s.length - i) (a := 0) (by simp) (by simp) ?_
  rintro i ⟨hi, hn⟩
  by_cases hc : i < s.length
  · by_cases hq : p s[i] = true
    · have h2 : s.any p = true := List.any_eq_true.2 ⟨_, List.getElem_mem hc, hq⟩
      simp (maxSteps := 4000000) (disch := omega) [dT, dF, wrap64, hc , hg, hp, hq, h2, Tryz.results55]
    · have hq' : p s[i] = false := by simpa using hq
      simp (maxSteps := 4000000) (disch := omega) [dT, dF, wrap64, hc , hg, hp, hq']
      refine ⟨i + 1, ⟨by omega, ?_⟩, by omega, by simp⟩
      exact take_all hc hn hq'
  · have hi' : i = s.length := by omega
    subst hi'
    rw [List.take_length] at hn
    have h2 : s.any p = false := by rw [Bool.eq_false_iff]; intro h; obtain ⟨x, hx, hpx⟩ := List.any_eq_true.1 h; rw [hn x hx] at hpx; cases hpx
    simp (maxSteps := 4000000) (disch := omega) [dT, dF, wrap64, hc, h2, Tryz.results55]
theorem all_eq (s : List UInt8) (hl : s.length ≤ 2 ^ 40) (g : Nat) (cap : List AV) (p : UInt8 → Bool) (hg : g < 100000) (σ : List (List AV)) (hp : ∀ c : UInt8, ev g (.int .u8 c.toNat :: cap) σ = some (.bool (p c), σ)) :
    ev 71 [.str s, .fn g cap] σ = some (.bool (allB p s), σ) := by
  refine EV_post rfl Tryz.func71 rfl (by simp [Tryz.ntmps71]) (by kernel_rfl) (by kernel_rfl) ?_
  unfold allB
  simp (maxSteps := 4000000) (disch := omega) [dT, dF, wrap64]
  refine Post_loop (I := fun i : Nat => ⟨[(0, .str s), (1, .fn g cap), (5, .int .i64 i)], [], σ⟩) (Pr := fun i => i ≤ s.length ∧ ∀ x ∈ s.take i, p x = true) (μ := fun i => s.length - i) (a := 0) (by simp) (by simp) ?_
  rintro i ⟨hi, hn⟩
  by_cases hc : i < s.length
  · by_cases hq : p s[i] = true
    · simp (maxSteps := 4000000) (disch := omega) [dT, dF, wrap64, hc , hg, hp, hq]
      refine ⟨i + 1, ⟨by omega, ?_⟩, by omega, by simp⟩
      exact take_all hc hn hq
    · have hq' : p s[i] = false := by simpa using hq
      have h2 : s.all p = false := by
        rw [Bool.eq_false_iff]; intro h; exact hq (List.all_eq_true.1 h _ (List.getElem_mem hc))
      simp (maxSteps := 4000000) (disch := omega) [dT, dF, wrap64, hc , hg, hp, hq', h2, Tryz.results71]
  · have hi' : i = s.length := by omega
    subst hi'
    rw [List.take_length] at hn
    have h2 : s.all p = true := List.all_eq_true.2 hn
    cases s with
    | nil => simp (maxSteps := 4000000) (disch := omega) [dT, dF, wrap64, Tryz.results71]
    | cons a r => simp (maxSteps := 4000000) (disch := omega) [dT, dF, wrap64, hc, h2, Tryz.results71]
end Go.Proofs.Tryz.Ai
end
section
/- strings: places, pieces, ends; cmp. -/
namespace Go.Proofs.Tryz.Ai
open Go Go.AI Go.Proofs
set_option maxHeartbeats 1000000
set_option linter.unusedVariables false

theorem IndexByteL_eq (s : List UInt8) (c : UInt8) (σ) : ev 130 [.str s, .int .u8 c.toNat] σ = some (.int .i64 (ixI c s), σ) := by
  rw [ev_index]; simp [indexT, indexByte_eq]
theorem Index1_eq (s : List UInt8) (c : UInt8) (σ) : ev 111 [.str s, .str [c]] σ = some (.int .i64 (ixI c s), σ) := by
  have h1 : ∀ σ, ev 129 [.str s, .str [c]] σ = some (.int .i64 (ixI c s), σ) := by
    intro σ
    have hi := IndexByteL_eq s c
    refine EV_post rfl Tryz.func129 rfl (by simp [Tryz.ntmps129]) (by kernel_rfl) (by kernel_rfl) ?_
    by_cases hs : [c] = s
    · subst hs
      have h2 : ixI c [c] = 0 := by simp [ixI, ix]
      simp (maxSteps := 4000000) [List.getElem?_cons_zero, List.getElem?_cons_succ, h2, Tryz.results129]
    · have h3 : ([c] == s) = false := by simpa using hs
      simp (maxSteps := 4000000) [List.getElem?_cons_zero, List.getElem?_cons_succ, h3, hi, Tryz.results129]
  refine EV_post rfl Tryz.func111 rfl (by simp [Tryz.ntmps111]) (by kernel_rfl) (by kernel_rfl) ?_
  simp (maxSteps := 4000000) [List.getElem?_cons_zero, List.getElem?_cons_succ, h1, Tryz.results111]
theorem IndexByte_eq (s : List UInt8) (c : UInt8) (σ) : ev 110 [.str s, .int .u8 c.toNat] σ = some (.int .i64 (ixI c s), σ) := by
  have h1 := IndexByteL_eq s c
  refine EV_post rfl Tryz.func110 rfl (by simp [Tryz.ntmps110]) (by kernel_rfl) (by kernel_rfl) ?_
  simp (maxSteps := 4000000) [List.getElem?_cons_zero, List.getElem?_cons_succ, h1, Tryz.results110]
theorem ixI_nonneg (c : UInt8) (s : List UInt8) : (0 ≤ ixI c s) ↔ c ∈ s := by
  unfold ixI
  cases h : ix c s with
  | none => have := ix_none.1 h; simp [this]
  | some n => have := (ix_some h).2.1; simp [List.mem_of_getElem? this]
theorem Contains1_eq (s : List UInt8) (c : UInt8) (σ) : ev 69 [.str s, .str [c]] σ = some (.bool (decide (c ∈ s)), σ) := by
  have h1 := Index1_eq s c
  have h2 := ixI_nonneg c s
  refine EV_post rfl Tryz.func69 rfl (by simp [Tryz.ntmps69]) (by kernel_rfl) (by kernel_rfl) ?_
  simp (maxSteps := 4000000) [List.getElem?_cons_zero, List.getElem?_cons_succ, h1, h2, Tryz.results69]
theorem Cut1_eq (s : List UInt8) (hl : s.length ≤ 2 ^ 40) (c : UInt8) (σ) : ev 65 [.str s, .str [c]] σ = some (.tup [.str (cutB c s).1, .str (cutB c s).2.1, .bool (cutB c s).2.2], σ) := by
  have hI : ∀ σ, ev 129 [.str s, .str [c]] σ = some (.int .i64 (ixI c s), σ) := by
    intro σ
    have hi := IndexByteL_eq s c
    refine EV_post rfl Tryz.func129 rfl (by simp [Tryz.ntmps129]) (by kernel_rfl) (by kernel_rfl) ?_
    by_cases hs : [c] = s
    · subst hs
      have h2 : ixI c [c] = 0 := by simp [ixI, ix]
      simp (maxSteps := 4000000) [List.getElem?_cons_zero, List.getElem?_cons_succ, h2, Tryz.results129]
    · have h3 : ([c] == s) = false := by simpa using hs
      simp (maxSteps := 4000000) [List.getElem?_cons_zero, List.getElem?_cons_succ, h3, hi, Tryz.results129]
  have h1 : ∀ σ, ev 108 [.str s, .str [c]] σ = some (.tup [.str (cutB c s).1, .str (cutB c s).2.1, .bool (cutB c s).2.2], σ) := by
    intro σ
    refine EV_post rfl Tryz.func108 rfl (by simp [Tryz.ntmps108]) (by kernel_rfl) (by kernel_rfl) ?_
    cases hx : ix c s with
    | none =>
      have e1 : ixI c s = -1 := by simp [ixI, hx]
      have e2 : cutB c s = (s, [], false) := by simp [cutB, hx]
      simp (maxSteps := 4000000) [List.getElem?_cons_zero, List.getElem?_cons_succ, hI, e1, e2, Tryz.results108]
    | some n =>
      have e1 : ixI c s = n := by simp [ixI, hx]
      have e2 : cutB c s = (s.take n, s.drop (n + 1), true) := by simp [cutB, hx]
      have hn := (ix_some hx).1
      have e3 : n ≤ s.length := by omega
      have e4 : n + 1 ≤ s.length := by omega
      have e5 : IntKind.i64.wrap ((n : Int) + 1) = ((n + 1 : Nat) : Int) := by rw [wrap64 (by omega)]; omega
      have e6 : List.drop (n + 1) (List.take s.length s) = s.drop (n + 1) := by rw [List.take_length]
      simp (maxSteps := 4000000) [List.getElem?_cons_zero, List.getElem?_cons_succ, hI, e1, e2, e3, e4, e5, e6, Tryz.results108]
  refine EV_post rfl Tryz.func65 rfl (by simp [Tryz.ntmps65]) (by kernel_rfl) (by kernel_rfl) ?_
  simp (maxSteps := 4000000) [List.getElem?_cons_zero, List.getElem?_cons_succ, h1, Tryz.results65]
theorem LastIndex1_eq (s : List UInt8) (hl : s.length ≤ 2 ^ 40) (c : UInt8) (σ) : ev 70 [.str s, .str [c]] σ = some (.int .i64 (lixI c s), σ) := by
  have h1 : ∀ σ, ev 112 [.str s, .int .u8 c.toNat] σ = some (.int .i64 (lixI c s), σ) := by
    intro σ
    refine EV_post rfl Tryz.func112 rfl (by simp [Tryz.ntmps112]) (by kernel_rfl) (by kernel_rfl) ?_
    simp (maxSteps := 4000000) (disch := omega) [dT, dF, wrap64]
    refine Post_loop (I := fun k : Nat => ⟨[(0, .str s), (1, .int .u8 c.toNat), (5, .int .i64 ((k : Int) - 1))], [], σ⟩) (Pr := fun k => k ≤ s.length ∧ lix c (s.take k) = lix c s) (μ := fun k => k) (a := s.length) (by simp) (by simp) ?_
    rintro k ⟨hk, hq⟩
    cases k with
    | zero =>
      have e1 : lixI c s = -1 := by unfold lixI; rw [← hq]; rfl
      simp (maxSteps := 4000000) [List.getElem?_cons_zero, List.getElem?_cons_succ, e1, Tryz.results112]
    | succ i =>
      have hc : i < s.length := by omega
      have e0 : (((i + 1 : Nat) : Int) - 1) = (i : Int) := by omega
      have e2 : IntKind.i64.wrap ((i : Int) - 1) = (i : Int) - 1 := wrap64 (by omega)
      rw [List.take_succ_eq_append_getElem hc, lix_snoc] at hq
      simp only [e0]
      by_cases hcc : s[i] = c
      · rw [if_pos hcc] at hq
        have e1 : lixI c s = i := by unfold lixI; rw [← hq]; simp; omega
        simp (maxSteps := 4000000) [List.getElem?_cons_zero, List.getElem?_cons_succ, hc, hcc, e1, Tryz.results112]
      · rw [if_neg hcc] at hq
        have hcn : ¬ s[i].toNat = c.toNat := fun e => hcc (UInt8.toNat_inj.1 e)
        simp (maxSteps := 4000000) [List.getElem?_cons_zero, List.getElem?_cons_succ, hc, hcc, e2]
        exact ⟨by omega, hq⟩
  refine EV_post rfl Tryz.func70 rfl (by simp [Tryz.ntmps70]) (by kernel_rfl) (by kernel_rfl) ?_
  simp (maxSteps := 4000000) [List.getElem?_cons_zero, List.getElem?_cons_succ, h1, Tryz.results70]
theorem drop_rep {α : Type} (l : List α) (f : α → AV) (k : Nat) (x : AV) : List.drop (l.length + 1) (l.map f ++ List.replicate (k + 1) x) = List.replicate k x := by
  rw [List.drop_append, List.drop_of_length_le (by simp)]
  simp [List.replicate_succ]
theorem drop_one {α : Type} (l : List α) (f : α → AV) (x : AV) : List.drop (l.length + 1) (l.map f ++ [x]) = [] := drop_rep l f 0 x
theorem splitB_tail {c : UInt8} {t : List UInt8} {m : Nat} (h : (splitB c t).length = m + 1) : (m = 0 → ix c t = none) ∧ (m ≠ 0 → ∃ n, ix c t = some n) := by
  cases hx : ix c t with
  | none => have := splitB_none hx; rw [this] at h; simp at h; exact ⟨fun _ => rfl, fun q => absurd (Eq.symm h) (fun e => q e.symm)⟩
  | some n =>
    have := splitB_ix hx; rw [this] at h
    have h2 := splitB_ne c (t.drop (n + 1))
    have h3 : (splitB c (t.drop (n + 1))).length ≠ 0 := fun e => h2 (List.length_eq_zero_iff.1 e)
    simp only [List.length_cons] at h
    exact ⟨fun q => by omega, fun _ => ⟨n, rfl⟩⟩
theorem Split1_eq (s : List UInt8) (hl : s.length ≤ 2 ^ 39) (c : UInt8) (σ) : ev 101 [.str s, .str [c]] σ = some (.sl (.ex 9 1) ((splitB c s).map .str), σ) := by
  have h1 : ∀ σ, ev 126 [.str s, .str [c], .int .i64 0, .int .i64 (-1)] σ = some (.sl (.ex 9 1) ((splitB c s).map .str), σ) := by
    intro σ
    have hc0 : ∀ σ, ev 139 [.str s, .str [c]] σ = some (.int .i64 (Lib.countByte s c), σ) := fun σ => by rw [ev_count]; rfl
    have hI := fun t => Index1_eq t c
    have hlen := splitB_len c s
    have hle : Lib.countByte s c ≤ s.length := List.count_le_length
    obtain ⟨N, hN⟩ : ∃ N, Lib.countByte s c = N := ⟨_, rfl⟩
    rw [hN] at hlen hle hc0
    have w1 : IntKind.i64.wrap ((N : Int) + 1) = ((N + 1 : Nat) : Int) := by rw [wrap64 (by omega)]; omega
    have w2 : IntKind.i64.wrap ((s.length : Int) + 1) = ((s.length + 1 : Nat) : Int) := by rw [wrap64 (by omega)]; omega
    have w3 : ¬ s.length + 1 < N + 1 := by omega
    have w4 : N + 1 ≤ most := by unfold most; omega
    have w5 : IntKind.i64.wrap (((N + 1 : Nat) : Int) - 1) = (N : Int) := by rw [wrap64 (by omega)]; omega
    refine EV_post rfl Tryz.func126 rfl (by simp [Tryz.ntmps126]) (by kernel_rfl) (by kernel_rfl) ?_
    simp (maxSteps := 4000000) [List.getElem?_cons_zero, List.getElem?_cons_succ, hc0, w1, w2, w3, w4, w5, -Int.natCast_add, Int.ofNat_lt]
    have k0 : ∀ k i n : Nat, i ≤ n → n - i = k → n + 1 - i = k + 1 := fun k i n h1 h2 => by omega
    refine Post_loop (I := fun p : List (List UInt8) × List UInt8 × Nat => ⟨[(0, .str p.2.1), (1, .str [c]), (2, .int .i64 0), (3, .int .i64 N), (9, .ms 9 1 σ.length 0 (N + 1)), (10, .int .i64 p.1.length)], [], σ ++ [p.1.map AV.str ++ List.replicate (p.2.2 + 1) (AV.str [])]⟩)
      (Pr := fun p => p.1 ++ splitB c p.2.1 = splitB c s ∧ p.1.length + p.2.2 = N ∧ p.2.1.length ≤ s.length) (μ := fun p => p.2.2) (a := ([], s, N)) (by simp) (by simp) ?_
    rintro ⟨a, t, k⟩ ⟨h1, h2, h3⟩
    simp only at h1 h2 h3 ⊢
    have h4 : (splitB c t).length = k + 1 := by have := congrArg List.length h1; simp only [List.length_append, hlen] at this; omega
    obtain ⟨z1, z2⟩ := splitB_tail h4
    have v1 : IntKind.i64.wrap ((a.length : Int) + 1) = ((a.length + 1 : Nat) : Int) := by rw [wrap64 (by omega)]; omega
    have v2 : a.length < N + 1 := by omega
    have v3 : a.length + 1 ≤ N + 1 := by omega
    cases k with
    | zero =>
      have z := z1 rfl
      have y := splitB_none z
      rw [y] at h1
      have v4 : ¬ a.length < N := by omega
      have v5 := drop_one a AV.str (.str [])
      have v6 : (a ++ [t]).length = a.length + 1 := by simp
      have v7 : N = a.length := by omega
      subst v7
      have v7 : a.map AV.str ++ [AV.str t] = (splitB c s).map .str := by rw [← h1]; simp
      have v8 : (splitB c s).length = a.length + 1 := hlen
      have v9 : List.take (a.length + 1) ((splitB c s).map AV.str) = (splitB c s).map .str := by rw [← v8]; exact List.take_of_length_le (by simp)
      simp (maxSteps := 4000000) [List.getElem?_cons_zero, List.getElem?_cons_succ, v1, v2, v3, v4, v5, v7, v8, v9, Tryz.results126]
    | succ k =>
      obtain ⟨n, hn⟩ := z2 (by omega)
      have y := splitB_ix hn
      have z := (ix_some hn).1
      have e1 : ixI c t = n := by simp [ixI, hn]
      have v4 : a.length < N := by omega
      have v5 := drop_rep a AV.str (k + 1) (.str [])
      have v8 : IntKind.i64.wrap (n : Int) = n := wrap64 (by omega)
      have v9 : IntKind.i64.wrap ((n : Int) + 1) = ((n + 1 : Nat) : Int) := by rw [wrap64 (by omega)]; omega
      have va : n ≤ t.length := by omega
      have vb : n + 1 ≤ t.length := by omega
      simp (maxSteps := 4000000) [List.getElem?_cons_zero, List.getElem?_cons_succ, hI, e1, v1, v2, v3, v4, v5, v8, v9, va, vb, -List.map_append]
      refine ⟨a ++ [t.take n], t.drop (n + 1), k, ⟨?_, ?_, ?_⟩, by omega, ?_⟩
      · rw [List.append_assoc, ← h1, y]; rfl
      · simp; omega
      · simp; omega
      · simp [drop_rep]
  refine EV_post rfl Tryz.func101 rfl (by simp [Tryz.ntmps101]) (by kernel_rfl) (by kernel_rfl) ?_
  simp (maxSteps := 4000000) [List.getElem?_cons_zero, List.getElem?_cons_succ, h1, Tryz.results101]
end Go.Proofs.Tryz.Ai
end
section
/- mod: numbers, identifiers. -/
namespace Go.Proofs.Tryz.Ai
open Go Go.AI Go.Proofs
set_option maxHeartbeats 1000000
set_option linter.unusedVariables false

theorem allD_eq (s : List UInt8) (hl : s.length ≤ 2 ^ 40) (σ) : ev 71 [.str s, .fn 72 []] σ = some (.bool (allB isD s), σ) :=
  all_eq s hl _ _ _ (by decide) σ fun c => digit_eq c σ
theorem plain_eq (s : List UInt8) (σ) : ev 115 [.str s] σ = some (.bool (plainB s), σ) := by
  refine EV_post rfl Tryz.func115 rfl (by simp [Tryz.ntmps115]) (by kernel_rfl) (by kernel_rfl) ?_
  cases s with
  | nil => simp (maxSteps := 4000000) [List.getElem?_cons_zero, List.getElem?_cons_succ, plainB, Tryz.results115]
  | cons c r =>
    cases r with
    | nil =>
      by_cases hc : c = 48
      · subst hc; simp (maxSteps := 4000000) [List.getElem?_cons_zero, List.getElem?_cons_succ, plainB, Tryz.results115]
      · simp (maxSteps := 4000000) [List.getElem?_cons_zero, List.getElem?_cons_succ, plainB, hc, Tryz.results115]
    | cons d r =>
      by_cases hc : c = 48
      · subst hc; simp (maxSteps := 4000000) [List.getElem?_cons_zero, List.getElem?_cons_succ, plainB, Tryz.results115]
      · simp (maxSteps := 4000000) [List.getElem?_cons_zero, List.getElem?_cons_succ, plainB, hc, Tryz.results115]
theorem Atoi_eq (s : List UInt8) (h1 : s.all isD = true) (h2 : s ≠ []) (h3 : s.length ≤ 9) (σ) : ev 116 [.str s] σ = some (.tup [.int .i64 (valB s), .nili], σ) := by
  have h0 : ∀ σ, ev 132 [.str s] σ = some (.tup [.int .i64 (valB s), .nili], σ) := by
    intro σ
    obtain ⟨c0, r0, hs0⟩ : ∃ c r, s = c :: r := by cases s with
      | nil => exact absurd rfl h2
      | cons c r => exact ⟨c, r, rfl⟩
    have hd0 : isD c0 = true := by rw [hs0] at h1; simp at h1; exact h1.1
    have hc0 : s[0]? = some c0 := by rw [hs0]; rfl
    have n0 : 0 < s.length := by rw [hs0]; simp
    have n1 : s.length < 10 := by omega
    have e1 : ¬ c0 = 45 := by rintro rfl; revert hd0; decide
    have e2 : ¬ c0 = 43 := by rintro rfl; revert hd0; decide
    have e1' : ¬ c0.toNat = 45 := fun e => e1 (UInt8.toNat_inj.1 e)
    have e2' : ¬ c0.toNat = 43 := fun e => e2 (UInt8.toNat_inj.1 e)
    have n2 : s.length ≤ most := by unfold most; omega
    have n3 : s.length < 19 := by omega
    refine EV_post rfl Tryz.func132 rfl (by simp [Tryz.ntmps132]) (by kernel_rfl) (by kernel_rfl) ?_
    simp (maxSteps := 4000000) [List.getElem?_cons_zero, List.getElem?_cons_succ, -getElem?_pos, n0, n1, n2, n3, hc0, e1, e2]
    refine Post_loop (I := fun i : Nat => ⟨[(5, .str s), (6, .int .i64 (valB (s.take i))), (47, .sl (.ex 5 1) (s.map .u8)), (48, .int .i64 s.length), (49, .int .i64 i)], [], σ⟩) (Pr := fun i => i ≤ s.length) (μ := fun i => s.length - i) (a := 0) (by simp [valB]) (by simp) ?_
    intro i hi
    by_cases hc : i < s.length
    · obtain ⟨c, hcx⟩ : ∃ c, s[i] = c := ⟨_, rfl⟩
      have hx : s[i]? = some c := by rw [← hcx]; exact List.getElem?_eq_getElem hc
      have hd : isD c = true := by rw [← hcx]; exact List.all_eq_true.1 h1 _ (List.getElem_mem hc)
      have hd2 : 48 ≤ c.toNat ∧ c.toNat ≤ 57 := of_decide_eq_true hd
      have w1 : IntKind.u8.wrap ((c.toNat : Int) - 48) = ((c.toNat - 48 : Nat) : Int) := by rw [wrapU8 (by omega)]; omega
      have w2 : ¬ 9 < c.toNat - 48 := by omega
      have hall : (s.take i).all isD = true := by rw [List.all_eq_true]; intro x hx; exact List.all_eq_true.1 h1 _ (List.mem_of_mem_take hx)
      have hv := valB_lt _ hall
      have hv2 : (10 : Nat) ^ (s.take i).length ≤ 10 ^ 9 := Nat.pow_le_pow_right (by omega) (by simp; omega)
      obtain ⟨v, hvv⟩ : ∃ v, valB (s.take i) = v := ⟨_, rfl⟩
      rw [hvv] at hv
      obtain ⟨d, hdd⟩ : ∃ d, c.toNat - 48 = d := ⟨_, rfl⟩
      rw [hdd] at w1 w2
      have w3 : IntKind.i64.wrap ((v : Int) * 10) = ((v * 10 : Nat) : Int) := by rw [wrap64 (by omega)]; omega
      have w4 : IntKind.i64.wrap (d : Int) = d := wrap64 (by omega)
      have w5 : IntKind.i64.wrap ((v : Int) * 10 + d) = (v : Int) * 10 + d := wrap64 (by omega)
      have w6 : IntKind.i64.wrap ((i : Int) + 1) = (i : Int) + 1 := wrap64 (by omega)
      have hn : valB (s.take (i + 1)) = v * 10 + d := by rw [List.take_succ_eq_append_getElem hc, valB_snoc, hvv, hcx, hdd]
      simp (maxSteps := 4000000) [List.getElem?_cons_zero, List.getElem?_cons_succ, -getElem?_pos, hc, hx, hvv, w1, w2, w3, w4, w5, w6]
      exact ⟨i + 1, by omega, by omega, by rw [hn]; simp, by simp⟩
    · have hi' : i = s.length := by omega
      subst hi'
      simp (maxSteps := 4000000) [List.getElem?_cons_zero, List.getElem?_cons_succ, -getElem?_pos, hc0, e1, Tryz.results132]
  refine EV_post rfl Tryz.func116 rfl (by simp [Tryz.ntmps116]) (by kernel_rfl) (by kernel_rfl) ?_
  simp (maxSteps := 4000000) [List.getElem?_cons_zero, List.getElem?_cons_succ, h0, Tryz.results116]
theorem number_eq (s : List UInt8) (hl : s.length ≤ 2 ^ 40) (σ) : ev 74 [.str s] σ = some (.tup [.int .i64 ((numB s).getD 0), .bool (numB s).isSome], σ) := by
  have ha := allD_eq s hl
  have hp := plain_eq s
  refine EV_post rfl Tryz.func74 rfl (by simp [Tryz.ntmps74]) (by kernel_rfl) (by kernel_rfl) ?_
  by_cases h1 : allB isD s = true
  · by_cases h2 : plainB s = true
    · by_cases h3 : s.length ≤ 9
      · have h4 : numB s = some (valB s) := by simp [numB, numOk, h1, h2, h3]
        have h5 : s.all isD = true ∧ s ≠ [] := by simpa [allB] using h1
        have hA := Atoi_eq s h5.1 h5.2 h3
        have h6 : ¬ 9 < s.length := by omega
        simp (maxSteps := 4000000) [List.getElem?_cons_zero, List.getElem?_cons_succ, ha, hp, h1, h2, h6, hA, h4, Tryz.results74]
      · have h4 : numB s = none := by simp [numB, numOk, h3]
        have h6 : 9 < s.length := by omega
        simp (maxSteps := 4000000) [List.getElem?_cons_zero, List.getElem?_cons_succ, ha, hp, h1, h2, h6, h4, Tryz.results74]
    · have h4 : numB s = none := by simp [numB, numOk, h2]
      simp (maxSteps := 4000000) [List.getElem?_cons_zero, List.getElem?_cons_succ, ha, hp, h1, h2, h4, Tryz.results74]
  · have h4 : numB s = none := by simp [numB, numOk, h1]
    simp (maxSteps := 4000000) [List.getElem?_cons_zero, List.getElem?_cons_succ, ha, hp, h1, h4, Tryz.results74]
theorem word_eq (o : List UInt8) (σ) : ev 68 [.str o] σ = some (.fn 109 [.gp σ.length 0 (some (9, 1))], σ ++ [[.str o]]) := by
  refine EV_post rfl Tryz.func68 rfl (by simp [Tryz.ntmps68]) (by kernel_rfl) (by kernel_rfl) ?_
  simp (maxSteps := 4000000) [List.getElem?_cons_zero, List.getElem?_cons_succ, Tryz.results68]
theorem word1_eq (o : List UInt8) (b : Nat) (sh) (c : UInt8) (σ : List (List AV)) (hb : σ[b]? = some [.str o]) : ev 109 [.int .u8 c.toNat, .gp b 0 sh] σ = some (.bool (wordB o c), σ) := by
  have h1 := digit_eq c
  have h2 := upper_eq c
  have h3 := lower_eq c
  have h4 := IndexByte_eq o c
  have h5 := ixI_nonneg c o
  refine EV_post rfl Tryz.func109 rfl (by simp [Tryz.ntmps109]) (by kernel_rfl) (by kernel_rfl) ?_
  by_cases d1 : isD c = true
  · simp (maxSteps := 4000000) [List.getElem?_cons_zero, List.getElem?_cons_succ, -getElem?_pos, h1, d1, wordB, Tryz.results109]
  · by_cases d2 : isU c = true
    · simp (maxSteps := 4000000) [List.getElem?_cons_zero, List.getElem?_cons_succ, -getElem?_pos, h1, h2, d1, d2, wordB, Tryz.results109]
    · by_cases d3 : isL c = true
      · simp (maxSteps := 4000000) [List.getElem?_cons_zero, List.getElem?_cons_succ, -getElem?_pos, h1, h2, h3, d1, d2, d3, wordB, Tryz.results109]
      · simp (maxSteps := 4000000) [List.getElem?_cons_zero, List.getElem?_cons_succ, -getElem?_pos, h1, h2, h3, h4, h5, hb, d1, d2, d3, wordB, Tryz.results109]
theorem allW_eq (s o : List UInt8) (hl : s.length ≤ 2 ^ 40) (b : Nat) (sh) (σ : List (List AV)) (hb : σ[b]? = some [.str o]) : ev 71 [.str s, .fn 109 [.gp b 0 sh]] σ = some (.bool (allB (wordB o) s), σ) :=
  all_eq s hl _ _ _ (by decide) σ fun c => word1_eq o b sh c σ hb
end Go.Proofs.Tryz.Ai
end
section
/- mod: versions are read. -/
namespace Go.Proofs.Tryz.Ai
open Go Go.AI Go.Proofs
set_option maxHeartbeats 2000000
set_option linter.unusedVariables false

theorem identifiers_eq (p : List UInt8) (hl : p.length ≤ 2 ^ 39) (σ) : ev 102 [.str p] σ = some (.bool (idsB p), σ) := by
  have hS := Split1_eq p hl 46
  have hw : ∀ τ : List (List AV), ev 68 [.str [45]] (σ ++ τ) = some (.fn 109 [.gp (σ.length + τ.length) 0 (some (9, 1))], σ ++ (τ ++ [[.str [45]]])) := by
    intro τ; rw [word_eq]; simp
  obtain ⟨L, hL⟩ : ∃ L, splitB 46 p = L := ⟨_, rfl⟩
  have hm : ∀ x ∈ L, x.length ≤ 2 ^ 39 := fun x hx => Nat.le_trans (splitB_le (hL ▸ hx)) hl
  have hn : L.length ≤ 2 ^ 40 := by rw [← hL]; have := splitB_many 46 p; omega
  have hAll : idsB p = L.all idB := by unfold idsB; rw [hL]
  rw [hL] at hS
  refine EV_post rfl Tryz.func102 rfl (by simp [Tryz.ntmps102]) (by kernel_rfl) (by kernel_rfl) ?_
  simp (maxSteps := 4000000) [List.getElem?_cons_zero, List.getElem?_cons_succ, hS]
  refine Post_loop (I := fun q : Nat × List (List AV) => ⟨[(6, .sl (.ex 9 1) (L.map .str)), (7, .int .i64 L.length), (8, .int .i64 q.1)], [], σ ++ q.2⟩) (Pr := fun q => q.1 ≤ L.length ∧ ∀ x ∈ L.take q.1, idB x = true) (μ := fun q => L.length - q.1) (a := (0, [])) (by simp) (by simp) ?_
  rintro ⟨i, τ⟩ ⟨hi, ha⟩
  simp only at hi ha ⊢
  by_cases hc : i < L.length
  · obtain ⟨x, hx⟩ : ∃ x, L[i] = x := ⟨_, rfl⟩
    have hx2 : L[i]? = some x := by rw [← hx]; exact List.getElem?_eq_getElem hc
    have hxl := hm x (hx ▸ List.getElem_mem hc)
    have h1 := allW_eq x [45] (by omega) (σ.length + τ.length) (some (9, 1)) (σ ++ (τ ++ [[.str [45]]])) (by simp)
    have h2 := allD_eq x (by omega) (σ ++ (τ ++ [[.str [45]]]))
    have h3 := plain_eq x (σ ++ (τ ++ [[.str [45]]]))
    have w6 : IntKind.i64.wrap ((i : Int) + 1) = (i : Int) + 1 := wrap64 (by omega)
    by_cases hq : idB x = true
    · have hn : ∀ y ∈ L.take (i + 1), idB y = true := take_all hc ha (by rw [hx]; exact hq)
      unfold idB at hq
      simp only [Bool.and_eq_true, Bool.not_eq_true'] at hq
      by_cases hd : allB isD x = true
      · have hp : plainB x = true := by simpa [hd] using hq.2
        simp (maxSteps := 4000000) [List.getElem?_cons_zero, List.getElem?_cons_succ, -getElem?_pos, hc, hx2, hw, h1, h2, h3, hq.1, hd, hp, w6]
        exact ⟨i + 1, ⟨by omega, hn⟩, by omega, by simp⟩
      · simp (maxSteps := 4000000) [List.getElem?_cons_zero, List.getElem?_cons_succ, -getElem?_pos, hc, hx2, hw, h1, h2, h3, hq.1, hd, w6]
        exact ⟨i + 1, ⟨by omega, hn⟩, by omega, by simp⟩
    · have hf : idsB p = false := by rw [hAll, Bool.eq_false_iff]; intro h; exact hq (List.all_eq_true.1 h _ (hx ▸ List.getElem_mem hc))
      by_cases ha : allB (wordB [45]) x = true
      · by_cases hd : allB isD x = true
        · have hp : plainB x = false := by simpa [idB, ha, hd] using hq
          simp (maxSteps := 4000000) [List.getElem?_cons_zero, List.getElem?_cons_succ, -getElem?_pos, hc, hx2, hw, h1, h2, h3, ha, hd, hp, hf, Tryz.results102]
        · exact absurd (by simp [idB, ha, hd]) hq
      · simp (maxSteps := 4000000) [List.getElem?_cons_zero, List.getElem?_cons_succ, -getElem?_pos, hc, hx2, hw, h1, h2, h3, ha, hf, Tryz.results102]
  · have hi' : i = L.length := by omega
    subst hi'
    rw [List.take_length] at ha
    have ht : idsB p = true := by rw [hAll]; exact List.all_eq_true.2 ha
    simp (maxSteps := 4000000) [List.getElem?_cons_zero, List.getElem?_cons_succ, ht, Tryz.results102]

/-- what is read, as the program holds it -/
def verA : Option Ver → AV
  | some v => .agg [.int .i64 v.ma, .int .i64 v.mi, .int .i64 v.pa, .str v.pre]
  | none => .agg [.int .i64 0, .int .i64 0, .int .i64 0, .str []]
theorem coreOf_no {r : List UInt8} (h : (splitB 46 r).length ≠ 3) : coreOf r = none := by
  unfold coreOf
  split
  · rename_i a b c hs; rw [hs] at h; simp at h
  · rfl
theorem read_eq (s : List UInt8) (hl : s.length ≤ 2 ^ 39) (σ) : ev 50 [.str s] σ = some (.tup [verA (readB s), .bool (readB s).isSome], σ) := by
  have hp := fun a b => HasPrefix_eq a b
  refine EV_post rfl Tryz.func50 rfl (by simp [Tryz.ntmps50]) (by kernel_rfl) (by kernel_rfl) ?_
  by_cases h60 : 60 < s.length
  · have hr : readB s = none := by simp [readB, h60]
    simp (maxSteps := 4000000) [List.getElem?_cons_zero, List.getElem?_cons_succ, h60, hr, verA, Tryz.results50]
  · cases s with
    | nil => simp (maxSteps := 4000000) [List.getElem?_cons_zero, List.getElem?_cons_succ, hp, readB, verA, Tryz.results50]
    | cons c r =>
      by_cases hc : c = 118
      · subst hc
        have hr : readB (118 :: r) = match coreOf (cutB 45 r).1 with
            | none => none
            | some (x, y, z) => if (cutB 45 r).2.2 && !idsB (cutB 45 r).2.1 then none else some ⟨x, y, z, (cutB 45 r).2.1⟩ := by
          unfold readB; rw [if_neg h60]; rfl
        simp only [List.length_cons] at h60 hl
        have hcl := cutB_le 45 r
        obtain ⟨⟨k, p, b⟩, hk⟩ : ∃ x, cutB 45 r = x := ⟨_, rfl⟩
        have hC := Cut1_eq r (by omega) 45
        rw [hk] at hC hr hcl
        simp only at hC hr hcl
        have hS := Split1_eq k (by omega) 46
        have hI := identifiers_eq p (by omega)
        have h61 : ¬ (60 : Int) < (r.length : Int) + 1 := by omega
        have v1 : IntKind.i64.wrap ((r.length : Int) + 1) = (r.length : Int) + 1 := wrap64 (by omega)
        have v2 : List.isPrefixOf [(118 : UInt8)] (118 :: r) = true := by simp [List.isPrefixOf]
        by_cases h3 : (splitB 46 k).length = 3
        · obtain ⟨x, y, z, hxyz⟩ : ∃ x y z, splitB 46 k = [x, y, z] := by
            match hq : splitB 46 k, h3 with
            | [x, y, z], _ => exact ⟨x, y, z, rfl⟩
          have hmem : ∀ w ∈ splitB 46 k, w.length ≤ 2 ^ 39 := fun w hw => by have := splitB_le hw; omega
          rw [hxyz] at hS hmem
          have nx := number_eq x (by have := hmem x (by simp); omega)
          have ny := number_eq y (by have := hmem y (by simp); omega)
          have nz := number_eq z (by have := hmem z (by simp); omega)
          have hco : coreOf k = match numB x, numB y, numB z with
              | some x, some y, some z => some (x, y, z)
              | _, _, _ => none := by simp only [coreOf, hxyz]; cases numB x <;> cases numB y <;> cases numB z <;> rfl
          rw [hco] at hr
          simp only [List.map_cons, List.map_nil] at hS
          cases ex : numB x with
          | none =>
            rw [ex] at nx hr
            simp (maxSteps := 4000000) [List.getElem?_cons_zero, List.getElem?_cons_succ, hp, v1, v2, h61, hC, hS, nx, ny, nz, hr, verA, Tryz.results50]
          | some x' =>
            cases ey : numB y with
            | none =>
              rw [ex] at nx; rw [ey] at ny; rw [ex, ey] at hr
              simp (maxSteps := 4000000) [List.getElem?_cons_zero, List.getElem?_cons_succ, hp, v1, v2, h61, hC, hS, nx, ny, nz, hr, verA, Tryz.results50]
            | some y' =>
              cases ez : numB z with
              | none =>
                rw [ex] at nx; rw [ey] at ny; rw [ez] at nz; rw [ex, ey, ez] at hr
                simp (maxSteps := 4000000) [List.getElem?_cons_zero, List.getElem?_cons_succ, hp, v1, v2, h61, hC, hS, nx, ny, nz, hr, verA, Tryz.results50]
              | some z' =>
                rw [ex] at nx; rw [ey] at ny; rw [ez] at nz; rw [ex, ey, ez] at hr
                simp only at hr
                cases b with
                | false => simp (maxSteps := 4000000) [List.getElem?_cons_zero, List.getElem?_cons_succ, hp, v1, v2, h61, hC, hS, nx, ny, nz, hr, verA, Tryz.results50]
                | true =>
                  by_cases hi : idsB p = true
                  · rw [hi] at hr hI
                    simp (maxSteps := 4000000) [List.getElem?_cons_zero, List.getElem?_cons_succ, hp, v1, v2, h61, hC, hS, nx, ny, nz, hI, hr, verA, Tryz.results50]
                  · have hi : idsB p = false := by simpa using hi
                    rw [hi] at hr hI
                    simp (maxSteps := 4000000) [List.getElem?_cons_zero, List.getElem?_cons_succ, hp, v1, v2, h61, hC, hS, nx, ny, nz, hI, hr, verA, Tryz.results50]
        · rw [coreOf_no h3] at hr
          have h3' : ¬ ((splitB 46 k).length : Int) = 3 := by omega
          simp (maxSteps := 4000000) [List.getElem?_cons_zero, List.getElem?_cons_succ, hp, v1, v2, h61, hC, hS, h3, hr, verA, Tryz.results50]
      · have hr : readB (c :: r) = none := by unfold readB; rw [if_neg h60]; simp [hc]
        have v2 : List.isPrefixOf [(118 : UInt8)] (c :: r) = false := by simp [List.isPrefixOf]; exact fun e => hc e.symm
        simp only [List.length_cons] at h60
        have h61 : ¬ (60 : Int) < (r.length : Int) + 1 := by omega
        simp (maxSteps := 4000000) [List.getElem?_cons_zero, List.getElem?_cons_succ, hp, h61, v2, hr, verA, Tryz.results50]
end Go.Proofs.Tryz.Ai
end
section
/- mod.Compare. -/
namespace Go.Proofs.Tryz.Ai
open Go Go.AI Go.Proofs
set_option maxHeartbeats 2000000
set_option linter.unusedVariables false

def orL (l : List Int) : Int := l.foldr orI 0
def intC (x y : Int) : Int := if x < y then -1 else if y < x then 1 else 0
theorem intC_nat (a b : Nat) : intC a b = natC a b := by unfold intC natC; simp only [Int.ofNat_lt]
theorem orI_zero (x : Int) : orI x 0 = x := by unfold orI; split <;> omega
theorem orL_drop (l : List Int) (i : Nat) (h : ∀ x ∈ l.take i, x = 0) : orL l = orL (l.drop i) := by
  induction l generalizing i with
  | nil => simp
  | cons a r ih =>
    cases i with
    | zero => rfl
    | succ i =>
      simp only [List.take_succ_cons, List.mem_cons, forall_eq_or_imp] at h
      rw [List.drop_succ_cons, ← ih i h.2]
      simp [orL, orI, h.1]
theorem cmpOr_eq (l : List Int) (hl : l.length ≤ 2 ^ 40) (σ) : ev 52 [.sl .sh (l.map (.int .i64))] σ = some (.int .i64 (orL l), σ) := by
  refine EV_post rfl Tryz.func52 rfl (by simp [Tryz.ntmps52]) (by kernel_rfl) (by kernel_rfl) ?_
  simp (maxSteps := 4000000) (disch := omega) [dT, dF, wrap64]
  refine Post_loop (I := fun i : Nat => ⟨[(3, .int .i64 0), (6, .sl .sh (l.map (.int .i64))), (7, .int .i64 l.length), (8, .int .i64 i)], [], σ⟩) (Pr := fun i => i ≤ l.length ∧ ∀ x ∈ l.take i, x = 0) (μ := fun i => l.length - i) (a := 0) (by simp) (by simp) ?_
  rintro i ⟨hi, hn⟩
  by_cases hc : i < l.length
  · obtain ⟨x, hx⟩ : ∃ x, l[i] = x := ⟨_, rfl⟩
    have hx2 : l[i]? = some x := by rw [← hx]; exact List.getElem?_eq_getElem hc
    have w6 : IntKind.i64.wrap ((i : Int) + 1) = (i : Int) + 1 := wrap64 (by omega)
    have hd := orL_drop l i hn
    rw [List.drop_eq_getElem_cons hc, hx] at hd
    by_cases hq : x = 0
    · simp (maxSteps := 4000000) [List.getElem?_cons_zero, List.getElem?_cons_succ, -getElem?_pos, hc, hx2, hq, w6]
      exact ⟨i + 1, ⟨by omega, take_all (p := id) hc hn (hx.trans hq)⟩, by omega, by simp⟩
    · have h2 : orL l = x := by rw [hd]; simp [orL, orI, hq]
      simp (maxSteps := 4000000) [List.getElem?_cons_zero, List.getElem?_cons_succ, -getElem?_pos, hc, hx2, hq, h2, Tryz.results52]
  · have hi' : i = l.length := by omega
    subst hi'
    have hd := orL_drop l _ hn
    simp only [List.drop_length] at hd
    have h2 : orL l = 0 := hd
    simp (maxSteps := 4000000) [List.getElem?_cons_zero, List.getElem?_cons_succ, h2, Tryz.results52]
theorem cmpInt_eq (x y : Int) (σ) : ev 53 [.int .i64 x, .int .i64 y] σ = some (.int .i64 (intC x y), σ) := by
  have hn : ∀ z σ, ev 104 [.int .i64 z] σ = some (.bool false, σ) := by
    intro z σ
    refine EV_post rfl Tryz.func104 rfl (by simp [Tryz.ntmps104]) (by kernel_rfl) (by kernel_rfl) ?_
    simp (maxSteps := 4000000) [List.getElem?_cons_zero, List.getElem?_cons_succ, Tryz.results104]
  refine EV_post rfl Tryz.func53 rfl (by simp [Tryz.ntmps53]) (by kernel_rfl) (by kernel_rfl) ?_
  by_cases h1 : x < y
  · simp (maxSteps := 4000000) [List.getElem?_cons_zero, List.getElem?_cons_succ, hn, h1, intC, Tryz.results53]
  · by_cases h2 : y < x
    · simp (maxSteps := 4000000) [List.getElem?_cons_zero, List.getElem?_cons_succ, hn, h1, h2, intC, Tryz.results53]
    · simp (maxSteps := 4000000) [List.getElem?_cons_zero, List.getElem?_cons_succ, hn, h1, h2, intC, Tryz.results53]
theorem cmpNat_eq (x y : Nat) (σ) : ev 53 [.int .i64 x, .int .i64 y] σ = some (.int .i64 (natC x y), σ) := by rw [cmpInt_eq, intC_nat]
theorem Compare_eq (a b : List UInt8) (σ) : ev 51 [.str a, .str b] σ = some (.int .i64 (bytesC a b), σ) := by
  have h1 : ∀ σ, ev 103 [.str a, .str b] σ = some (.int .i64 (bytesC a b), σ) := fun σ => by rw [ev_compare]; simp [compareT, compareBytes_eq]
  refine EV_post rfl Tryz.func51 rfl (by simp [Tryz.ntmps51]) (by kernel_rfl) (by kernel_rfl) ?_
  simp (maxSteps := 4000000) [List.getElem?_cons_zero, List.getElem?_cons_succ, h1, Tryz.results51]
theorem CompareFunc_eq (L M : List (List UInt8)) (hL : L.length ≤ 2 ^ 40) (hM : M.length ≤ 2 ^ 40) (g : Nat) (cap : List AV) (c : List UInt8 → List UInt8 → Int) (hg : g < 100000) (σ : List (List AV))
    (hp : ∀ a ∈ L, ∀ b ∈ M, ev g (.str a :: .str b :: cap) σ = some (.int .i64 (c a b), σ)) :
    ev 105 [.sl .sh (L.map .str), .sl .sh (M.map .str), .fn g cap] σ = some (.int .i64 (lexC c L M), σ) := by
  refine EV_post rfl Tryz.func105 rfl (by simp [Tryz.ntmps105]) (by kernel_rfl) (by kernel_rfl) ?_
  simp (maxSteps := 4000000) (disch := omega) [dT, dF, wrap64]
  refine Post_loop (I := fun i : Nat => ⟨[(0, .sl .sh (L.map .str)), (1, .sl .sh (M.map .str)), (2, .fn g cap), (11, .sl .sh (L.map .str)), (12, .int .i64 L.length), (13, .int .i64 i)], [], σ⟩)
    (Pr := fun i => i ≤ L.length ∧ i ≤ M.length ∧ lexC c L M = lexC c (L.drop i) (M.drop i)) (μ := fun i => L.length - i) (a := 0) (by simp) (by simp) ?_
  rintro i ⟨hi, hj, hn⟩
  by_cases hc : i < L.length
  · obtain ⟨x, hx⟩ : ∃ x, L[i] = x := ⟨_, rfl⟩
    have hx2 : L[i]? = some x := by rw [← hx]; exact List.getElem?_eq_getElem hc
    have w6 : IntKind.i64.wrap ((i : Int) + 1) = (i : Int) + 1 := wrap64 (by omega)
    rw [List.drop_eq_getElem_cons hc, hx] at hn
    by_cases hd : i < M.length
    · obtain ⟨y, hy⟩ : ∃ y, M[i] = y := ⟨_, rfl⟩
      have hy2 : M[i]? = some y := by rw [← hy]; exact List.getElem?_eq_getElem hd
      have hd' : ¬ M.length ≤ i := by omega
      rw [List.drop_eq_getElem_cons hd, hy] at hn
      have hq := hp x (hx ▸ List.getElem_mem hc) y (hy ▸ List.getElem_mem hd)
      by_cases hz : c x y = 0
      · have h2 : lexC c L M = lexC c (L.drop (i + 1)) (M.drop (i + 1)) := by rw [hn]; simp [lexC, orI, hz]
        simp (maxSteps := 4000000) [List.getElem?_cons_zero, List.getElem?_cons_succ, -getElem?_pos, hc, hd, hd', hx2, hy2, hg, hq, hz, w6]
        exact ⟨i + 1, ⟨by omega, by omega, h2⟩, by omega, by simp⟩
      · have h2 : lexC c L M = c x y := by rw [hn]; simp [lexC, orI, hz]
        simp (maxSteps := 4000000) [List.getElem?_cons_zero, List.getElem?_cons_succ, -getElem?_pos, hc, hd, hd', hx2, hy2, hg, hq, hz, h2, Tryz.results105]
    · have hd' : M.length ≤ i := by omega
      have h3 : M.drop i = [] := List.drop_of_length_le hd'
      have h2 : lexC c L M = 1 := by rw [hn, h3]; simp [lexC]
      simp (maxSteps := 4000000) [List.getElem?_cons_zero, List.getElem?_cons_succ, -getElem?_pos, hc, hd, hd', hx2, h2, Tryz.results105]
  · have hi' : i = L.length := by omega
    subst hi'
    rw [List.drop_length] at hn
    by_cases hd : L.length < M.length
    · have h2 : lexC c L M = -1 := by rw [hn, List.drop_eq_getElem_cons hd]; simp [lexC]
      simp (maxSteps := 4000000) [List.getElem?_cons_zero, List.getElem?_cons_succ, hd, h2, Tryz.results105]
    · have h2 : lexC c L M = 0 := by rw [hn, List.drop_of_length_le (by omega)]; simp [lexC]
      simp (maxSteps := 4000000) [List.getElem?_cons_zero, List.getElem?_cons_succ, hd, h2, Tryz.results105]
theorem pres1_eq (a b : List UInt8) (ha : a.length ≤ 2 ^ 40) (hb : b.length ≤ 2 ^ 40) (σ) : ev 106 [.str a, .str b] σ = some (.int .i64 (idC a b), σ) := by
  have h1 := allD_eq a ha
  have h2 := allD_eq b hb
  have h3 := Compare_eq a b
  have h4 := cmpNat_eq a.length b.length
  have h5 := fun σ => cmpOr_eq [natC a.length b.length, bytesC a b] (by simp) σ
  have h6 : orL [natC a.length b.length, bytesC a b] = orI (natC a.length b.length) (bytesC a b) := by simp only [orL, List.foldr_cons, List.foldr_nil, orI_zero]
  rw [h6] at h5
  simp only [List.map_cons, List.map_nil] at h5
  refine EV_post rfl Tryz.func106 rfl (by simp [Tryz.ntmps106]) (by kernel_rfl) (by kernel_rfl) ?_
  by_cases d1 : allB isD a = true
  · by_cases d2 : allB isD b = true
    · simp (maxSteps := 4000000) [List.getElem?_cons_zero, List.getElem?_cons_succ, h1, h2, h3, h4, h5, d1, d2, idC, Tryz.results106]
    · simp (maxSteps := 4000000) [List.getElem?_cons_zero, List.getElem?_cons_succ, h1, h2, h3, d1, d2, idC, Tryz.results106]
  · by_cases d2 : allB isD b = true
    · simp (maxSteps := 4000000) [List.getElem?_cons_zero, List.getElem?_cons_succ, h1, h2, h3, d1, d2, idC, Tryz.results106]
    · simp (maxSteps := 4000000) [List.getElem?_cons_zero, List.getElem?_cons_succ, h1, h2, h3, d1, d2, idC, Tryz.results106]
theorem pres_eq (a b : List UInt8) (ha : a.length ≤ 2 ^ 39) (hb : b.length ≤ 2 ^ 39) (σ) : ev 54 [.str a, .str b] σ = some (.int .i64 (presC a b), σ) := by
  have hmin : ∀ l : List UInt8, (if 1 < l.length then (1 : Int) else l.length) = ((min l.length 1 : Nat) : Int) := by intro l; split <;> omega
  have h1 := cmpNat_eq (min b.length 1) (min a.length 1)
  have h2 := Split1_eq a ha 46
  have h3 := Split1_eq b hb 46
  have h4 := fun σ => CompareFunc_eq (splitB 46 a) (splitB 46 b) (by have := splitB_many 46 a; omega) (by have := splitB_many 46 b; omega) 106 [] idC (by decide) σ
    (fun x hx y hy => pres1_eq x y (by have := splitB_le hx; omega) (by have := splitB_le hy; omega) σ)
  refine EV_post rfl Tryz.func54 rfl (by simp [Tryz.ntmps54]) (by kernel_rfl) (by kernel_rfl) ?_
  by_cases e1 : a = []
  · subst e1
    have h5 : presC [] b = natC (min b.length 1) 0 := by simp [presC]
    have h1' : ∀ σ, ev 53 [.int .i64 ((min b.length 1 : Nat) : Int), .int .i64 0] σ = some (.int .i64 (natC (min b.length 1) 0), σ) := h1
    simp (maxSteps := 4000000) [List.getElem?_cons_zero, List.getElem?_cons_succ, hmin, h1', h5, Tryz.results54]
  · by_cases e2 : b = []
    · subst e2
      have h5 : presC a [] = natC 0 (min a.length 1) := by simp [presC]
      have h1' : ∀ σ, ev 53 [.int .i64 0, .int .i64 ((min a.length 1 : Nat) : Int)] σ = some (.int .i64 (natC 0 (min a.length 1)), σ) := h1
      have e1' : a.isEmpty = false := by simpa using e1
      simp (maxSteps := 4000000) [List.getElem?_cons_zero, List.getElem?_cons_succ, e1', hmin, h1', h5, Tryz.results54]
    · have h5 : presC a b = lexC idC (splitB 46 a) (splitB 46 b) := by simp [presC, e1, e2]
      have e1' : a.isEmpty = false := by simpa using e1
      have e2' : b.isEmpty = false := by simpa using e2
      simp (maxSteps := 4000000) [List.getElem?_cons_zero, List.getElem?_cons_succ, e1', e2', h2, h3, h4, h5, Tryz.results54]
theorem cmpB_eq (a b : List UInt8) (ha : a.length ≤ 2 ^ 39) (hb : b.length ≤ 2 ^ 39) (σ) : ev 15 [.str a, .str b] σ = some (.int .i64 (cmpB a b), σ) := by
  have h1 := read_eq a ha
  have h2 := read_eq b hb
  have h3 := Compare_eq a b
  refine EV_post rfl Tryz.func15 rfl (by simp [Tryz.ntmps15]) (by kernel_rfl) (by kernel_rfl) ?_
  cases e1 : readB a with
  | none =>
    rw [e1] at h1
    cases e2 : readB b with
    | none =>
      rw [e2] at h2
      have h4 : cmpB a b = bytesC a b := by simp [cmpB, e1, e2]
      simp (maxSteps := 4000000) [List.getElem?_cons_zero, List.getElem?_cons_succ, h1, h2, h3, h4, verA, Tryz.results15]
    | some y =>
      rw [e2] at h2
      have h4 : cmpB a b = -1 := by simp [cmpB, e1, e2]
      simp (maxSteps := 4000000) [List.getElem?_cons_zero, List.getElem?_cons_succ, h1, h2, h3, h4, verA, Tryz.results15]
  | some x =>
    rw [e1] at h1
    cases e2 : readB b with
    | none =>
      rw [e2] at h2
      have h4 : cmpB a b = 1 := by simp [cmpB, e1, e2]
      simp (maxSteps := 4000000) [List.getElem?_cons_zero, List.getElem?_cons_succ, h1, h2, h3, h4, verA, Tryz.results15]
    | some y =>
      rw [e2] at h2
      have h4 : cmpB a b = verC x y := by simp [cmpB, e1, e2]
      have rx := readB_some e1
      have ry := readB_some e2
      have p1 : x.pre.length ≤ 2 ^ 39 := by
        have := rx.len; rw [rx.text] at this; unfold verT at this; split at this
        · rename_i q; rw [q]; simp
        · simp at this; omega
      have p2 : y.pre.length ≤ 2 ^ 39 := by
        have := ry.len; rw [ry.text] at this; unfold verT at this; split at this
        · rename_i q; rw [q]; simp
        · simp at this; omega
      have h5 := cmpNat_eq x.ma y.ma
      have h6 := cmpNat_eq x.mi y.mi
      have h7 := cmpNat_eq x.pa y.pa
      have h8 := pres_eq x.pre y.pre p1 p2
      have h9 := fun σ => cmpOr_eq [natC x.ma y.ma, natC x.mi y.mi, natC x.pa y.pa, presC x.pre y.pre] (by simp) σ
      have ha : orL [natC x.ma y.ma, natC x.mi y.mi, natC x.pa y.pa, presC x.pre y.pre] = verC x y := by
        unfold verC; simp only [orL, List.foldr_cons, List.foldr_nil, orI_zero]
      rw [ha] at h9
      simp only [List.map_cons, List.map_nil] at h9
      simp (maxSteps := 4000000) [List.getElem?_cons_zero, List.getElem?_cons_succ, h1, h2, h3, h4, h5, h6, h7, h8, h9, verA, Tryz.results15]
end Go.Proofs.Tryz.Ai
end
section
/- mod: what of versions is told; pseudo-versions. -/
namespace Go.Proofs.Tryz.Ai
open Go Go.AI Go.Proofs
set_option maxHeartbeats 2000000
set_option linter.unusedVariables false

theorem Itoa_eq (n : Nat) (hn : n < 10 ^ 18) (σ) : ev 87 [.int .i64 n] σ = some (.str (Lib.decDigits n), σ) := by
  rw [ev_Itoa]
  have : Lib.itoa (n : Int) = Lib.decDigits n := by unfold Lib.itoa; rw [if_neg (by omega)]; simp
  simp only [itoaT]
  rw [need_of (by omega), this]
theorem core_eq (x y z : Nat) (p : List UInt8) (hx : x < 10 ^ 18) (hy : y < 10 ^ 18) (hz : z < 10 ^ 18) (σ) : ev 84 [.agg [.int .i64 x, .int .i64 y, .int .i64 z, .str p]] σ = some (.str (coreT x y z), σ) := by
  have h1 := Itoa_eq x hx
  have h2 := Itoa_eq y hy
  have h3 := Itoa_eq z hz
  have l1 := decDigits_len 17 x hx
  have l2 := decDigits_len 17 y hy
  have l3 := decDigits_len 17 z hz
  unfold coreT
  generalize Lib.decDigits x = A at h1 l1 ⊢
  generalize Lib.decDigits y = B at h2 l2 ⊢
  generalize Lib.decDigits z = C at h3 l3 ⊢
  have n1 : 1 + A.length ≤ most := by unfold most; omega
  have n2 : A.length + 1 + 1 ≤ most := by unfold most; omega
  have n3 : A.length + 1 + 1 + B.length ≤ most := by unfold most; omega
  have n4 : A.length + (B.length + 1) + 1 + 1 ≤ most := by unfold most; omega
  have n5 : A.length + (B.length + 1 + 1) + 1 + C.length ≤ most := by unfold most; omega
  refine EV_post rfl Tryz.func84 rfl (by simp [Tryz.ntmps84]) (by kernel_rfl) (by kernel_rfl) ?_
  simp (maxSteps := 4000000) [List.getElem?_cons_zero, List.getElem?_cons_succ, n1, n2, n3, n4, n5, h1, h2, h3, Tryz.results84]
end Go.Proofs.Tryz.Ai
end
section
/- mod: what of versions is told; pseudo-versions. -/
namespace Go.Proofs.Tryz.Ai
open Go Go.AI Go.Proofs
set_option maxHeartbeats 2000000
set_option linter.unusedVariables false

theorem Valid_eq (s : List UInt8) (hl : s.length ≤ 2 ^ 39) (σ) : ev 16 [.str s] σ = some (.bool (readB s).isSome, σ) := by
  have h1 := read_eq s hl
  refine EV_post rfl Tryz.func16 rfl (by simp [Tryz.ntmps16]) (by kernel_rfl) (by kernel_rfl) ?_
  cases e1 : readB s with
  | none => rw [e1] at h1; simp (maxSteps := 4000000) [List.getElem?_cons_zero, List.getElem?_cons_succ, h1, verA, Tryz.results16]
  | some x => rw [e1] at h1; simp (maxSteps := 4000000) [List.getElem?_cons_zero, List.getElem?_cons_succ, h1, verA, Tryz.results16]
theorem Max_eq (a b : List UInt8) (ha : a.length ≤ 2 ^ 39) (hb : b.length ≤ 2 ^ 39) (σ) : ev 17 [.str a, .str b] σ = some (.str (if 0 < cmpB b a then b else a), σ) := by
  have h1 := cmpB_eq b a hb ha
  refine EV_post rfl Tryz.func17 rfl (by simp [Tryz.ntmps17]) (by kernel_rfl) (by kernel_rfl) ?_
  by_cases h : 0 < cmpB b a
  · simp (maxSteps := 4000000) [List.getElem?_cons_zero, List.getElem?_cons_succ, h1, h, Tryz.results17]
  · simp (maxSteps := 4000000) [List.getElem?_cons_zero, List.getElem?_cons_succ, h1, h, Tryz.results17]
def partsA : Option Ver → AV
  | some v => .tup [.int .i64 v.ma, .int .i64 v.mi, .int .i64 v.pa, .str v.pre, .bool true]
  | none => .tup [.int .i64 0, .int .i64 0, .int .i64 0, .str [], .bool false]
theorem Parts_eq (s : List UInt8) (hl : s.length ≤ 2 ^ 39) (σ) : ev 25 [.str s] σ = some (partsA (readB s), σ) := by
  have h1 := read_eq s hl
  refine EV_post rfl Tryz.func25 rfl (by simp [Tryz.ntmps25]) (by kernel_rfl) (by kernel_rfl) ?_
  cases e1 : readB s with
  | none => rw [e1] at h1; simp (maxSteps := 4000000) [List.getElem?_cons_zero, List.getElem?_cons_succ, h1, verA, partsA, Tryz.results25]
  | some x => rw [e1] at h1; simp (maxSteps := 4000000) [List.getElem?_cons_zero, List.getElem?_cons_succ, h1, verA, partsA, Tryz.results25]
theorem stamp1_eq (s : List UInt8) (b : Nat) (sh) (i : Nat) (hi : i + 2 ≤ s.length) (hs : s.length ≤ 2 ^ 39) (l m : List UInt8) (σ : List (List AV)) (hb : σ[b]? = some [.str s]) :
    ev 118 [.int .i64 i, .str l, .str m, .gp b 0 sh] σ = some (.bool (inB s i l m), σ) := by
  have w1 : IntKind.i64.wrap ((i : Int) + 2) = ((i + 2 : Nat) : Int) := by rw [wrap64 (by omega)]; omega
  have w2 : i ≤ i + 2 := by omega
  obtain ⟨x, hx⟩ : ∃ x, (s.take (i + 2)).drop i = x := ⟨_, rfl⟩
  refine EV_post rfl Tryz.func118 rfl (by simp [Tryz.ntmps118]) (by kernel_rfl) (by kernel_rfl) ?_
  by_cases h1 : Op.bytesLess x l = true
  · simp (maxSteps := 4000000) [List.getElem?_cons_zero, List.getElem?_cons_succ, -getElem?_pos, hb, w1, w2, hi, hx, h1, inB, Tryz.results118]
  · simp (maxSteps := 4000000) [List.getElem?_cons_zero, List.getElem?_cons_succ, -getElem?_pos, hb, w1, w2, hi, hx, h1, inB, Tryz.results118]
theorem stamp_eq (s : List UInt8) (hs : s.length ≤ 2 ^ 39) (σ) : ev 82 [.str s] σ = some (.bool (stampB s), σ) := by
  have ha := allD_eq s (by omega)
  refine EV_post rfl Tryz.func82 rfl (by simp [Tryz.ntmps82]) (by kernel_rfl) (by kernel_rfl) ?_
  by_cases h14 : s.length = 14
  · have h1 := fun l m => stamp1_eq s σ.length (some (9, 1)) 4 (by omega) hs l m (σ ++ [[.str s]]) (by simp)
    have h2 := fun l m => stamp1_eq s σ.length (some (9, 1)) 6 (by omega) hs l m (σ ++ [[.str s]]) (by simp)
    have h3 := fun l m => stamp1_eq s σ.length (some (9, 1)) 8 (by omega) hs l m (σ ++ [[.str s]]) (by simp)
    have h4 := fun l m => stamp1_eq s σ.length (some (9, 1)) 10 (by omega) hs l m (σ ++ [[.str s]]) (by simp)
    have h5 := fun l m => stamp1_eq s σ.length (some (9, 1)) 12 (by omega) hs l m (σ ++ [[.str s]]) (by simp)
    have q : ∀ n : Nat, ((OfNat.ofNat n : Nat) : Int) = (OfNat.ofNat n : Int) := fun n => rfl
    simp only [q] at h1 h2 h3 h4 h5
    by_cases d : allB isD s = true
    · by_cases e1 : inB s 4 [48, 49] [49, 50] = true
      · by_cases e2 : inB s 6 [48, 49] [51, 49] = true
        · by_cases e3 : inB s 8 [48, 48] [50, 51] = true
          · by_cases e4 : inB s 10 [48, 48] [53, 57] = true
            · simp (maxSteps := 4000000) [List.getElem?_cons_zero, List.getElem?_cons_succ, h14, ha, d, h1, h2, h3, h4, h5, e1, e2, e3, e4, stampB, Tryz.results82]
            · simp (maxSteps := 4000000) [List.getElem?_cons_zero, List.getElem?_cons_succ, h14, ha, d, h1, h2, h3, h4, h5, e1, e2, e3, e4, stampB, Tryz.results82]
          · simp (maxSteps := 4000000) [List.getElem?_cons_zero, List.getElem?_cons_succ, h14, ha, d, h1, h2, h3, e1, e2, e3, stampB, Tryz.results82]
        · simp (maxSteps := 4000000) [List.getElem?_cons_zero, List.getElem?_cons_succ, h14, ha, d, h1, h2, e1, e2, stampB, Tryz.results82]
      · simp (maxSteps := 4000000) [List.getElem?_cons_zero, List.getElem?_cons_succ, h14, ha, d, h1, e1, stampB, Tryz.results82]
    · simp (maxSteps := 4000000) [List.getElem?_cons_zero, List.getElem?_cons_succ, h14, ha, d, stampB, Tryz.results82]
  · simp (maxSteps := 4000000) [List.getElem?_cons_zero, List.getElem?_cons_succ, h14, stampB, Tryz.results82]
theorem revision1_eq (c : UInt8) (σ) : ev 119 [.int .u8 c.toNat] σ = some (.bool (isX c), σ) := by
  have h1 := digit_eq c
  refine EV_post rfl Tryz.func119 rfl (by simp [Tryz.ntmps119]) (by kernel_rfl) (by kernel_rfl) ?_
  by_cases d : isD c = true
  · simp (maxSteps := 4000000) [List.getElem?_cons_zero, List.getElem?_cons_succ, h1, d, isX, Tryz.results119]
  · by_cases e : 97 ≤ c.toNat
    · simp (maxSteps := 4000000) [List.getElem?_cons_zero, List.getElem?_cons_succ, h1, d, e, isX, Tryz.results119]
    · simp (maxSteps := 4000000) [List.getElem?_cons_zero, List.getElem?_cons_succ, h1, d, e, isX, Tryz.results119]
theorem revision_eq (s : List UInt8) (hs : s.length ≤ 2 ^ 39) (σ) : ev 83 [.str s] σ = some (.bool (revB s), σ) := by
  have h1 := fun σ => all_eq s (by omega) 119 [] isX (by decide) σ (fun c => revision1_eq c σ)
  refine EV_post rfl Tryz.func83 rfl (by simp [Tryz.ntmps83]) (by kernel_rfl) (by kernel_rfl) ?_
  by_cases h : s.length = 12
  · simp (maxSteps := 4000000) [List.getElem?_cons_zero, List.getElem?_cons_succ, h, h1, revB, Tryz.results83]
  · simp (maxSteps := 4000000) [List.getElem?_cons_zero, List.getElem?_cons_succ, h, revB, Tryz.results83]
end Go.Proofs.Tryz.Ai
end
section
/- mod: pseudo-versions are made. -/
namespace Go.Proofs.Tryz.Ai
open Go Go.AI Go.Proofs
set_option maxHeartbeats 2000000
set_option linter.unusedVariables false

theorem coreT_len (x y z : Nat) (hx : x < 10 ^ 18) (hy : y < 10 ^ 18) (hz : z < 10 ^ 18) : (coreT x y z).length ≤ 60 := by
  have l1 := decDigits_len 17 x hx
  have l2 := decDigits_len 17 y hy
  have l3 := decDigits_len 17 z hz
  unfold coreT
  generalize Lib.decDigits x = A at l1 ⊢
  generalize Lib.decDigits y = B at l2 ⊢
  generalize Lib.decDigits z = C at l3 ⊢
  simp; omega
theorem pseudo_eq (mj : Int) (base time rev : List UInt8) (hb : base.length ≤ 2 ^ 30) (ht : time.length ≤ 2 ^ 30) (hr : rev.length ≤ 2 ^ 30) (σ) :
    ev 35 [.int .i64 mj, .str base, .str time, .str rev] σ = some (.tup [.str (pseudoB mj base time rev).1, .int .i64 (pseudoB mj base time rev).2], σ) := by
  have hS := stamp_eq time (by omega)
  have hR := revision_eq rev (by omega)
  have hB := read_eq base (by omega)
  refine EV_post rfl Tryz.func35 rfl (by simp [Tryz.ntmps35]) (by kernel_rfl) (by kernel_rfl) ?_
  by_cases a1 : mj < 0
  · simp (maxSteps := 4000000) [List.getElem?_cons_zero, List.getElem?_cons_succ, a1, pseudoB, Tryz.results35]
  · by_cases a2 : 999999999 < mj
    · simp (maxSteps := 4000000) [List.getElem?_cons_zero, List.getElem?_cons_succ, a1, a2, pseudoB, Tryz.results35]
    · by_cases a3 : stampB time = true
      · by_cases a4 : revB rev = true
        · have n1 : time.length + 1 ≤ most := by unfold most; omega
          have n2 : time.length + 1 + rev.length ≤ most := by unfold most; omega
          obtain ⟨m, rfl⟩ := Int.eq_ofNat_of_zero_le (show 0 ≤ mj by omega)
          have a5 : m < 10 ^ 18 := by omega
          by_cases b1 : base = []
          · subst b1
            have e1 : readB [] = none := by simp [readB]
            rw [e1] at hB
            have hc := core_eq m 0 0 [] a5 (by omega) (by omega)
            have hl := coreT_len m 0 0 a5 (by omega) (by omega)
            have hP : pseudoT m [] (time ++ 45 :: rev) = coreT m 0 0 ++ 45 :: (time ++ 45 :: rev) := by simp [pseudoT, e1]
            have hpb : pseudoB m [] time rev = if (readB (coreT m 0 0 ++ 45 :: (time ++ 45 :: rev))).isSome then (coreT m 0 0 ++ 45 :: (time ++ 45 :: rev), 0) else ([], 8) := by
              unfold pseudoB; rw [if_neg (by omega), if_neg (by simp [a3, a4]), if_neg (by simp), Int.toNat_natCast, hP]
            rw [hpb]
            generalize coreT m 0 0 = K at hc hl
            have n3 : K.length + 1 ≤ most := by unfold most; omega
            have n4 : K.length + 1 + (time.length + (rev.length + 1)) ≤ most := by unfold most; omega
            have hV := Valid_eq (K ++ 45 :: (time ++ 45 :: rev)) (by simp; omega)
            have hc' : ∀ σ, ev 84 [.agg [.int .i64 m, .int .i64 0, .int .i64 0, .str []]] σ = some (.str K, σ) := hc
            by_cases v : (readB (K ++ 45 :: (time ++ 45 :: rev))).isSome = true
            · simp (maxSteps := 4000000) [List.getElem?_cons_zero, List.getElem?_cons_succ, a1, a2, hS, hR, hB, a3, a4, n1, n2, n3, n4, hc', hV, v, verA, Tryz.results35]
            · simp (maxSteps := 4000000) [List.getElem?_cons_zero, List.getElem?_cons_succ, a1, a2, hS, hR, hB, a3, a4, n1, n2, n3, n4, hc', hV, v, verA, Tryz.results35]
          · have b1' : base.isEmpty = false := by simpa using b1
            cases e1 : readB base with
            | none =>
              rw [e1] at hB
              have hpb : pseudoB m base time rev = ([], 8) := by
                unfold pseudoB; rw [if_neg (by omega), if_neg (by simp [a3, a4]), if_pos ⟨b1, by simp [e1]⟩]
              simp (maxSteps := 4000000) [List.getElem?_cons_zero, List.getElem?_cons_succ, a1, a2, hS, hR, hB, a3, a4, n1, n2, b1, b1', hpb, verA, Tryz.results35]
            | some x =>
              rw [e1] at hB
              have rx := readB_some e1
              by_cases c1 : x.ma = m
              · subst c1
                have lx : base.length ≤ 60 := rx.len
                by_cases d1 : x.pre = []
                · have w1 : IntKind.i64.wrap ((x.pa : Int) + 1) = ((x.pa + 1 : Nat) : Int) := by have := rx.pa; rw [wrap64 (by omega)]; omega
                  have hc := core_eq x.ma x.mi (x.pa + 1) x.pre a5 (by have := rx.mi; omega) (by have := rx.pa; omega)
                  have hl := coreT_len x.ma x.mi (x.pa + 1) a5 (by have := rx.mi; omega) (by have := rx.pa; omega)
                  have hP : pseudoT x.ma base (time ++ 45 :: rev) = coreT x.ma x.mi (x.pa + 1) ++ 45 :: 48 :: 46 :: (time ++ 45 :: rev) := by simp [pseudoT, e1, b1, d1]
                  have hpb : pseudoB x.ma base time rev = if (readB (coreT x.ma x.mi (x.pa + 1) ++ 45 :: 48 :: 46 :: (time ++ 45 :: rev))).isSome then (coreT x.ma x.mi (x.pa + 1) ++ 45 :: 48 :: 46 :: (time ++ 45 :: rev), 0) else ([], 8) := by
                    unfold pseudoB; rw [if_neg (by omega), if_neg (by simp [a3, a4]), if_neg (by simp [e1]), Int.toNat_natCast, hP]
                  rw [hpb]
                  rw [d1] at hc
                  generalize coreT x.ma x.mi (x.pa + 1) = K at hc hl
                  have n3 : K.length + 3 ≤ most := by unfold most; omega
                  have n4 : K.length + 3 + (time.length + (rev.length + 1)) ≤ most := by unfold most; omega
                  have n5 : K.length + (0 + 1 + 1 + 1) ≤ most := by unfold most; omega
                  have n6 : K.length + (0 + 1 + 1 + 1) + (time.length + (rev.length + 1)) ≤ most := by unfold most; omega
                  have hV := Valid_eq (K ++ 45 :: 48 :: 46 :: (time ++ 45 :: rev)) (by simp; omega)
                  have hc' : ∀ σ, ev 84 [.agg [.int .i64 x.ma, .int .i64 x.mi, .int .i64 ((x.pa : Int) + 1), .str []]] σ = some (.str K, σ) := hc
                  by_cases v : (readB (K ++ 45 :: 48 :: 46 :: (time ++ 45 :: rev))).isSome = true
                  · simp (maxSteps := 4000000) [List.getElem?_cons_zero, List.getElem?_cons_succ, a1, a2, hS, hR, hB, a3, a4, n1, n2, n3, n4, b1, b1', d1, w1, hc', hV, v, verA, Tryz.results35]
                  · simp (maxSteps := 4000000) [List.getElem?_cons_zero, List.getElem?_cons_succ, a1, a2, hS, hR, hB, a3, a4, n1, n2, n3, n4, b1, b1', d1, w1, hc', hV, v, verA, Tryz.results35]
                · have d1' : x.pre.isEmpty = false := by simpa using d1
                  have hP : pseudoT x.ma base (time ++ 45 :: rev) = base ++ 46 :: 48 :: 46 :: (time ++ 45 :: rev) := by simp [pseudoT, e1, b1, d1]
                  have hpb : pseudoB x.ma base time rev = if (readB (base ++ 46 :: 48 :: 46 :: (time ++ 45 :: rev))).isSome then (base ++ 46 :: 48 :: 46 :: (time ++ 45 :: rev), 0) else ([], 8) := by
                    unfold pseudoB; rw [if_neg (by omega), if_neg (by simp [a3, a4]), if_neg (by simp [e1]), Int.toNat_natCast, hP]
                  rw [hpb]
                  have n3 : base.length + 3 ≤ most := by unfold most; omega
                  have n4 : base.length + 3 + (time.length + (rev.length + 1)) ≤ most := by unfold most; omega
                  have hV := Valid_eq (base ++ 46 :: 48 :: 46 :: (time ++ 45 :: rev)) (by simp; omega)
                  by_cases v : (readB (base ++ 46 :: 48 :: 46 :: (time ++ 45 :: rev))).isSome = true
                  · simp (maxSteps := 4000000) [List.getElem?_cons_zero, List.getElem?_cons_succ, a1, a2, hS, hR, hB, a3, a4, n1, n2, n3, n4, b1, b1', d1, d1', hV, v, verA, Tryz.results35]
                  · simp (maxSteps := 4000000) [List.getElem?_cons_zero, List.getElem?_cons_succ, a1, a2, hS, hR, hB, a3, a4, n1, n2, n3, n4, b1, b1', d1, d1', hV, v, verA, Tryz.results35]
              · have hpb : pseudoB m base time rev = ([], 8) := by
                  unfold pseudoB; rw [if_neg (by omega), if_neg (by simp [a3, a4]), if_pos ⟨b1, fun y hy => by rw [e1] at hy; injection hy with hy; subst hy; omega⟩]
                simp (maxSteps := 4000000) [List.getElem?_cons_zero, List.getElem?_cons_succ, a1, a2, hS, hR, hB, a3, a4, n1, n2, b1, b1', c1, hpb, verA, Tryz.results35]
        · simp (maxSteps := 4000000) [List.getElem?_cons_zero, List.getElem?_cons_succ, a1, a2, hS, hR, a3, a4, pseudoB, Tryz.results35]
      · simp (maxSteps := 4000000) [List.getElem?_cons_zero, List.getElem?_cons_succ, a1, a2, hS, a3, pseudoB, Tryz.results35]
end Go.Proofs.Tryz.Ai
end
