/- Part 5 of a proof: a Go function is evaluated on abstract values (texts Facts .. Mr1); no conditions beyond those of each theorem. -/
import Derived.Test.YtlpnjleajkdnpaaGreatDoorAi4
import Derived.Test.YtlpnjleajkdnpaaGreatDoorProg
import Derived.KernelRfl
import Derived.Lib.Strings
import Derived.Lib.Slices
import Derived.Lib.Walk
import Derived.Lib.Builder
import Derived.Lib.UnsafeStr
import Derived.Lib.MakeNoZero
import Derived.WalkKit
import Derived.Laws.Externs
import Derived.RegionTactic
import Derived.BigRegion
import Derived.Laws.CopyRow
import Derived.Lib.Bytealg
import Derived.Shelf.Strconv.Itoa3
import Derived.Lib.AppendIntMem
import Derived.Shelf.Strings.Search2
import Derived.Shelf.Strings.LastIndexAll
import Derived.Shelf.Strings.Cut
import Derived.Shelf.Strings.Split
import Derived.Shelf.Small.Wraps
import Derived.Shelf.Strings.Prefix
import Derived.Shelf.Strings.Trim
import Derived.Shelf.Strings.FuncGrows
import Derived.Shelf.Vars
import Derived.Lib.SmallJoins
import Derived.Lib.SplitLaws
set_option linter.all false
set_option linter.unusedVariables false
set_option linter.unusedSimpArgs false
set_option linter.unnecessarySimpa false
section
namespace Go.Proofs.Tryz.Ai
open Go Go.AI Go.Proofs
@[simp] theorem size2 : sizeA Tryz.prog 2 = some 1 := by kernel_rfl
@[simp] theorem bytes2 : bytesA Tryz.prog 2 = some 8 := by kernel_rfl
@[simp] theorem agg2 : isAggA Tryz.prog 2 = some false := by kernel_rfl
@[simp] theorem elem2 : elemA Tryz.prog 2 = none := by kernel_rfl
@[simp] theorem zero2 : zeroA Tryz.prog 2 = some (.int .i64 0) := by kernel_rfl
@[simp] theorem und2 : Tryz.prog.underlying 2 = some (.int .i64) := by kernel_rfl
@[simp] theorem size3 : sizeA Tryz.prog 3 = some 1 := by kernel_rfl
@[simp] theorem bytes3 : bytesA Tryz.prog 3 = some 8 := by kernel_rfl
@[simp] theorem agg3 : isAggA Tryz.prog 3 = some false := by kernel_rfl
@[simp] theorem elem3 : elemA Tryz.prog 3 = none := by kernel_rfl
@[simp] theorem zero3 : zeroA Tryz.prog 3 = some (.int .i64 0) := by kernel_rfl
@[simp] theorem und3 : Tryz.prog.underlying 3 = some (.int .i64) := by kernel_rfl
@[simp] theorem size4 : sizeA Tryz.prog 4 = some 1 := by kernel_rfl
@[simp] theorem bytes4 : bytesA Tryz.prog 4 = some 1 := by kernel_rfl
@[simp] theorem agg4 : isAggA Tryz.prog 4 = some false := by kernel_rfl
@[simp] theorem elem4 : elemA Tryz.prog 4 = none := by kernel_rfl
@[simp] theorem zero4 : zeroA Tryz.prog 4 = some (.bool false) := by kernel_rfl
@[simp] theorem und4 : Tryz.prog.underlying 4 = some .bool := by kernel_rfl
@[simp] theorem size5 : sizeA Tryz.prog 5 = some 1 := by kernel_rfl
@[simp] theorem bytes5 : bytesA Tryz.prog 5 = some 1 := by kernel_rfl
@[simp] theorem agg5 : isAggA Tryz.prog 5 = some false := by kernel_rfl
@[simp] theorem elem5 : elemA Tryz.prog 5 = none := by kernel_rfl
@[simp] theorem zero5 : zeroA Tryz.prog 5 = some (.int .u8 0) := by kernel_rfl
@[simp] theorem und5 : Tryz.prog.underlying 5 = some (.int .u8) := by kernel_rfl
@[simp] theorem size9 : sizeA Tryz.prog 9 = some 1 := by kernel_rfl
@[simp] theorem bytes9 : bytesA Tryz.prog 9 = some 16 := by kernel_rfl
@[simp] theorem agg9 : isAggA Tryz.prog 9 = some false := by kernel_rfl
@[simp] theorem elem9 : elemA Tryz.prog 9 = none := by kernel_rfl
@[simp] theorem zero9 : zeroA Tryz.prog 9 = some (.str []) := by kernel_rfl
@[simp] theorem und9 : Tryz.prog.underlying 9 = some .string := by kernel_rfl
@[simp] theorem size20 : sizeA Tryz.prog 20 = some 1 := by kernel_rfl
@[simp] theorem bytes20 : bytesA Tryz.prog 20 = some 16 := by kernel_rfl
@[simp] theorem agg20 : isAggA Tryz.prog 20 = some false := by kernel_rfl
@[simp] theorem elem20 : elemA Tryz.prog 20 = none := by kernel_rfl
@[simp] theorem zero20 : zeroA Tryz.prog 20 = some .nili := by kernel_rfl
@[simp] theorem size21 : sizeA Tryz.prog 21 = some 1 := by kernel_rfl
@[simp] theorem bytes21 : bytesA Tryz.prog 21 = some 4 := by kernel_rfl
@[simp] theorem agg21 : isAggA Tryz.prog 21 = some false := by kernel_rfl
@[simp] theorem elem21 : elemA Tryz.prog 21 = none := by kernel_rfl
@[simp] theorem zero21 : zeroA Tryz.prog 21 = some (.int .i32 0) := by kernel_rfl
@[simp] theorem und21 : Tryz.prog.underlying 21 = some (.int .i32) := by kernel_rfl
@[simp] theorem size22 : sizeA Tryz.prog 22 = some 1 := by kernel_rfl
@[simp] theorem bytes22 : bytesA Tryz.prog 22 = some 24 := by kernel_rfl
@[simp] theorem agg22 : isAggA Tryz.prog 22 = some false := by kernel_rfl
@[simp] theorem elem22 : elemA Tryz.prog 22 = some 56 := by kernel_rfl
@[simp] theorem zero22 : zeroA Tryz.prog 22 = some (.sl .nil []) := by kernel_rfl
@[simp] theorem und22 : Tryz.prog.underlying 22 = some (.slice 56) := by kernel_rfl
@[simp] theorem size23 : sizeA Tryz.prog 23 = some 1 := by kernel_rfl
@[simp] theorem bytes23 : bytesA Tryz.prog 23 = some 24 := by kernel_rfl
@[simp] theorem agg23 : isAggA Tryz.prog 23 = some false := by kernel_rfl
@[simp] theorem elem23 : elemA Tryz.prog 23 = some 5 := by kernel_rfl
@[simp] theorem zero23 : zeroA Tryz.prog 23 = some (.sl .nil []) := by kernel_rfl
@[simp] theorem und23 : Tryz.prog.underlying 23 = some (.slice 5) := by kernel_rfl
@[simp] theorem size26 : sizeA Tryz.prog 26 = some 1 := by kernel_rfl
@[simp] theorem bytes26 : bytesA Tryz.prog 26 = some 24 := by kernel_rfl
@[simp] theorem agg26 : isAggA Tryz.prog 26 = some false := by kernel_rfl
@[simp] theorem elem26 : elemA Tryz.prog 26 = some 36 := by kernel_rfl
@[simp] theorem zero26 : zeroA Tryz.prog 26 = some (.sl .nil []) := by kernel_rfl
@[simp] theorem und26 : Tryz.prog.underlying 26 = some (.slice 36) := by kernel_rfl
@[simp] theorem size27 : sizeA Tryz.prog 27 = some 1 := by kernel_rfl
@[simp] theorem bytes27 : bytesA Tryz.prog 27 = some 24 := by kernel_rfl
@[simp] theorem agg27 : isAggA Tryz.prog 27 = some false := by kernel_rfl
@[simp] theorem elem27 : elemA Tryz.prog 27 = some 41 := by kernel_rfl
@[simp] theorem zero27 : zeroA Tryz.prog 27 = some (.sl .nil []) := by kernel_rfl
@[simp] theorem und27 : Tryz.prog.underlying 27 = some (.slice 41) := by kernel_rfl
@[simp] theorem size30 : sizeA Tryz.prog 30 = some 1 := by kernel_rfl
@[simp] theorem bytes30 : bytesA Tryz.prog 30 = some 8 := by kernel_rfl
@[simp] theorem agg30 : isAggA Tryz.prog 30 = some false := by kernel_rfl
@[simp] theorem elem30 : elemA Tryz.prog 30 = none := by kernel_rfl
@[simp] theorem zero30 : zeroA Tryz.prog 30 = some (.int .i64 0) := by kernel_rfl
@[simp] theorem und30 : Tryz.prog.underlying 30 = some (.int .i64) := by kernel_rfl
@[simp] theorem size36 : sizeA Tryz.prog 36 = some 2 := by kernel_rfl
@[simp] theorem bytes36 : bytesA Tryz.prog 36 = some 32 := by kernel_rfl
@[simp] theorem agg36 : isAggA Tryz.prog 36 = some true := by kernel_rfl
@[simp] theorem elem36 : elemA Tryz.prog 36 = none := by kernel_rfl
@[simp] theorem zero36 : zeroA Tryz.prog 36 = some (.agg [(.str []), (.str [])]) := by kernel_rfl
@[simp] theorem bpl36 : buildPl Tryz.prog 36 = some (fun i => [(0, 1), (1, 1)][i]?) := by kernel_rfl
@[simp] theorem size41 : sizeA Tryz.prog 41 = some 2 := by kernel_rfl
@[simp] theorem bytes41 : bytesA Tryz.prog 41 = some 40 := by kernel_rfl
@[simp] theorem agg41 : isAggA Tryz.prog 41 = some true := by kernel_rfl
@[simp] theorem elem41 : elemA Tryz.prog 41 = none := by kernel_rfl
@[simp] theorem zero41 : zeroA Tryz.prog 41 = some (.agg [(.str []), (.sl .nil [])]) := by kernel_rfl
@[simp] theorem bpl41 : buildPl Tryz.prog 41 = some (fun i => [(0, 1), (1, 1)][i]?) := by kernel_rfl
@[simp] theorem size50 : sizeA Tryz.prog 50 = some 2 := by kernel_rfl
@[simp] theorem bytes50 : bytesA Tryz.prog 50 = some 32 := by kernel_rfl
@[simp] theorem agg50 : isAggA Tryz.prog 50 = some true := by kernel_rfl
@[simp] theorem elem50 : elemA Tryz.prog 50 = none := by kernel_rfl
@[simp] theorem zero50 : zeroA Tryz.prog 50 = some (.agg [(.int .i64 0), (.sl .nil [])]) := by kernel_rfl
@[simp] theorem bpl50 : buildPl Tryz.prog 50 = some (fun i => [(0, 1), (1, 1)][i]?) := by kernel_rfl
@[simp] theorem size51 : sizeA Tryz.prog 51 = some 1 := by kernel_rfl
@[simp] theorem bytes51 : bytesA Tryz.prog 51 = some 24 := by kernel_rfl
@[simp] theorem agg51 : isAggA Tryz.prog 51 = some false := by kernel_rfl
@[simp] theorem elem51 : elemA Tryz.prog 51 = some 9 := by kernel_rfl
@[simp] theorem zero51 : zeroA Tryz.prog 51 = some (.sl .nil []) := by kernel_rfl
@[simp] theorem und51 : Tryz.prog.underlying 51 = some (.slice 9) := by kernel_rfl
@[simp] theorem size53 : sizeA Tryz.prog 53 = some 3 := by kernel_rfl
@[simp] theorem bytes53 : bytesA Tryz.prog 53 = some 64 := by kernel_rfl
@[simp] theorem agg53 : isAggA Tryz.prog 53 = some true := by kernel_rfl
@[simp] theorem elem53 : elemA Tryz.prog 53 = none := by kernel_rfl
@[simp] theorem zero53 : zeroA Tryz.prog 53 = some (.agg [(.str []), (.sl .nil []), (.sl .nil [])]) := by kernel_rfl
@[simp] theorem bpl53 : buildPl Tryz.prog 53 = some (fun i => [(0, 1), (1, 1), (2, 1)][i]?) := by kernel_rfl
@[simp] theorem size56 : sizeA Tryz.prog 56 = some 2 := by kernel_rfl
@[simp] theorem bytes56 : bytesA Tryz.prog 56 = some 40 := by kernel_rfl
@[simp] theorem agg56 : isAggA Tryz.prog 56 = some true := by kernel_rfl
@[simp] theorem elem56 : elemA Tryz.prog 56 = none := by kernel_rfl
@[simp] theorem zero56 : zeroA Tryz.prog 56 = some (.agg [(.str []), (.sl .nil [])]) := by kernel_rfl
@[simp] theorem bpl56 : buildPl Tryz.prog 56 = some (fun i => [(0, 1), (1, 1)][i]?) := by kernel_rfl
@[simp] theorem size59 : sizeA Tryz.prog 59 = some 1 := by kernel_rfl
@[simp] theorem bytes59 : bytesA Tryz.prog 59 = some 4 := by kernel_rfl
@[simp] theorem agg59 : isAggA Tryz.prog 59 = some false := by kernel_rfl
@[simp] theorem elem59 : elemA Tryz.prog 59 = none := by kernel_rfl
@[simp] theorem zero59 : zeroA Tryz.prog 59 = some (.int .u32 0) := by kernel_rfl
@[simp] theorem und59 : Tryz.prog.underlying 59 = some (.int .u32) := by kernel_rfl
@[simp] theorem size64 : sizeA Tryz.prog 64 = some 1 := by kernel_rfl
@[simp] theorem bytes64 : bytesA Tryz.prog 64 = some 8 := by kernel_rfl
@[simp] theorem agg64 : isAggA Tryz.prog 64 = some false := by kernel_rfl
@[simp] theorem elem64 : elemA Tryz.prog 64 = none := by kernel_rfl
@[simp] theorem zero64 : zeroA Tryz.prog 64 = some .nilf := by kernel_rfl
@[simp] theorem size65 : sizeA Tryz.prog 65 = some 1 := by kernel_rfl
@[simp] theorem bytes65 : bytesA Tryz.prog 65 = some 8 := by kernel_rfl
@[simp] theorem agg65 : isAggA Tryz.prog 65 = some false := by kernel_rfl
@[simp] theorem elem65 : elemA Tryz.prog 65 = none := by kernel_rfl
@[simp] theorem zero65 : zeroA Tryz.prog 65 = some .nilp := by kernel_rfl
@[simp] theorem size67 : sizeA Tryz.prog 67 = some 2 := by kernel_rfl
@[simp] theorem bytes67 : bytesA Tryz.prog 67 = some 32 := by kernel_rfl
@[simp] theorem agg67 : isAggA Tryz.prog 67 = some true := by kernel_rfl
@[simp] theorem elem67 : elemA Tryz.prog 67 = none := by kernel_rfl
@[simp] theorem zero67 : zeroA Tryz.prog 67 = some (.agg [.nilp, (.sl .nil [])]) := by kernel_rfl
@[simp] theorem bpl67 : buildPl Tryz.prog 67 = some (fun i => [(0, 1), (1, 1)][i]?) := by kernel_rfl
@[simp] theorem size69 : sizeA Tryz.prog 69 = some 1 := by kernel_rfl
@[simp] theorem bytes69 : bytesA Tryz.prog 69 = some 16 := by kernel_rfl
@[simp] theorem agg69 : isAggA Tryz.prog 69 = some false := by kernel_rfl
@[simp] theorem elem69 : elemA Tryz.prog 69 = none := by kernel_rfl
@[simp] theorem zero69 : zeroA Tryz.prog 69 = some .nili := by kernel_rfl
@[simp] theorem size72 : sizeA Tryz.prog 72 = some 1 := by kernel_rfl
@[simp] theorem bytes72 : bytesA Tryz.prog 72 = some 8 := by kernel_rfl
@[simp] theorem agg72 : isAggA Tryz.prog 72 = some false := by kernel_rfl
@[simp] theorem elem72 : elemA Tryz.prog 72 = none := by kernel_rfl
@[simp] theorem zero72 : zeroA Tryz.prog 72 = some (.int .u64 0) := by kernel_rfl
@[simp] theorem und72 : Tryz.prog.underlying 72 = some (.int .u64) := by kernel_rfl
@[simp] theorem size76 : sizeA Tryz.prog 76 = some 64 := by kernel_rfl
@[simp] theorem bytes76 : bytesA Tryz.prog 76 = some 256 := by kernel_rfl
@[simp] theorem agg76 : isAggA Tryz.prog 76 = some true := by kernel_rfl
@[simp] theorem elem76 : elemA Tryz.prog 76 = none := by kernel_rfl
@[simp] theorem zero76 : zeroA Tryz.prog 76 = some (.agg (List.replicate 64 (.int .u32 0))) := by kernel_rfl
@[simp] theorem bpl76 : buildPl Tryz.prog 76 = some (fun i => some (i * 1, 1)) := by kernel_rfl
@[simp] theorem und76 : Tryz.prog.underlying 76 = some (.array 64 59) := by kernel_rfl
@[simp] theorem size79 : sizeA Tryz.prog 79 = some 8 := by kernel_rfl
@[simp] theorem bytes79 : bytesA Tryz.prog 79 = some 32 := by kernel_rfl
@[simp] theorem agg79 : isAggA Tryz.prog 79 = some true := by kernel_rfl
@[simp] theorem elem79 : elemA Tryz.prog 79 = none := by kernel_rfl
@[simp] theorem zero79 : zeroA Tryz.prog 79 = some (.agg [(.int .u32 0), (.int .u32 0), (.int .u32 0), (.int .u32 0), (.int .u32 0), (.int .u32 0), (.int .u32 0), (.int .u32 0)]) := by kernel_rfl
@[simp] theorem bpl79 : buildPl Tryz.prog 79 = some (fun i => some (i * 1, 1)) := by kernel_rfl
@[simp] theorem und79 : Tryz.prog.underlying 79 = some (.array 8 59) := by kernel_rfl
@[simp] theorem size82 : sizeA Tryz.prog 82 = some 1 := by kernel_rfl
@[simp] theorem bytes82 : bytesA Tryz.prog 82 = some 8 := by kernel_rfl
@[simp] theorem agg82 : isAggA Tryz.prog 82 = some false := by kernel_rfl
@[simp] theorem elem82 : elemA Tryz.prog 82 = none := by kernel_rfl
@[simp] theorem zero82 : zeroA Tryz.prog 82 = some .nilp := by kernel_rfl
@[simp] theorem size83 : sizeA Tryz.prog 83 = some 1 := by kernel_rfl
@[simp] theorem bytes83 : bytesA Tryz.prog 83 = some 24 := by kernel_rfl
@[simp] theorem agg83 : isAggA Tryz.prog 83 = some false := by kernel_rfl
@[simp] theorem elem83 : elemA Tryz.prog 83 = some 87 := by kernel_rfl
@[simp] theorem zero83 : zeroA Tryz.prog 83 = some (.sl .nil []) := by kernel_rfl
@[simp] theorem und83 : Tryz.prog.underlying 83 = some (.slice 87) := by kernel_rfl
@[simp] theorem size87 : sizeA Tryz.prog 87 = some 3 := by kernel_rfl
@[simp] theorem bytes87 : bytesA Tryz.prog 87 = some 48 := by kernel_rfl
@[simp] theorem agg87 : isAggA Tryz.prog 87 = some true := by kernel_rfl
@[simp] theorem elem87 : elemA Tryz.prog 87 = none := by kernel_rfl
@[simp] theorem zero87 : zeroA Tryz.prog 87 = some (.agg [(.str []), (.int .u32 0), (.sl .nil [])]) := by kernel_rfl
@[simp] theorem bpl87 : buildPl Tryz.prog 87 = some (fun i => [(0, 1), (1, 1), (2, 1)][i]?) := by kernel_rfl
@[simp] theorem size89 : sizeA Tryz.prog 89 = some 1 := by kernel_rfl
@[simp] theorem bytes89 : bytesA Tryz.prog 89 = some 8 := by kernel_rfl
@[simp] theorem agg89 : isAggA Tryz.prog 89 = some false := by kernel_rfl
@[simp] theorem elem89 : elemA Tryz.prog 89 = none := by kernel_rfl
@[simp] theorem zero89 : zeroA Tryz.prog 89 = some .nilf := by kernel_rfl
@[simp] theorem size91 : sizeA Tryz.prog 91 = some 1 := by kernel_rfl
@[simp] theorem bytes91 : bytesA Tryz.prog 91 = some 16 := by kernel_rfl
@[simp] theorem agg91 : isAggA Tryz.prog 91 = some false := by kernel_rfl
@[simp] theorem elem91 : elemA Tryz.prog 91 = none := by kernel_rfl
@[simp] theorem zero91 : zeroA Tryz.prog 91 = some .nili := by kernel_rfl
@[simp] theorem size95 : sizeA Tryz.prog 95 = some 1 := by kernel_rfl
@[simp] theorem bytes95 : bytesA Tryz.prog 95 = some 8 := by kernel_rfl
@[simp] theorem agg95 : isAggA Tryz.prog 95 = some false := by kernel_rfl
@[simp] theorem elem95 : elemA Tryz.prog 95 = none := by kernel_rfl
@[simp] theorem zero95 : zeroA Tryz.prog 95 = some .nilf := by kernel_rfl
@[simp] theorem size100 : sizeA Tryz.prog 100 = some 1 := by kernel_rfl
@[simp] theorem bytes100 : bytesA Tryz.prog 100 = some 8 := by kernel_rfl
@[simp] theorem agg100 : isAggA Tryz.prog 100 = some false := by kernel_rfl
@[simp] theorem elem100 : elemA Tryz.prog 100 = none := by kernel_rfl
@[simp] theorem zero100 : zeroA Tryz.prog 100 = some .nilp := by kernel_rfl
@[simp] theorem size101 : sizeA Tryz.prog 101 = some 1 := by kernel_rfl
@[simp] theorem bytes101 : bytesA Tryz.prog 101 = some 24 := by kernel_rfl
@[simp] theorem agg101 : isAggA Tryz.prog 101 = some false := by kernel_rfl
@[simp] theorem elem101 : elemA Tryz.prog 101 = some 59 := by kernel_rfl
@[simp] theorem zero101 : zeroA Tryz.prog 101 = some (.sl .nil []) := by kernel_rfl
@[simp] theorem und101 : Tryz.prog.underlying 101 = some (.slice 59) := by kernel_rfl
@[simp] theorem size103 : sizeA Tryz.prog 103 = some 1 := by kernel_rfl
@[simp] theorem bytes103 : bytesA Tryz.prog 103 = some 8 := by kernel_rfl
@[simp] theorem agg103 : isAggA Tryz.prog 103 = some false := by kernel_rfl
@[simp] theorem elem103 : elemA Tryz.prog 103 = none := by kernel_rfl
@[simp] theorem zero103 : zeroA Tryz.prog 103 = some (.int .u64 0) := by kernel_rfl
@[simp] theorem und103 : Tryz.prog.underlying 103 = some (.int .u64) := by kernel_rfl
@[simp] theorem size114 : sizeA Tryz.prog 114 = some 1 := by kernel_rfl
@[simp] theorem bytes114 : bytesA Tryz.prog 114 = some 8 := by kernel_rfl
@[simp] theorem agg114 : isAggA Tryz.prog 114 = some false := by kernel_rfl
@[simp] theorem elem114 : elemA Tryz.prog 114 = none := by kernel_rfl
@[simp] theorem zero114 : zeroA Tryz.prog 114 = some .nilp := by kernel_rfl
@[simp] theorem size124 : sizeA Tryz.prog 124 = some 24 := by kernel_rfl
@[simp] theorem bytes124 : bytesA Tryz.prog 124 = some 24 := by kernel_rfl
@[simp] theorem agg124 : isAggA Tryz.prog 124 = some true := by kernel_rfl
@[simp] theorem elem124 : elemA Tryz.prog 124 = none := by kernel_rfl
@[simp] theorem zero124 : zeroA Tryz.prog 124 = some (.agg (List.replicate 24 (.int .u8 0))) := by kernel_rfl
@[simp] theorem bpl124 : buildPl Tryz.prog 124 = some (fun i => some (i * 1, 1)) := by kernel_rfl
@[simp] theorem und124 : Tryz.prog.underlying 124 = some (.array 24 5) := by kernel_rfl
@[simp] theorem size135 : sizeA Tryz.prog 135 = some 20 := by kernel_rfl
@[simp] theorem bytes135 : bytesA Tryz.prog 135 = some 160 := by kernel_rfl
@[simp] theorem agg135 : isAggA Tryz.prog 135 = some true := by kernel_rfl
@[simp] theorem elem135 : elemA Tryz.prog 135 = none := by kernel_rfl
@[simp] theorem zero135 : zeroA Tryz.prog 135 = some (.agg (List.replicate 20 (.int .u64 0))) := by kernel_rfl
@[simp] theorem bpl135 : buildPl Tryz.prog 135 = some (fun i => some (i * 1, 1)) := by kernel_rfl
@[simp] theorem und135 : Tryz.prog.underlying 135 = some (.array 20 103) := by kernel_rfl
@[simp] theorem size136 : sizeA Tryz.prog 136 = some 65 := by kernel_rfl
@[simp] theorem bytes136 : bytesA Tryz.prog 136 = some 65 := by kernel_rfl
@[simp] theorem agg136 : isAggA Tryz.prog 136 = some true := by kernel_rfl
@[simp] theorem elem136 : elemA Tryz.prog 136 = none := by kernel_rfl
@[simp] theorem bpl136 : buildPl Tryz.prog 136 = some (fun i => some (i * 1, 1)) := by kernel_rfl
@[simp] theorem und136 : Tryz.prog.underlying 136 = some (.array 65 5) := by kernel_rfl
@[simp] theorem size144 : sizeA Tryz.prog 144 = some 256 := by kernel_rfl
@[simp] theorem bytes144 : bytesA Tryz.prog 144 = some 256 := by kernel_rfl
@[simp] theorem agg144 : isAggA Tryz.prog 144 = some true := by kernel_rfl
@[simp] theorem elem144 : elemA Tryz.prog 144 = none := by kernel_rfl
@[simp] theorem bpl144 : buildPl Tryz.prog 144 = some (fun i => some (i * 1, 1)) := by kernel_rfl
@[simp] theorem und144 : Tryz.prog.underlying 144 = some (.array 256 4) := by kernel_rfl
@[simp] theorem size148 : sizeA Tryz.prog 148 = some 1 := by kernel_rfl
@[simp] theorem bytes148 : bytesA Tryz.prog 148 = some 8 := by kernel_rfl
@[simp] theorem agg148 : isAggA Tryz.prog 148 = some false := by kernel_rfl
@[simp] theorem elem148 : elemA Tryz.prog 148 = none := by kernel_rfl
@[simp] theorem zero148 : zeroA Tryz.prog 148 = some .nilp := by kernel_rfl
@[simp] theorem size152 : sizeA Tryz.prog 152 = some 32 := by kernel_rfl
@[simp] theorem bytes152 : bytesA Tryz.prog 152 = some 32 := by kernel_rfl
@[simp] theorem agg152 : isAggA Tryz.prog 152 = some true := by kernel_rfl
@[simp] theorem elem152 : elemA Tryz.prog 152 = none := by kernel_rfl
@[simp] theorem zero152 : zeroA Tryz.prog 152 = some (.agg (List.replicate 32 (.int .u8 0))) := by kernel_rfl
@[simp] theorem bpl152 : buildPl Tryz.prog 152 = some (fun i => some (i * 1, 1)) := by kernel_rfl
@[simp] theorem und152 : Tryz.prog.underlying 152 = some (.array 32 5) := by kernel_rfl
@[simp] theorem size153 : sizeA Tryz.prog 153 = some 64 := by kernel_rfl
@[simp] theorem bytes153 : bytesA Tryz.prog 153 = some 64 := by kernel_rfl
@[simp] theorem agg153 : isAggA Tryz.prog 153 = some true := by kernel_rfl
@[simp] theorem elem153 : elemA Tryz.prog 153 = none := by kernel_rfl
@[simp] theorem zero153 : zeroA Tryz.prog 153 = some (.agg (List.replicate 64 (.int .u8 0))) := by kernel_rfl
@[simp] theorem bpl153 : buildPl Tryz.prog 153 = some (fun i => some (i * 1, 1)) := by kernel_rfl
@[simp] theorem und153 : Tryz.prog.underlying 153 = some (.array 64 5) := by kernel_rfl
@[simp] theorem size154 : sizeA Tryz.prog 154 = some 256 := by kernel_rfl
@[simp] theorem bytes154 : bytesA Tryz.prog 154 = some 256 := by kernel_rfl
@[simp] theorem agg154 : isAggA Tryz.prog 154 = some true := by kernel_rfl
@[simp] theorem elem154 : elemA Tryz.prog 154 = none := by kernel_rfl
@[simp] theorem bpl154 : buildPl Tryz.prog 154 = some (fun i => some (i * 1, 1)) := by kernel_rfl
@[simp] theorem und154 : Tryz.prog.underlying 154 = some (.array 256 5) := by kernel_rfl
@[simp] theorem size156 : sizeA Tryz.prog 156 = some 2 := by kernel_rfl
@[simp] theorem bytes156 : bytesA Tryz.prog 156 = some 2 := by kernel_rfl
@[simp] theorem agg156 : isAggA Tryz.prog 156 = some true := by kernel_rfl
@[simp] theorem elem156 : elemA Tryz.prog 156 = none := by kernel_rfl
@[simp] theorem zero156 : zeroA Tryz.prog 156 = some (.agg [(.int .u8 0), (.int .u8 0)]) := by kernel_rfl
@[simp] theorem bpl156 : buildPl Tryz.prog 156 = some (fun i => [(0, 1), (1, 1)][i]?) := by kernel_rfl
@[simp] theorem size157 : sizeA Tryz.prog 157 = some 32 := by kernel_rfl
@[simp] theorem bytes157 : bytesA Tryz.prog 157 = some 32 := by kernel_rfl
@[simp] theorem agg157 : isAggA Tryz.prog 157 = some true := by kernel_rfl
@[simp] theorem elem157 : elemA Tryz.prog 157 = none := by kernel_rfl
@[simp] theorem zero157 : zeroA Tryz.prog 157 = some (.agg (List.replicate 32 (.int .u8 0))) := by kernel_rfl
@[simp] theorem bpl157 : buildPl Tryz.prog 157 = some (fun i => some (i * 2, 2)) := by kernel_rfl
@[simp] theorem und157 : Tryz.prog.underlying 157 = some (.array 16 156) := by kernel_rfl
@[simp] theorem field36x0 : fieldA Tryz.prog 36 0 = some (0, 9) := by kernel_rfl
@[simp] theorem field36x1 : fieldA Tryz.prog 36 1 = some (1, 9) := by kernel_rfl
@[simp] theorem field41x0 : fieldA Tryz.prog 41 0 = some (0, 9) := by kernel_rfl
@[simp] theorem field41x1 : fieldA Tryz.prog 41 1 = some (1, 23) := by kernel_rfl
@[simp] theorem field50x0 : fieldA Tryz.prog 50 0 = some (0, 3) := by kernel_rfl
@[simp] theorem field50x1 : fieldA Tryz.prog 50 1 = some (1, 23) := by kernel_rfl
@[simp] theorem field53x0 : fieldA Tryz.prog 53 0 = some (0, 9) := by kernel_rfl
@[simp] theorem field53x1 : fieldA Tryz.prog 53 1 = some (1, 51) := by kernel_rfl
@[simp] theorem field53x2 : fieldA Tryz.prog 53 2 = some (2, 51) := by kernel_rfl
@[simp] theorem field56x0 : fieldA Tryz.prog 56 0 = some (0, 9) := by kernel_rfl
@[simp] theorem field56x1 : fieldA Tryz.prog 56 1 = some (1, 23) := by kernel_rfl
@[simp] theorem field67x0 : fieldA Tryz.prog 67 0 = some (0, 65) := by kernel_rfl
@[simp] theorem field67x1 : fieldA Tryz.prog 67 1 = some (1, 23) := by kernel_rfl
@[simp] theorem field87x0 : fieldA Tryz.prog 87 0 = some (0, 9) := by kernel_rfl
@[simp] theorem field87x1 : fieldA Tryz.prog 87 1 = some (1, 59) := by kernel_rfl
@[simp] theorem field87x2 : fieldA Tryz.prog 87 2 = some (2, 23) := by kernel_rfl
@[simp] theorem field156x0 : fieldA Tryz.prog 156 0 = some (0, 5) := by kernel_rfl
@[simp] theorem field156x1 : fieldA Tryz.prog 156 1 = some (1, 5) := by kernel_rfl
@[simp] theorem iface20 : isIface Tryz.prog 20 = true := by kernel_rfl
@[simp] theorem func64 : isFuncT Tryz.prog 64 = true := by kernel_rfl
@[simp] theorem iface69 : isIface Tryz.prog 69 = true := by kernel_rfl
@[simp] theorem func89 : isFuncT Tryz.prog 89 = true := by kernel_rfl
@[simp] theorem iface91 : isIface Tryz.prog 91 = true := by kernel_rfl
@[simp] theorem func95 : isFuncT Tryz.prog 95 = true := by kernel_rfl
def h2 : Hint where
  vars := []
  conds := []
  steal := []
  live := []
  roots := []
  rets := true
  glob := []
  sw := []
  msd := []
  alt := []
  fz := 0
  gc := false
  wk := false
  rt := false
  inv := []
  mv := []
@[simp] theorem h2_vars : h2.vars = [] := rfl
@[simp] theorem h2_conds : h2.conds = [] := rfl
@[simp] theorem h2_steal : h2.steal = [] := rfl
@[simp] theorem h2_live : h2.live = [] := rfl
@[simp] theorem h2_roots : h2.roots = [] := rfl
@[simp] theorem h2_rets : h2.rets = true := rfl
@[simp] theorem h2_glob : h2.glob = [] := rfl
@[simp] theorem h2_sw : h2.sw = [] := rfl
@[simp] theorem h2_msd : h2.msd = [] := rfl
@[simp] theorem h2_alt : h2.alt = [] := rfl
@[simp] theorem h2_fz : h2.fz = 0 := rfl
@[simp] theorem h2_gc : h2.gc = false := rfl
@[simp] theorem h2_wk : h2.wk = false := rfl
@[simp] theorem h2_rt : h2.rt = false := rfl
@[simp] theorem h2_inv : h2.inv = [] := rfl
@[simp] theorem h2_mv : h2.mv = [] := rfl
def h3 : Hint where
  vars := [0, 1, 2, 6, 7, 8, 9, 10, 11, 12, 13, 14, 15, 16, 17, 18]
  conds := [37, 46, 62, 107]
  steal := [24, 25, 28, 33, 38, 39, 40, 44, 45, 47, 52, 53, 58, 63, 79, 85, 108, 109, 111, 112, 114]
  live := [(11, [0, 2, 9, 10, 12, 13, 14, 15, 16])]
  roots := []
  rets := true
  glob := []
  sw := []
  msd := []
  alt := []
  fz := 0
  gc := false
  wk := false
  rt := false
  inv := []
  mv := []
@[simp] theorem h3_vars : h3.vars = [0, 1, 2, 6, 7, 8, 9, 10, 11, 12, 13, 14, 15, 16, 17, 18] := rfl
@[simp] theorem h3_conds : h3.conds = [37, 46, 62, 107] := rfl
@[simp] theorem h3_steal : h3.steal = [24, 25, 28, 33, 38, 39, 40, 44, 45, 47, 52, 53, 58, 63, 79, 85, 108, 109, 111, 112, 114] := rfl
@[simp] theorem h3_live : h3.live = [(11, [0, 2, 9, 10, 12, 13, 14, 15, 16])] := rfl
@[simp] theorem h3_roots : h3.roots = [] := rfl
@[simp] theorem h3_rets : h3.rets = true := rfl
@[simp] theorem h3_glob : h3.glob = [] := rfl
@[simp] theorem h3_sw : h3.sw = [] := rfl
@[simp] theorem h3_msd : h3.msd = [] := rfl
@[simp] theorem h3_alt : h3.alt = [] := rfl
@[simp] theorem h3_fz : h3.fz = 0 := rfl
@[simp] theorem h3_gc : h3.gc = false := rfl
@[simp] theorem h3_wk : h3.wk = false := rfl
@[simp] theorem h3_rt : h3.rt = false := rfl
@[simp] theorem h3_inv : h3.inv = [] := rfl
@[simp] theorem h3_mv : h3.mv = [] := rfl
def h4 : Hint where
  vars := [0, 2, 3, 4, 5, 6, 7, 8, 9, 10]
  conds := []
  steal := [11, 16, 17, 22, 23, 28, 29, 34, 35, 36, 41, 42, 45, 46, 50, 51, 54, 55, 59, 60, 64, 65, 69, 74]
  live := []
  roots := []
  rets := true
  glob := []
  sw := []
  msd := []
  alt := []
  fz := 0
  gc := false
  wk := false
  rt := false
  inv := []
  mv := []
@[simp] theorem h4_vars : h4.vars = [0, 2, 3, 4, 5, 6, 7, 8, 9, 10] := rfl
@[simp] theorem h4_conds : h4.conds = [] := rfl
@[simp] theorem h4_steal : h4.steal = [11, 16, 17, 22, 23, 28, 29, 34, 35, 36, 41, 42, 45, 46, 50, 51, 54, 55, 59, 60, 64, 65, 69, 74] := rfl
@[simp] theorem h4_live : h4.live = [] := rfl
@[simp] theorem h4_roots : h4.roots = [] := rfl
@[simp] theorem h4_rets : h4.rets = true := rfl
@[simp] theorem h4_glob : h4.glob = [] := rfl
@[simp] theorem h4_sw : h4.sw = [] := rfl
@[simp] theorem h4_msd : h4.msd = [] := rfl
@[simp] theorem h4_alt : h4.alt = [] := rfl
@[simp] theorem h4_fz : h4.fz = 0 := rfl
@[simp] theorem h4_gc : h4.gc = false := rfl
@[simp] theorem h4_wk : h4.wk = false := rfl
@[simp] theorem h4_rt : h4.rt = false := rfl
@[simp] theorem h4_inv : h4.inv = [] := rfl
@[simp] theorem h4_mv : h4.mv = [] := rfl
def h5 : Hint where
  vars := [0, 2, 3, 4]
  conds := [12]
  steal := [9, 13, 33, 36, 37]
  live := [(3, [0, 3, 4])]
  roots := []
  rets := true
  glob := []
  sw := []
  msd := []
  alt := []
  fz := 0
  gc := false
  wk := false
  rt := false
  inv := []
  mv := []
@[simp] theorem h5_vars : h5.vars = [0, 2, 3, 4] := rfl
@[simp] theorem h5_conds : h5.conds = [12] := rfl
@[simp] theorem h5_steal : h5.steal = [9, 13, 33, 36, 37] := rfl
@[simp] theorem h5_live : h5.live = [(3, [0, 3, 4])] := rfl
@[simp] theorem h5_roots : h5.roots = [] := rfl
@[simp] theorem h5_rets : h5.rets = true := rfl
@[simp] theorem h5_glob : h5.glob = [] := rfl
@[simp] theorem h5_sw : h5.sw = [] := rfl
@[simp] theorem h5_msd : h5.msd = [] := rfl
@[simp] theorem h5_alt : h5.alt = [] := rfl
@[simp] theorem h5_fz : h5.fz = 0 := rfl
@[simp] theorem h5_gc : h5.gc = false := rfl
@[simp] theorem h5_wk : h5.wk = false := rfl
@[simp] theorem h5_rt : h5.rt = false := rfl
@[simp] theorem h5_inv : h5.inv = [] := rfl
@[simp] theorem h5_mv : h5.mv = [] := rfl
def h6 : Hint where
  vars := [0, 2, 3, 4, 5, 6, 7, 8, 9, 10, 11, 12, 13, 14]
  conds := [18, 58, 83, 85, 97]
  steal := [19, 38, 47, 59, 71, 74, 75, 80, 81, 84, 98, 102, 106, 107]
  live := [(4, [0, 5, 6, 7]), (11, [0, 5, 6, 7, 8, 9, 10, 11, 12, 13])]
  roots := [(8, 8), (10, 10), (88, 8)]
  rets := true
  glob := []
  sw := []
  msd := []
  alt := [(45, 9)]
  fz := 0
  gc := true
  wk := false
  rt := false
  inv := []
  mv := []
@[simp] theorem h6_vars : h6.vars = [0, 2, 3, 4, 5, 6, 7, 8, 9, 10, 11, 12, 13, 14] := rfl
@[simp] theorem h6_conds : h6.conds = [18, 58, 83, 85, 97] := rfl
@[simp] theorem h6_steal : h6.steal = [19, 38, 47, 59, 71, 74, 75, 80, 81, 84, 98, 102, 106, 107] := rfl
@[simp] theorem h6_live : h6.live = [(4, [0, 5, 6, 7]), (11, [0, 5, 6, 7, 8, 9, 10, 11, 12, 13])] := rfl
@[simp] theorem h6_roots : h6.roots = [(8, 8), (10, 10), (88, 8)] := rfl
@[simp] theorem h6_rets : h6.rets = true := rfl
@[simp] theorem h6_glob : h6.glob = [] := rfl
@[simp] theorem h6_sw : h6.sw = [] := rfl
@[simp] theorem h6_msd : h6.msd = [] := rfl
@[simp] theorem h6_alt : h6.alt = [(45, 9)] := rfl
@[simp] theorem h6_fz : h6.fz = 0 := rfl
@[simp] theorem h6_gc : h6.gc = true := rfl
@[simp] theorem h6_wk : h6.wk = false := rfl
@[simp] theorem h6_rt : h6.rt = false := rfl
@[simp] theorem h6_inv : h6.inv = [] := rfl
@[simp] theorem h6_mv : h6.mv = [] := rfl
def h7 : Hint where
  vars := [0, 1, 4, 5, 6, 7, 8, 10, 11, 12, 19, 20, 21, 41, 42, 43]
  conds := [15, 18, 22, 30, 34, 37, 44]
  steal := [27, 41, 58, 69]
  live := [(6, [0, 1, 19, 20, 21]), (18, [0, 8, 41, 42, 43])]
  roots := []
  rets := true
  glob := [7, 8]
  sw := []
  msd := []
  alt := []
  fz := 0
  gc := true
  wk := false
  rt := false
  inv := []
  mv := []
@[simp] theorem h7_vars : h7.vars = [0, 1, 4, 5, 6, 7, 8, 10, 11, 12, 19, 20, 21, 41, 42, 43] := rfl
@[simp] theorem h7_conds : h7.conds = [15, 18, 22, 30, 34, 37, 44] := rfl
@[simp] theorem h7_steal : h7.steal = [27, 41, 58, 69] := rfl
@[simp] theorem h7_live : h7.live = [(6, [0, 1, 19, 20, 21]), (18, [0, 8, 41, 42, 43])] := rfl
@[simp] theorem h7_roots : h7.roots = [] := rfl
@[simp] theorem h7_rets : h7.rets = true := rfl
@[simp] theorem h7_glob : h7.glob = [7, 8] := rfl
@[simp] theorem h7_sw : h7.sw = [] := rfl
@[simp] theorem h7_msd : h7.msd = [] := rfl
@[simp] theorem h7_alt : h7.alt = [] := rfl
@[simp] theorem h7_fz : h7.fz = 0 := rfl
@[simp] theorem h7_gc : h7.gc = true := rfl
@[simp] theorem h7_wk : h7.wk = false := rfl
@[simp] theorem h7_rt : h7.rt = false := rfl
@[simp] theorem h7_inv : h7.inv = [] := rfl
@[simp] theorem h7_mv : h7.mv = [] := rfl
def h8 : Hint where
  vars := [0, 1, 4, 5, 6, 7, 8, 9, 10]
  conds := [14, 17, 21, 26, 52, 55, 58, 64]
  steal := [13, 22, 27, 65, 91]
  live := [(7, [0, 1, 7]), (10, [0, 1, 7, 8]), (20, [0, 1, 9, 10])]
  roots := []
  rets := true
  glob := []
  sw := []
  msd := []
  alt := [(80, 1)]
  fz := 0
  gc := false
  wk := false
  rt := false
  inv := []
  mv := []
@[simp] theorem h8_vars : h8.vars = [0, 1, 4, 5, 6, 7, 8, 9, 10] := rfl
@[simp] theorem h8_conds : h8.conds = [14, 17, 21, 26, 52, 55, 58, 64] := rfl
@[simp] theorem h8_steal : h8.steal = [13, 22, 27, 65, 91] := rfl
@[simp] theorem h8_live : h8.live = [(7, [0, 1, 7]), (10, [0, 1, 7, 8]), (20, [0, 1, 9, 10])] := rfl
@[simp] theorem h8_roots : h8.roots = [] := rfl
@[simp] theorem h8_rets : h8.rets = true := rfl
@[simp] theorem h8_glob : h8.glob = [] := rfl
@[simp] theorem h8_sw : h8.sw = [] := rfl
@[simp] theorem h8_msd : h8.msd = [] := rfl
@[simp] theorem h8_alt : h8.alt = [(80, 1)] := rfl
@[simp] theorem h8_fz : h8.fz = 0 := rfl
@[simp] theorem h8_gc : h8.gc = false := rfl
@[simp] theorem h8_wk : h8.wk = false := rfl
@[simp] theorem h8_rt : h8.rt = false := rfl
@[simp] theorem h8_inv : h8.inv = [] := rfl
@[simp] theorem h8_mv : h8.mv = [] := rfl
def h9 : Hint where
  vars := [0, 1, 2, 4]
  conds := []
  steal := [8]
  live := []
  roots := []
  rets := true
  glob := []
  sw := []
  msd := [10]
  alt := []
  fz := 0
  gc := false
  wk := false
  rt := false
  inv := []
  mv := []
@[simp] theorem h9_vars : h9.vars = [0, 1, 2, 4] := rfl
@[simp] theorem h9_conds : h9.conds = [] := rfl
@[simp] theorem h9_steal : h9.steal = [8] := rfl
@[simp] theorem h9_live : h9.live = [] := rfl
@[simp] theorem h9_roots : h9.roots = [] := rfl
@[simp] theorem h9_rets : h9.rets = true := rfl
@[simp] theorem h9_glob : h9.glob = [] := rfl
@[simp] theorem h9_sw : h9.sw = [] := rfl
@[simp] theorem h9_msd : h9.msd = [10] := rfl
@[simp] theorem h9_alt : h9.alt = [] := rfl
@[simp] theorem h9_fz : h9.fz = 0 := rfl
@[simp] theorem h9_gc : h9.gc = false := rfl
@[simp] theorem h9_wk : h9.wk = false := rfl
@[simp] theorem h9_rt : h9.rt = false := rfl
@[simp] theorem h9_inv : h9.inv = [] := rfl
@[simp] theorem h9_mv : h9.mv = [] := rfl
def h10 : Hint where
  vars := [0, 1, 4, 5]
  conds := [10, 14, 25]
  steal := [15]
  live := [(4, [0, 1, 5])]
  roots := []
  rets := true
  glob := []
  sw := []
  msd := []
  alt := []
  fz := 0
  gc := false
  wk := false
  rt := false
  inv := []
  mv := []
@[simp] theorem h10_vars : h10.vars = [0, 1, 4, 5] := rfl
@[simp] theorem h10_conds : h10.conds = [10, 14, 25] := rfl
@[simp] theorem h10_steal : h10.steal = [15] := rfl
@[simp] theorem h10_live : h10.live = [(4, [0, 1, 5])] := rfl
@[simp] theorem h10_roots : h10.roots = [] := rfl
@[simp] theorem h10_rets : h10.rets = true := rfl
@[simp] theorem h10_glob : h10.glob = [] := rfl
@[simp] theorem h10_sw : h10.sw = [] := rfl
@[simp] theorem h10_msd : h10.msd = [] := rfl
@[simp] theorem h10_alt : h10.alt = [] := rfl
@[simp] theorem h10_fz : h10.fz = 0 := rfl
@[simp] theorem h10_gc : h10.gc = false := rfl
@[simp] theorem h10_wk : h10.wk = false := rfl
@[simp] theorem h10_rt : h10.rt = false := rfl
@[simp] theorem h10_inv : h10.inv = [] := rfl
@[simp] theorem h10_mv : h10.mv = [] := rfl
def h11 : Hint where
  vars := [0, 1, 2, 4, 5]
  conds := []
  steal := [11, 12]
  live := []
  roots := []
  rets := true
  glob := []
  sw := []
  msd := []
  alt := []
  fz := 0
  gc := false
  wk := false
  rt := false
  inv := []
  mv := []
@[simp] theorem h11_vars : h11.vars = [0, 1, 2, 4, 5] := rfl
@[simp] theorem h11_conds : h11.conds = [] := rfl
@[simp] theorem h11_steal : h11.steal = [11, 12] := rfl
@[simp] theorem h11_live : h11.live = [] := rfl
@[simp] theorem h11_roots : h11.roots = [] := rfl
@[simp] theorem h11_rets : h11.rets = true := rfl
@[simp] theorem h11_glob : h11.glob = [] := rfl
@[simp] theorem h11_sw : h11.sw = [] := rfl
@[simp] theorem h11_msd : h11.msd = [] := rfl
@[simp] theorem h11_alt : h11.alt = [] := rfl
@[simp] theorem h11_fz : h11.fz = 0 := rfl
@[simp] theorem h11_gc : h11.gc = false := rfl
@[simp] theorem h11_wk : h11.wk = false := rfl
@[simp] theorem h11_rt : h11.rt = false := rfl
@[simp] theorem h11_inv : h11.inv = [] := rfl
@[simp] theorem h11_mv : h11.mv = [] := rfl
def h12 : Hint where
  vars := [0, 1, 2, 3, 6]
  conds := []
  steal := [8, 10]
  live := []
  roots := []
  rets := true
  glob := []
  sw := []
  msd := []
  alt := []
  fz := 0
  gc := false
  wk := false
  rt := false
  inv := []
  mv := []
@[simp] theorem h12_vars : h12.vars = [0, 1, 2, 3, 6] := rfl
@[simp] theorem h12_conds : h12.conds = [] := rfl
@[simp] theorem h12_steal : h12.steal = [8, 10] := rfl
@[simp] theorem h12_live : h12.live = [] := rfl
@[simp] theorem h12_roots : h12.roots = [] := rfl
@[simp] theorem h12_rets : h12.rets = true := rfl
@[simp] theorem h12_glob : h12.glob = [] := rfl
@[simp] theorem h12_sw : h12.sw = [] := rfl
@[simp] theorem h12_msd : h12.msd = [] := rfl
@[simp] theorem h12_alt : h12.alt = [] := rfl
@[simp] theorem h12_fz : h12.fz = 0 := rfl
@[simp] theorem h12_gc : h12.gc = false := rfl
@[simp] theorem h12_wk : h12.wk = false := rfl
@[simp] theorem h12_rt : h12.rt = false := rfl
@[simp] theorem h12_inv : h12.inv = [] := rfl
@[simp] theorem h12_mv : h12.mv = [] := rfl
def h13 : Hint where
  vars := [0, 2]
  conds := []
  steal := [3]
  live := []
  roots := []
  rets := true
  glob := []
  sw := []
  msd := []
  alt := []
  fz := 0
  gc := false
  wk := false
  rt := false
  inv := []
  mv := []
@[simp] theorem h13_vars : h13.vars = [0, 2] := rfl
@[simp] theorem h13_conds : h13.conds = [] := rfl
@[simp] theorem h13_steal : h13.steal = [3] := rfl
@[simp] theorem h13_live : h13.live = [] := rfl
@[simp] theorem h13_roots : h13.roots = [] := rfl
@[simp] theorem h13_rets : h13.rets = true := rfl
@[simp] theorem h13_glob : h13.glob = [] := rfl
@[simp] theorem h13_sw : h13.sw = [] := rfl
@[simp] theorem h13_msd : h13.msd = [] := rfl
@[simp] theorem h13_alt : h13.alt = [] := rfl
@[simp] theorem h13_fz : h13.fz = 0 := rfl
@[simp] theorem h13_gc : h13.gc = false := rfl
@[simp] theorem h13_wk : h13.wk = false := rfl
@[simp] theorem h13_rt : h13.rt = false := rfl
@[simp] theorem h13_inv : h13.inv = [] := rfl
@[simp] theorem h13_mv : h13.mv = [] := rfl
def h14 : Hint where
  vars := [0, 1, 4, 5]
  conds := [18]
  steal := [9, 14, 20, 21]
  live := []
  roots := []
  rets := true
  glob := []
  sw := []
  msd := []
  alt := []
  fz := 0
  gc := false
  wk := false
  rt := false
  inv := []
  mv := []
@[simp] theorem h14_vars : h14.vars = [0, 1, 4, 5] := rfl
@[simp] theorem h14_conds : h14.conds = [18] := rfl
@[simp] theorem h14_steal : h14.steal = [9, 14, 20, 21] := rfl
@[simp] theorem h14_live : h14.live = [] := rfl
@[simp] theorem h14_roots : h14.roots = [] := rfl
@[simp] theorem h14_rets : h14.rets = true := rfl
@[simp] theorem h14_glob : h14.glob = [] := rfl
@[simp] theorem h14_sw : h14.sw = [] := rfl
@[simp] theorem h14_msd : h14.msd = [] := rfl
@[simp] theorem h14_alt : h14.alt = [] := rfl
@[simp] theorem h14_fz : h14.fz = 0 := rfl
@[simp] theorem h14_gc : h14.gc = false := rfl
@[simp] theorem h14_wk : h14.wk = false := rfl
@[simp] theorem h14_rt : h14.rt = false := rfl
@[simp] theorem h14_inv : h14.inv = [] := rfl
@[simp] theorem h14_mv : h14.mv = [] := rfl
def h15 : Hint where
  vars := [0, 1, 2, 3]
  conds := [17]
  steal := [7, 12]
  live := []
  roots := [(18, 1), (23, 1)]
  rets := true
  glob := []
  sw := [20, 25]
  msd := []
  alt := []
  fz := 0
  gc := false
  wk := false
  rt := false
  inv := []
  mv := []
@[simp] theorem h15_vars : h15.vars = [0, 1, 2, 3] := rfl
@[simp] theorem h15_conds : h15.conds = [17] := rfl
@[simp] theorem h15_steal : h15.steal = [7, 12] := rfl
@[simp] theorem h15_live : h15.live = [] := rfl
@[simp] theorem h15_roots : h15.roots = [(18, 1), (23, 1)] := rfl
@[simp] theorem h15_rets : h15.rets = true := rfl
@[simp] theorem h15_glob : h15.glob = [] := rfl
@[simp] theorem h15_sw : h15.sw = [20, 25] := rfl
@[simp] theorem h15_msd : h15.msd = [] := rfl
@[simp] theorem h15_alt : h15.alt = [] := rfl
@[simp] theorem h15_fz : h15.fz = 0 := rfl
@[simp] theorem h15_gc : h15.gc = false := rfl
@[simp] theorem h15_wk : h15.wk = false := rfl
@[simp] theorem h15_rt : h15.rt = false := rfl
@[simp] theorem h15_inv : h15.inv = [] := rfl
@[simp] theorem h15_mv : h15.mv = [] := rfl
def h16 : Hint where
  vars := [0, 2, 3, 4, 5, 6, 7, 8, 9, 10, 12, 44, 72, 73]
  conds := [21, 40, 45, 62, 74]
  steal := [22, 32, 41, 47, 51, 63, 76, 86, 91]
  live := [(5, [0, 3, 4, 5, 6]), (9, [0, 3, 4, 7]), (12, [0, 3, 4, 7, 44]), (17, [3, 4, 7, 9]), (22, [10, 72, 73])]
  roots := [(4, 4)]
  rets := true
  glob := [3]
  sw := [30, 71]
  msd := []
  alt := []
  fz := 0
  gc := true
  wk := false
  rt := false
  inv := []
  mv := []
@[simp] theorem h16_vars : h16.vars = [0, 2, 3, 4, 5, 6, 7, 8, 9, 10, 12, 44, 72, 73] := rfl
@[simp] theorem h16_conds : h16.conds = [21, 40, 45, 62, 74] := rfl
@[simp] theorem h16_steal : h16.steal = [22, 32, 41, 47, 51, 63, 76, 86, 91] := rfl
@[simp] theorem h16_live : h16.live = [(5, [0, 3, 4, 5, 6]), (9, [0, 3, 4, 7]), (12, [0, 3, 4, 7, 44]), (17, [3, 4, 7, 9]), (22, [10, 72, 73])] := rfl
@[simp] theorem h16_roots : h16.roots = [(4, 4)] := rfl
@[simp] theorem h16_rets : h16.rets = true := rfl
@[simp] theorem h16_glob : h16.glob = [3] := rfl
@[simp] theorem h16_sw : h16.sw = [30, 71] := rfl
@[simp] theorem h16_msd : h16.msd = [] := rfl
@[simp] theorem h16_alt : h16.alt = [] := rfl
@[simp] theorem h16_fz : h16.fz = 0 := rfl
@[simp] theorem h16_gc : h16.gc = true := rfl
@[simp] theorem h16_wk : h16.wk = false := rfl
@[simp] theorem h16_rt : h16.rt = false := rfl
@[simp] theorem h16_inv : h16.inv = [] := rfl
@[simp] theorem h16_mv : h16.mv = [] := rfl
def h17 : Hint where
  vars := [0, 1, 4, 5, 6, 7, 8, 9, 10, 11, 12, 13, 33, 34, 35]
  conds := [16, 25, 29, 36, 44, 59, 69, 81]
  steal := [18, 19, 23, 24, 41, 46, 51, 60, 70]
  live := [(10, [1, 4, 6, 7, 9, 33, 34, 35])]
  roots := []
  rets := true
  glob := [9, 11]
  sw := []
  msd := [53, 63]
  alt := []
  fz := 0
  gc := true
  wk := false
  rt := false
  inv := [(74, 12)]
  mv := []
@[simp] theorem h17_vars : h17.vars = [0, 1, 4, 5, 6, 7, 8, 9, 10, 11, 12, 13, 33, 34, 35] := rfl
@[simp] theorem h17_conds : h17.conds = [16, 25, 29, 36, 44, 59, 69, 81] := rfl
@[simp] theorem h17_steal : h17.steal = [18, 19, 23, 24, 41, 46, 51, 60, 70] := rfl
@[simp] theorem h17_live : h17.live = [(10, [1, 4, 6, 7, 9, 33, 34, 35])] := rfl
@[simp] theorem h17_roots : h17.roots = [] := rfl
@[simp] theorem h17_rets : h17.rets = true := rfl
@[simp] theorem h17_glob : h17.glob = [9, 11] := rfl
@[simp] theorem h17_sw : h17.sw = [] := rfl
@[simp] theorem h17_msd : h17.msd = [53, 63] := rfl
@[simp] theorem h17_alt : h17.alt = [] := rfl
@[simp] theorem h17_fz : h17.fz = 0 := rfl
@[simp] theorem h17_gc : h17.gc = true := rfl
@[simp] theorem h17_wk : h17.wk = false := rfl
@[simp] theorem h17_rt : h17.rt = false := rfl
@[simp] theorem h17_inv : h17.inv = [(74, 12)] := rfl
@[simp] theorem h17_mv : h17.mv = [] := rfl
def h18 : Hint where
  vars := [0, 2, 3]
  conds := []
  steal := [8, 9]
  live := []
  roots := []
  rets := true
  glob := [7]
  sw := []
  msd := [7, 11]
  alt := [(5, 1)]
  fz := 0
  gc := false
  wk := false
  rt := false
  inv := []
  mv := []
@[simp] theorem h18_vars : h18.vars = [0, 2, 3] := rfl
@[simp] theorem h18_conds : h18.conds = [] := rfl
@[simp] theorem h18_steal : h18.steal = [8, 9] := rfl
@[simp] theorem h18_live : h18.live = [] := rfl
@[simp] theorem h18_roots : h18.roots = [] := rfl
@[simp] theorem h18_rets : h18.rets = true := rfl
@[simp] theorem h18_glob : h18.glob = [7] := rfl
@[simp] theorem h18_sw : h18.sw = [] := rfl
@[simp] theorem h18_msd : h18.msd = [7, 11] := rfl
@[simp] theorem h18_alt : h18.alt = [(5, 1)] := rfl
@[simp] theorem h18_fz : h18.fz = 0 := rfl
@[simp] theorem h18_gc : h18.gc = false := rfl
@[simp] theorem h18_wk : h18.wk = false := rfl
@[simp] theorem h18_rt : h18.rt = false := rfl
@[simp] theorem h18_inv : h18.inv = [] := rfl
@[simp] theorem h18_mv : h18.mv = [] := rfl
def h19 : Hint where
  vars := [0, 1, 4, 5]
  conds := []
  steal := [9, 10, 17, 18, 23]
  live := []
  roots := []
  rets := true
  glob := []
  sw := []
  msd := [22]
  alt := []
  fz := 0
  gc := false
  wk := false
  rt := false
  inv := []
  mv := []
@[simp] theorem h19_vars : h19.vars = [0, 1, 4, 5] := rfl
@[simp] theorem h19_conds : h19.conds = [] := rfl
@[simp] theorem h19_steal : h19.steal = [9, 10, 17, 18, 23] := rfl
@[simp] theorem h19_live : h19.live = [] := rfl
@[simp] theorem h19_roots : h19.roots = [] := rfl
@[simp] theorem h19_rets : h19.rets = true := rfl
@[simp] theorem h19_glob : h19.glob = [] := rfl
@[simp] theorem h19_sw : h19.sw = [] := rfl
@[simp] theorem h19_msd : h19.msd = [22] := rfl
@[simp] theorem h19_alt : h19.alt = [] := rfl
@[simp] theorem h19_fz : h19.fz = 0 := rfl
@[simp] theorem h19_gc : h19.gc = false := rfl
@[simp] theorem h19_wk : h19.wk = false := rfl
@[simp] theorem h19_rt : h19.rt = false := rfl
@[simp] theorem h19_inv : h19.inv = [] := rfl
@[simp] theorem h19_mv : h19.mv = [] := rfl
def h20 : Hint where
  vars := [0, 1, 2]
  conds := []
  steal := [6, 12]
  live := []
  roots := []
  rets := true
  glob := []
  sw := []
  msd := []
  alt := []
  fz := 0
  gc := false
  wk := false
  rt := false
  inv := []
  mv := []
@[simp] theorem h20_vars : h20.vars = [0, 1, 2] := rfl
@[simp] theorem h20_conds : h20.conds = [] := rfl
@[simp] theorem h20_steal : h20.steal = [6, 12] := rfl
@[simp] theorem h20_live : h20.live = [] := rfl
@[simp] theorem h20_roots : h20.roots = [] := rfl
@[simp] theorem h20_rets : h20.rets = true := rfl
@[simp] theorem h20_glob : h20.glob = [] := rfl
@[simp] theorem h20_sw : h20.sw = [] := rfl
@[simp] theorem h20_msd : h20.msd = [] := rfl
@[simp] theorem h20_alt : h20.alt = [] := rfl
@[simp] theorem h20_fz : h20.fz = 0 := rfl
@[simp] theorem h20_gc : h20.gc = false := rfl
@[simp] theorem h20_wk : h20.wk = false := rfl
@[simp] theorem h20_rt : h20.rt = false := rfl
@[simp] theorem h20_inv : h20.inv = [] := rfl
@[simp] theorem h20_mv : h20.mv = [] := rfl
def h21 : Hint where
  vars := [0, 1, 2]
  conds := []
  steal := []
  live := []
  roots := []
  rets := true
  glob := []
  sw := []
  msd := []
  alt := []
  fz := 0
  gc := false
  wk := false
  rt := false
  inv := []
  mv := []
@[simp] theorem h21_vars : h21.vars = [0, 1, 2] := rfl
@[simp] theorem h21_conds : h21.conds = [] := rfl
@[simp] theorem h21_steal : h21.steal = [] := rfl
@[simp] theorem h21_live : h21.live = [] := rfl
@[simp] theorem h21_roots : h21.roots = [] := rfl
@[simp] theorem h21_rets : h21.rets = true := rfl
@[simp] theorem h21_glob : h21.glob = [] := rfl
@[simp] theorem h21_sw : h21.sw = [] := rfl
@[simp] theorem h21_msd : h21.msd = [] := rfl
@[simp] theorem h21_alt : h21.alt = [] := rfl
@[simp] theorem h21_fz : h21.fz = 0 := rfl
@[simp] theorem h21_gc : h21.gc = false := rfl
@[simp] theorem h21_wk : h21.wk = false := rfl
@[simp] theorem h21_rt : h21.rt = false := rfl
@[simp] theorem h21_inv : h21.inv = [] := rfl
@[simp] theorem h21_mv : h21.mv = [] := rfl
def h22 : Hint where
  vars := [0, 1, 2, 3]
  conds := []
  steal := [12]
  live := []
  roots := []
  rets := true
  glob := []
  sw := []
  msd := [10]
  alt := []
  fz := 0
  gc := false
  wk := false
  rt := false
  inv := []
  mv := []
@[simp] theorem h22_vars : h22.vars = [0, 1, 2, 3] := rfl
@[simp] theorem h22_conds : h22.conds = [] := rfl
@[simp] theorem h22_steal : h22.steal = [12] := rfl
@[simp] theorem h22_live : h22.live = [] := rfl
@[simp] theorem h22_roots : h22.roots = [] := rfl
@[simp] theorem h22_rets : h22.rets = true := rfl
@[simp] theorem h22_glob : h22.glob = [] := rfl
@[simp] theorem h22_sw : h22.sw = [] := rfl
@[simp] theorem h22_msd : h22.msd = [10] := rfl
@[simp] theorem h22_alt : h22.alt = [] := rfl
@[simp] theorem h22_fz : h22.fz = 0 := rfl
@[simp] theorem h22_gc : h22.gc = false := rfl
@[simp] theorem h22_wk : h22.wk = false := rfl
@[simp] theorem h22_rt : h22.rt = false := rfl
@[simp] theorem h22_inv : h22.inv = [] := rfl
@[simp] theorem h22_mv : h22.mv = [] := rfl
def h23 : Hint where
  vars := [0, 1, 2, 3]
  conds := []
  steal := []
  live := []
  roots := []
  rets := true
  glob := []
  sw := []
  msd := []
  alt := []
  fz := 0
  gc := false
  wk := false
  rt := false
  inv := []
  mv := []
@[simp] theorem h23_vars : h23.vars = [0, 1, 2, 3] := rfl
@[simp] theorem h23_conds : h23.conds = [] := rfl
@[simp] theorem h23_steal : h23.steal = [] := rfl
@[simp] theorem h23_live : h23.live = [] := rfl
@[simp] theorem h23_roots : h23.roots = [] := rfl
@[simp] theorem h23_rets : h23.rets = true := rfl
@[simp] theorem h23_glob : h23.glob = [] := rfl
@[simp] theorem h23_sw : h23.sw = [] := rfl
@[simp] theorem h23_msd : h23.msd = [] := rfl
@[simp] theorem h23_alt : h23.alt = [] := rfl
@[simp] theorem h23_fz : h23.fz = 0 := rfl
@[simp] theorem h23_gc : h23.gc = false := rfl
@[simp] theorem h23_wk : h23.wk = false := rfl
@[simp] theorem h23_rt : h23.rt = false := rfl
@[simp] theorem h23_inv : h23.inv = [] := rfl
@[simp] theorem h23_mv : h23.mv = [] := rfl
def h24 : Hint where
  vars := [0, 2, 3]
  conds := []
  steal := [6, 7, 8]
  live := []
  roots := []
  rets := true
  glob := []
  sw := []
  msd := []
  alt := []
  fz := 0
  gc := false
  wk := false
  rt := false
  inv := []
  mv := []
@[simp] theorem h24_vars : h24.vars = [0, 2, 3] := rfl
@[simp] theorem h24_conds : h24.conds = [] := rfl
@[simp] theorem h24_steal : h24.steal = [6, 7, 8] := rfl
@[simp] theorem h24_live : h24.live = [] := rfl
@[simp] theorem h24_roots : h24.roots = [] := rfl
@[simp] theorem h24_rets : h24.rets = true := rfl
@[simp] theorem h24_glob : h24.glob = [] := rfl
@[simp] theorem h24_sw : h24.sw = [] := rfl
@[simp] theorem h24_msd : h24.msd = [] := rfl
@[simp] theorem h24_alt : h24.alt = [] := rfl
@[simp] theorem h24_fz : h24.fz = 0 := rfl
@[simp] theorem h24_gc : h24.gc = false := rfl
@[simp] theorem h24_wk : h24.wk = false := rfl
@[simp] theorem h24_rt : h24.rt = false := rfl
@[simp] theorem h24_inv : h24.inv = [] := rfl
@[simp] theorem h24_mv : h24.mv = [] := rfl
def h25 : Hint where
  vars := [0, 1, 4]
  conds := []
  steal := [5, 6]
  live := []
  roots := []
  rets := true
  glob := []
  sw := []
  msd := []
  alt := []
  fz := 0
  gc := false
  wk := false
  rt := false
  inv := []
  mv := []
@[simp] theorem h25_vars : h25.vars = [0, 1, 4] := rfl
@[simp] theorem h25_conds : h25.conds = [] := rfl
@[simp] theorem h25_steal : h25.steal = [5, 6] := rfl
@[simp] theorem h25_live : h25.live = [] := rfl
@[simp] theorem h25_roots : h25.roots = [] := rfl
@[simp] theorem h25_rets : h25.rets = true := rfl
@[simp] theorem h25_glob : h25.glob = [] := rfl
@[simp] theorem h25_sw : h25.sw = [] := rfl
@[simp] theorem h25_msd : h25.msd = [] := rfl
@[simp] theorem h25_alt : h25.alt = [] := rfl
@[simp] theorem h25_fz : h25.fz = 0 := rfl
@[simp] theorem h25_gc : h25.gc = false := rfl
@[simp] theorem h25_wk : h25.wk = false := rfl
@[simp] theorem h25_rt : h25.rt = false := rfl
@[simp] theorem h25_inv : h25.inv = [] := rfl
@[simp] theorem h25_mv : h25.mv = [] := rfl
def h26 : Hint where
  vars := [0, 1, 2, 3]
  conds := []
  steal := []
  live := []
  roots := [(2, 2)]
  rets := true
  glob := []
  sw := []
  msd := []
  alt := []
  fz := 0
  gc := false
  wk := false
  rt := false
  inv := []
  mv := []
@[simp] theorem h26_vars : h26.vars = [0, 1, 2, 3] := rfl
@[simp] theorem h26_conds : h26.conds = [] := rfl
@[simp] theorem h26_steal : h26.steal = [] := rfl
@[simp] theorem h26_live : h26.live = [] := rfl
@[simp] theorem h26_roots : h26.roots = [(2, 2)] := rfl
@[simp] theorem h26_rets : h26.rets = true := rfl
@[simp] theorem h26_glob : h26.glob = [] := rfl
@[simp] theorem h26_sw : h26.sw = [] := rfl
@[simp] theorem h26_msd : h26.msd = [] := rfl
@[simp] theorem h26_alt : h26.alt = [] := rfl
@[simp] theorem h26_fz : h26.fz = 0 := rfl
@[simp] theorem h26_gc : h26.gc = false := rfl
@[simp] theorem h26_wk : h26.wk = false := rfl
@[simp] theorem h26_rt : h26.rt = false := rfl
@[simp] theorem h26_inv : h26.inv = [] := rfl
@[simp] theorem h26_mv : h26.mv = [] := rfl
def h27 : Hint where
  vars := [0, 1, 4, 5]
  conds := []
  steal := [9, 17]
  live := []
  roots := []
  rets := true
  glob := []
  sw := []
  msd := [12]
  alt := []
  fz := 0
  gc := false
  wk := false
  rt := false
  inv := []
  mv := []
@[simp] theorem h27_vars : h27.vars = [0, 1, 4, 5] := rfl
@[simp] theorem h27_conds : h27.conds = [] := rfl
@[simp] theorem h27_steal : h27.steal = [9, 17] := rfl
@[simp] theorem h27_live : h27.live = [] := rfl
@[simp] theorem h27_roots : h27.roots = [] := rfl
@[simp] theorem h27_rets : h27.rets = true := rfl
@[simp] theorem h27_glob : h27.glob = [] := rfl
@[simp] theorem h27_sw : h27.sw = [] := rfl
@[simp] theorem h27_msd : h27.msd = [12] := rfl
@[simp] theorem h27_alt : h27.alt = [] := rfl
@[simp] theorem h27_fz : h27.fz = 0 := rfl
@[simp] theorem h27_gc : h27.gc = false := rfl
@[simp] theorem h27_wk : h27.wk = false := rfl
@[simp] theorem h27_rt : h27.rt = false := rfl
@[simp] theorem h27_inv : h27.inv = [] := rfl
@[simp] theorem h27_mv : h27.mv = [] := rfl
def h28 : Hint where
  vars := [0, 2, 3, 4, 5, 6, 7, 36]
  conds := [10, 37, 41]
  steal := [44, 52, 53]
  live := [(2, [0, 3]), (8, [0, 3, 4, 6, 36])]
  roots := []
  rets := true
  glob := [3, 14]
  sw := []
  msd := [14, 19]
  alt := []
  fz := 0
  gc := true
  wk := false
  rt := false
  inv := []
  mv := []
@[simp] theorem h28_vars : h28.vars = [0, 2, 3, 4, 5, 6, 7, 36] := rfl
@[simp] theorem h28_conds : h28.conds = [10, 37, 41] := rfl
@[simp] theorem h28_steal : h28.steal = [44, 52, 53] := rfl
@[simp] theorem h28_live : h28.live = [(2, [0, 3]), (8, [0, 3, 4, 6, 36])] := rfl
@[simp] theorem h28_roots : h28.roots = [] := rfl
@[simp] theorem h28_rets : h28.rets = true := rfl
@[simp] theorem h28_glob : h28.glob = [3, 14] := rfl
@[simp] theorem h28_sw : h28.sw = [] := rfl
@[simp] theorem h28_msd : h28.msd = [14, 19] := rfl
@[simp] theorem h28_alt : h28.alt = [] := rfl
@[simp] theorem h28_fz : h28.fz = 0 := rfl
@[simp] theorem h28_gc : h28.gc = true := rfl
@[simp] theorem h28_wk : h28.wk = false := rfl
@[simp] theorem h28_rt : h28.rt = false := rfl
@[simp] theorem h28_inv : h28.inv = [] := rfl
@[simp] theorem h28_mv : h28.mv = [] := rfl
def h29 : Hint where
  vars := [0, 2]
  conds := []
  steal := []
  live := []
  roots := []
  rets := true
  glob := []
  sw := []
  msd := []
  alt := []
  fz := 0
  gc := false
  wk := false
  rt := false
  inv := []
  mv := []
@[simp] theorem h29_vars : h29.vars = [0, 2] := rfl
@[simp] theorem h29_conds : h29.conds = [] := rfl
@[simp] theorem h29_steal : h29.steal = [] := rfl
@[simp] theorem h29_live : h29.live = [] := rfl
@[simp] theorem h29_roots : h29.roots = [] := rfl
@[simp] theorem h29_rets : h29.rets = true := rfl
@[simp] theorem h29_glob : h29.glob = [] := rfl
@[simp] theorem h29_sw : h29.sw = [] := rfl
@[simp] theorem h29_msd : h29.msd = [] := rfl
@[simp] theorem h29_alt : h29.alt = [] := rfl
@[simp] theorem h29_fz : h29.fz = 0 := rfl
@[simp] theorem h29_gc : h29.gc = false := rfl
@[simp] theorem h29_wk : h29.wk = false := rfl
@[simp] theorem h29_rt : h29.rt = false := rfl
@[simp] theorem h29_inv : h29.inv = [] := rfl
@[simp] theorem h29_mv : h29.mv = [] := rfl
def h30 : Hint where
  vars := [0, 2, 3]
  conds := [7, 25]
  steal := [8, 14, 19, 26]
  live := [(2, [0, 3])]
  roots := []
  rets := true
  glob := []
  sw := []
  msd := []
  alt := []
  fz := 0
  gc := false
  wk := false
  rt := false
  inv := []
  mv := []
@[simp] theorem h30_vars : h30.vars = [0, 2, 3] := rfl
@[simp] theorem h30_conds : h30.conds = [7, 25] := rfl
@[simp] theorem h30_steal : h30.steal = [8, 14, 19, 26] := rfl
@[simp] theorem h30_live : h30.live = [(2, [0, 3])] := rfl
@[simp] theorem h30_roots : h30.roots = [] := rfl
@[simp] theorem h30_rets : h30.rets = true := rfl
@[simp] theorem h30_glob : h30.glob = [] := rfl
@[simp] theorem h30_sw : h30.sw = [] := rfl
@[simp] theorem h30_msd : h30.msd = [] := rfl
@[simp] theorem h30_alt : h30.alt = [] := rfl
@[simp] theorem h30_fz : h30.fz = 0 := rfl
@[simp] theorem h30_gc : h30.gc = false := rfl
@[simp] theorem h30_wk : h30.wk = false := rfl
@[simp] theorem h30_rt : h30.rt = false := rfl
@[simp] theorem h30_inv : h30.inv = [] := rfl
@[simp] theorem h30_mv : h30.mv = [] := rfl
def h31 : Hint where
  vars := [0, 2, 3, 4, 5]
  conds := [9, 22, 36, 65, 74]
  steal := [10, 23, 37, 45, 71, 80]
  live := [(3, [0, 3, 4])]
  roots := []
  rets := true
  glob := [61]
  sw := [61]
  msd := [61, 81]
  alt := []
  fz := 0
  gc := true
  wk := false
  rt := false
  inv := []
  mv := []
@[simp] theorem h31_vars : h31.vars = [0, 2, 3, 4, 5] := rfl
@[simp] theorem h31_conds : h31.conds = [9, 22, 36, 65, 74] := rfl
@[simp] theorem h31_steal : h31.steal = [10, 23, 37, 45, 71, 80] := rfl
@[simp] theorem h31_live : h31.live = [(3, [0, 3, 4])] := rfl
@[simp] theorem h31_roots : h31.roots = [] := rfl
@[simp] theorem h31_rets : h31.rets = true := rfl
@[simp] theorem h31_glob : h31.glob = [61] := rfl
@[simp] theorem h31_sw : h31.sw = [61] := rfl
@[simp] theorem h31_msd : h31.msd = [61, 81] := rfl
@[simp] theorem h31_alt : h31.alt = [] := rfl
@[simp] theorem h31_fz : h31.fz = 0 := rfl
@[simp] theorem h31_gc : h31.gc = true := rfl
@[simp] theorem h31_wk : h31.wk = false := rfl
@[simp] theorem h31_rt : h31.rt = false := rfl
@[simp] theorem h31_inv : h31.inv = [] := rfl
@[simp] theorem h31_mv : h31.mv = [] := rfl
def h32 : Hint where
  vars := [0, 1, 2, 3]
  conds := []
  steal := [9]
  live := []
  roots := []
  rets := true
  glob := []
  sw := []
  msd := [6]
  alt := []
  fz := 0
  gc := false
  wk := false
  rt := false
  inv := []
  mv := []
@[simp] theorem h32_vars : h32.vars = [0, 1, 2, 3] := rfl
@[simp] theorem h32_conds : h32.conds = [] := rfl
@[simp] theorem h32_steal : h32.steal = [9] := rfl
@[simp] theorem h32_live : h32.live = [] := rfl
@[simp] theorem h32_roots : h32.roots = [] := rfl
@[simp] theorem h32_rets : h32.rets = true := rfl
@[simp] theorem h32_glob : h32.glob = [] := rfl
@[simp] theorem h32_sw : h32.sw = [] := rfl
@[simp] theorem h32_msd : h32.msd = [6] := rfl
@[simp] theorem h32_alt : h32.alt = [] := rfl
@[simp] theorem h32_fz : h32.fz = 0 := rfl
@[simp] theorem h32_gc : h32.gc = false := rfl
@[simp] theorem h32_wk : h32.wk = false := rfl
@[simp] theorem h32_rt : h32.rt = false := rfl
@[simp] theorem h32_inv : h32.inv = [] := rfl
@[simp] theorem h32_mv : h32.mv = [] := rfl
def h33 : Hint where
  vars := [0, 2, 3, 4, 5, 6, 7, 8, 9, 10, 11, 12, 13, 14, 15, 16, 17, 18, 19, 20, 21, 22, 23, 24]
  conds := [34, 43, 58, 62, 102, 167, 284, 300]
  steal := [35, 38, 44, 46, 59, 63, 103, 168, 285, 301, 303, 329]
  live := [(4, [0, 3, 4, 5]), (8, [3, 4, 5, 6, 7]), (13, [3, 4, 5, 8, 9]), (16, [3, 4, 5, 8, 9, 10]), (21, [3, 4, 5, 8, 9, 12]), (28, [3, 4, 5, 8, 9, 15, 16]), (37, [3, 4, 5, 8, 9, 15, 22]), (42, [4, 23, 24])]
  roots := []
  rets := true
  glob := [26, 54]
  sw := [100, 162, 298]
  msd := [26, 54, 165]
  alt := []
  fz := 0
  gc := true
  wk := false
  rt := false
  inv := []
  mv := []
@[simp] theorem h33_vars : h33.vars = [0, 2, 3, 4, 5, 6, 7, 8, 9, 10, 11, 12, 13, 14, 15, 16, 17, 18, 19, 20, 21, 22, 23, 24] := rfl
@[simp] theorem h33_conds : h33.conds = [34, 43, 58, 62, 102, 167, 284, 300] := rfl
@[simp] theorem h33_steal : h33.steal = [35, 38, 44, 46, 59, 63, 103, 168, 285, 301, 303, 329] := rfl
@[simp] theorem h33_live : h33.live = [(4, [0, 3, 4, 5]), (8, [3, 4, 5, 6, 7]), (13, [3, 4, 5, 8, 9]), (16, [3, 4, 5, 8, 9, 10]), (21, [3, 4, 5, 8, 9, 12]), (28, [3, 4, 5, 8, 9, 15, 16]), (37, [3, 4, 5, 8, 9, 15, 22]), (42, [4, 23, 24])] := rfl
@[simp] theorem h33_roots : h33.roots = [] := rfl
@[simp] theorem h33_rets : h33.rets = true := rfl
@[simp] theorem h33_glob : h33.glob = [26, 54] := rfl
@[simp] theorem h33_sw : h33.sw = [100, 162, 298] := rfl
@[simp] theorem h33_msd : h33.msd = [26, 54, 165] := rfl
@[simp] theorem h33_alt : h33.alt = [] := rfl
@[simp] theorem h33_fz : h33.fz = 0 := rfl
@[simp] theorem h33_gc : h33.gc = true := rfl
@[simp] theorem h33_wk : h33.wk = false := rfl
@[simp] theorem h33_rt : h33.rt = false := rfl
@[simp] theorem h33_inv : h33.inv = [] := rfl
@[simp] theorem h33_mv : h33.mv = [] := rfl
def h34 : Hint where
  vars := [0, 1, 4]
  conds := []
  steal := [5, 7]
  live := []
  roots := []
  rets := true
  glob := []
  sw := []
  msd := []
  alt := []
  fz := 0
  gc := false
  wk := false
  rt := false
  inv := []
  mv := []
@[simp] theorem h34_vars : h34.vars = [0, 1, 4] := rfl
@[simp] theorem h34_conds : h34.conds = [] := rfl
@[simp] theorem h34_steal : h34.steal = [5, 7] := rfl
@[simp] theorem h34_live : h34.live = [] := rfl
@[simp] theorem h34_roots : h34.roots = [] := rfl
@[simp] theorem h34_rets : h34.rets = true := rfl
@[simp] theorem h34_glob : h34.glob = [] := rfl
@[simp] theorem h34_sw : h34.sw = [] := rfl
@[simp] theorem h34_msd : h34.msd = [] := rfl
@[simp] theorem h34_alt : h34.alt = [] := rfl
@[simp] theorem h34_fz : h34.fz = 0 := rfl
@[simp] theorem h34_gc : h34.gc = false := rfl
@[simp] theorem h34_wk : h34.wk = false := rfl
@[simp] theorem h34_rt : h34.rt = false := rfl
@[simp] theorem h34_inv : h34.inv = [] := rfl
@[simp] theorem h34_mv : h34.mv = [] := rfl
def h35 : Hint where
  vars := [0, 2, 3]
  conds := []
  steal := [6, 11, 12, 13]
  live := []
  roots := []
  rets := true
  glob := []
  sw := []
  msd := []
  alt := []
  fz := 0
  gc := false
  wk := false
  rt := false
  inv := []
  mv := []
@[simp] theorem h35_vars : h35.vars = [0, 2, 3] := rfl
@[simp] theorem h35_conds : h35.conds = [] := rfl
@[simp] theorem h35_steal : h35.steal = [6, 11, 12, 13] := rfl
@[simp] theorem h35_live : h35.live = [] := rfl
@[simp] theorem h35_roots : h35.roots = [] := rfl
@[simp] theorem h35_rets : h35.rets = true := rfl
@[simp] theorem h35_glob : h35.glob = [] := rfl
@[simp] theorem h35_sw : h35.sw = [] := rfl
@[simp] theorem h35_msd : h35.msd = [] := rfl
@[simp] theorem h35_alt : h35.alt = [] := rfl
@[simp] theorem h35_fz : h35.fz = 0 := rfl
@[simp] theorem h35_gc : h35.gc = false := rfl
@[simp] theorem h35_wk : h35.wk = false := rfl
@[simp] theorem h35_rt : h35.rt = false := rfl
@[simp] theorem h35_inv : h35.inv = [] := rfl
@[simp] theorem h35_mv : h35.mv = [] := rfl
def h36 : Hint where
  vars := [0, 2]
  conds := []
  steal := [3]
  live := []
  roots := []
  rets := true
  glob := []
  sw := []
  msd := []
  alt := []
  fz := 0
  gc := false
  wk := false
  rt := false
  inv := []
  mv := []
@[simp] theorem h36_vars : h36.vars = [0, 2] := rfl
@[simp] theorem h36_conds : h36.conds = [] := rfl
@[simp] theorem h36_steal : h36.steal = [3] := rfl
@[simp] theorem h36_live : h36.live = [] := rfl
@[simp] theorem h36_roots : h36.roots = [] := rfl
@[simp] theorem h36_rets : h36.rets = true := rfl
@[simp] theorem h36_glob : h36.glob = [] := rfl
@[simp] theorem h36_sw : h36.sw = [] := rfl
@[simp] theorem h36_msd : h36.msd = [] := rfl
@[simp] theorem h36_alt : h36.alt = [] := rfl
@[simp] theorem h36_fz : h36.fz = 0 := rfl
@[simp] theorem h36_gc : h36.gc = false := rfl
@[simp] theorem h36_wk : h36.wk = false := rfl
@[simp] theorem h36_rt : h36.rt = false := rfl
@[simp] theorem h36_inv : h36.inv = [] := rfl
@[simp] theorem h36_mv : h36.mv = [] := rfl
def h37 : Hint where
  vars := [0]
  conds := []
  steal := []
  live := []
  roots := []
  rets := true
  glob := []
  sw := []
  msd := []
  alt := []
  fz := 0
  gc := false
  wk := false
  rt := false
  inv := []
  mv := []
@[simp] theorem h37_vars : h37.vars = [0] := rfl
@[simp] theorem h37_conds : h37.conds = [] := rfl
@[simp] theorem h37_steal : h37.steal = [] := rfl
@[simp] theorem h37_live : h37.live = [] := rfl
@[simp] theorem h37_roots : h37.roots = [] := rfl
@[simp] theorem h37_rets : h37.rets = true := rfl
@[simp] theorem h37_glob : h37.glob = [] := rfl
@[simp] theorem h37_sw : h37.sw = [] := rfl
@[simp] theorem h37_msd : h37.msd = [] := rfl
@[simp] theorem h37_alt : h37.alt = [] := rfl
@[simp] theorem h37_fz : h37.fz = 0 := rfl
@[simp] theorem h37_gc : h37.gc = false := rfl
@[simp] theorem h37_wk : h37.wk = false := rfl
@[simp] theorem h37_rt : h37.rt = false := rfl
@[simp] theorem h37_inv : h37.inv = [] := rfl
@[simp] theorem h37_mv : h37.mv = [] := rfl
def h38 : Hint where
  vars := [0]
  conds := []
  steal := []
  live := []
  roots := []
  rets := true
  glob := []
  sw := []
  msd := []
  alt := []
  fz := 0
  gc := false
  wk := false
  rt := false
  inv := []
  mv := []
@[simp] theorem h38_vars : h38.vars = [0] := rfl
@[simp] theorem h38_conds : h38.conds = [] := rfl
@[simp] theorem h38_steal : h38.steal = [] := rfl
@[simp] theorem h38_live : h38.live = [] := rfl
@[simp] theorem h38_roots : h38.roots = [] := rfl
@[simp] theorem h38_rets : h38.rets = true := rfl
@[simp] theorem h38_glob : h38.glob = [] := rfl
@[simp] theorem h38_sw : h38.sw = [] := rfl
@[simp] theorem h38_msd : h38.msd = [] := rfl
@[simp] theorem h38_alt : h38.alt = [] := rfl
@[simp] theorem h38_fz : h38.fz = 0 := rfl
@[simp] theorem h38_gc : h38.gc = false := rfl
@[simp] theorem h38_wk : h38.wk = false := rfl
@[simp] theorem h38_rt : h38.rt = false := rfl
@[simp] theorem h38_inv : h38.inv = [] := rfl
@[simp] theorem h38_mv : h38.mv = [] := rfl
def h39 : Hint where
  vars := [0, 1, 2, 3, 6, 7, 8, 9, 10, 11, 12, 13, 14, 15, 19, 112]
  conds := [20, 113]
  steal := [16, 90, 92, 102]
  live := [(4, [2, 3, 6, 7, 8, 19]), (14, [3, 6, 8, 112])]
  roots := [(22, 8), (25, 8), (29, 8), (45, 8), (58, 7), (61, 8), (64, 8), (68, 8), (116, 8), (119, 3), (122, 8)]
  rets := true
  glob := []
  sw := [27, 66]
  msd := []
  alt := []
  fz := 0
  gc := false
  wk := false
  rt := false
  inv := []
  mv := []
@[simp] theorem h39_vars : h39.vars = [0, 1, 2, 3, 6, 7, 8, 9, 10, 11, 12, 13, 14, 15, 19, 112] := rfl
@[simp] theorem h39_conds : h39.conds = [20, 113] := rfl
@[simp] theorem h39_steal : h39.steal = [16, 90, 92, 102] := rfl
@[simp] theorem h39_live : h39.live = [(4, [2, 3, 6, 7, 8, 19]), (14, [3, 6, 8, 112])] := rfl
@[simp] theorem h39_roots : h39.roots = [(22, 8), (25, 8), (29, 8), (45, 8), (58, 7), (61, 8), (64, 8), (68, 8), (116, 8), (119, 3), (122, 8)] := rfl
@[simp] theorem h39_rets : h39.rets = true := rfl
@[simp] theorem h39_glob : h39.glob = [] := rfl
@[simp] theorem h39_sw : h39.sw = [27, 66] := rfl
@[simp] theorem h39_msd : h39.msd = [] := rfl
@[simp] theorem h39_alt : h39.alt = [] := rfl
@[simp] theorem h39_fz : h39.fz = 0 := rfl
@[simp] theorem h39_gc : h39.gc = false := rfl
@[simp] theorem h39_wk : h39.wk = false := rfl
@[simp] theorem h39_rt : h39.rt = false := rfl
@[simp] theorem h39_inv : h39.inv = [] := rfl
@[simp] theorem h39_mv : h39.mv = [] := rfl
def h40 : Hint where
  vars := [0, 2]
  conds := []
  steal := [6]
  live := []
  roots := []
  rets := true
  glob := []
  sw := []
  msd := []
  alt := []
  fz := 0
  gc := false
  wk := false
  rt := false
  inv := []
  mv := []
@[simp] theorem h40_vars : h40.vars = [0, 2] := rfl
@[simp] theorem h40_conds : h40.conds = [] := rfl
@[simp] theorem h40_steal : h40.steal = [6] := rfl
@[simp] theorem h40_live : h40.live = [] := rfl
@[simp] theorem h40_roots : h40.roots = [] := rfl
@[simp] theorem h40_rets : h40.rets = true := rfl
@[simp] theorem h40_glob : h40.glob = [] := rfl
@[simp] theorem h40_sw : h40.sw = [] := rfl
@[simp] theorem h40_msd : h40.msd = [] := rfl
@[simp] theorem h40_alt : h40.alt = [] := rfl
@[simp] theorem h40_fz : h40.fz = 0 := rfl
@[simp] theorem h40_gc : h40.gc = false := rfl
@[simp] theorem h40_wk : h40.wk = false := rfl
@[simp] theorem h40_rt : h40.rt = false := rfl
@[simp] theorem h40_inv : h40.inv = [] := rfl
@[simp] theorem h40_mv : h40.mv = [] := rfl
def h41 : Hint where
  vars := [0, 2, 3, 4, 5, 6, 7, 8, 10, 11, 12, 36, 37, 38]
  conds := [19, 31, 39, 48]
  steal := [13, 14, 17, 18, 24, 42, 43, 46, 47, 49, 54, 55, 58]
  live := [(9, [5, 7, 8, 36, 37, 38])]
  roots := []
  rets := true
  glob := []
  sw := []
  msd := []
  alt := []
  fz := 0
  gc := false
  wk := false
  rt := false
  inv := []
  mv := []
@[simp] theorem h41_vars : h41.vars = [0, 2, 3, 4, 5, 6, 7, 8, 10, 11, 12, 36, 37, 38] := rfl
@[simp] theorem h41_conds : h41.conds = [19, 31, 39, 48] := rfl
@[simp] theorem h41_steal : h41.steal = [13, 14, 17, 18, 24, 42, 43, 46, 47, 49, 54, 55, 58] := rfl
@[simp] theorem h41_live : h41.live = [(9, [5, 7, 8, 36, 37, 38])] := rfl
@[simp] theorem h41_roots : h41.roots = [] := rfl
@[simp] theorem h41_rets : h41.rets = true := rfl
@[simp] theorem h41_glob : h41.glob = [] := rfl
@[simp] theorem h41_sw : h41.sw = [] := rfl
@[simp] theorem h41_msd : h41.msd = [] := rfl
@[simp] theorem h41_alt : h41.alt = [] := rfl
@[simp] theorem h41_fz : h41.fz = 0 := rfl
@[simp] theorem h41_gc : h41.gc = false := rfl
@[simp] theorem h41_wk : h41.wk = false := rfl
@[simp] theorem h41_rt : h41.rt = false := rfl
@[simp] theorem h41_inv : h41.inv = [] := rfl
@[simp] theorem h41_mv : h41.mv = [] := rfl
def h42 : Hint where
  vars := [0, 1, 4]
  conds := []
  steal := [5, 6]
  live := []
  roots := []
  rets := true
  glob := []
  sw := []
  msd := []
  alt := []
  fz := 0
  gc := false
  wk := false
  rt := false
  inv := []
  mv := []
@[simp] theorem h42_vars : h42.vars = [0, 1, 4] := rfl
@[simp] theorem h42_conds : h42.conds = [] := rfl
@[simp] theorem h42_steal : h42.steal = [5, 6] := rfl
@[simp] theorem h42_live : h42.live = [] := rfl
@[simp] theorem h42_roots : h42.roots = [] := rfl
@[simp] theorem h42_rets : h42.rets = true := rfl
@[simp] theorem h42_glob : h42.glob = [] := rfl
@[simp] theorem h42_sw : h42.sw = [] := rfl
@[simp] theorem h42_msd : h42.msd = [] := rfl
@[simp] theorem h42_alt : h42.alt = [] := rfl
@[simp] theorem h42_fz : h42.fz = 0 := rfl
@[simp] theorem h42_gc : h42.gc = false := rfl
@[simp] theorem h42_wk : h42.wk = false := rfl
@[simp] theorem h42_rt : h42.rt = false := rfl
@[simp] theorem h42_inv : h42.inv = [] := rfl
@[simp] theorem h42_mv : h42.mv = [] := rfl
def h43 : Hint where
  vars := [0, 1, 2, 3]
  conds := []
  steal := [9]
  live := []
  roots := []
  rets := true
  glob := []
  sw := []
  msd := []
  alt := []
  fz := 0
  gc := false
  wk := false
  rt := false
  inv := []
  mv := []
@[simp] theorem h43_vars : h43.vars = [0, 1, 2, 3] := rfl
@[simp] theorem h43_conds : h43.conds = [] := rfl
@[simp] theorem h43_steal : h43.steal = [9] := rfl
@[simp] theorem h43_live : h43.live = [] := rfl
@[simp] theorem h43_roots : h43.roots = [] := rfl
@[simp] theorem h43_rets : h43.rets = true := rfl
@[simp] theorem h43_glob : h43.glob = [] := rfl
@[simp] theorem h43_sw : h43.sw = [] := rfl
@[simp] theorem h43_msd : h43.msd = [] := rfl
@[simp] theorem h43_alt : h43.alt = [] := rfl
@[simp] theorem h43_fz : h43.fz = 0 := rfl
@[simp] theorem h43_gc : h43.gc = false := rfl
@[simp] theorem h43_wk : h43.wk = false := rfl
@[simp] theorem h43_rt : h43.rt = false := rfl
@[simp] theorem h43_inv : h43.inv = [] := rfl
@[simp] theorem h43_mv : h43.mv = [] := rfl
def h44 : Hint where
  vars := [0, 1, 3, 4, 5, 7, 8, 9, 10]
  conds := [11, 25]
  steal := [8]
  live := [(2, [3, 8, 9, 10])]
  roots := [(7, 7), (16, 3), (22, 3)]
  rets := true
  glob := []
  sw := []
  msd := []
  alt := []
  fz := 0
  gc := false
  wk := false
  rt := false
  inv := []
  mv := []
@[simp] theorem h44_vars : h44.vars = [0, 1, 3, 4, 5, 7, 8, 9, 10] := rfl
@[simp] theorem h44_conds : h44.conds = [11, 25] := rfl
@[simp] theorem h44_steal : h44.steal = [8] := rfl
@[simp] theorem h44_live : h44.live = [(2, [3, 8, 9, 10])] := rfl
@[simp] theorem h44_roots : h44.roots = [(7, 7), (16, 3), (22, 3)] := rfl
@[simp] theorem h44_rets : h44.rets = true := rfl
@[simp] theorem h44_glob : h44.glob = [] := rfl
@[simp] theorem h44_sw : h44.sw = [] := rfl
@[simp] theorem h44_msd : h44.msd = [] := rfl
@[simp] theorem h44_alt : h44.alt = [] := rfl
@[simp] theorem h44_fz : h44.fz = 0 := rfl
@[simp] theorem h44_gc : h44.gc = false := rfl
@[simp] theorem h44_wk : h44.wk = false := rfl
@[simp] theorem h44_rt : h44.rt = false := rfl
@[simp] theorem h44_inv : h44.inv = [] := rfl
@[simp] theorem h44_mv : h44.mv = [] := rfl
def h45 : Hint where
  vars := [0, 2]
  conds := []
  steal := [4]
  live := []
  roots := []
  rets := true
  glob := []
  sw := []
  msd := []
  alt := []
  fz := 0
  gc := false
  wk := false
  rt := false
  inv := []
  mv := []
@[simp] theorem h45_vars : h45.vars = [0, 2] := rfl
@[simp] theorem h45_conds : h45.conds = [] := rfl
@[simp] theorem h45_steal : h45.steal = [4] := rfl
@[simp] theorem h45_live : h45.live = [] := rfl
@[simp] theorem h45_roots : h45.roots = [] := rfl
@[simp] theorem h45_rets : h45.rets = true := rfl
@[simp] theorem h45_glob : h45.glob = [] := rfl
@[simp] theorem h45_sw : h45.sw = [] := rfl
@[simp] theorem h45_msd : h45.msd = [] := rfl
@[simp] theorem h45_alt : h45.alt = [] := rfl
@[simp] theorem h45_fz : h45.fz = 0 := rfl
@[simp] theorem h45_gc : h45.gc = false := rfl
@[simp] theorem h45_wk : h45.wk = false := rfl
@[simp] theorem h45_rt : h45.rt = false := rfl
@[simp] theorem h45_inv : h45.inv = [] := rfl
@[simp] theorem h45_mv : h45.mv = [] := rfl
def h46 : Hint where
  vars := [0, 2, 3]
  conds := [7, 25]
  steal := [8, 14, 20, 29, 30]
  live := [(2, [0, 3])]
  roots := []
  rets := true
  glob := []
  sw := []
  msd := []
  alt := []
  fz := 0
  gc := false
  wk := false
  rt := false
  inv := []
  mv := []
@[simp] theorem h46_vars : h46.vars = [0, 2, 3] := rfl
@[simp] theorem h46_conds : h46.conds = [7, 25] := rfl
@[simp] theorem h46_steal : h46.steal = [8, 14, 20, 29, 30] := rfl
@[simp] theorem h46_live : h46.live = [(2, [0, 3])] := rfl
@[simp] theorem h46_roots : h46.roots = [] := rfl
@[simp] theorem h46_rets : h46.rets = true := rfl
@[simp] theorem h46_glob : h46.glob = [] := rfl
@[simp] theorem h46_sw : h46.sw = [] := rfl
@[simp] theorem h46_msd : h46.msd = [] := rfl
@[simp] theorem h46_alt : h46.alt = [] := rfl
@[simp] theorem h46_fz : h46.fz = 0 := rfl
@[simp] theorem h46_gc : h46.gc = false := rfl
@[simp] theorem h46_wk : h46.wk = false := rfl
@[simp] theorem h46_rt : h46.rt = false := rfl
@[simp] theorem h46_inv : h46.inv = [] := rfl
@[simp] theorem h46_mv : h46.mv = [] := rfl
def h47 : Hint where
  vars := [0, 2]
  conds := []
  steal := []
  live := []
  roots := []
  rets := true
  glob := []
  sw := []
  msd := []
  alt := []
  fz := 0
  gc := false
  wk := false
  rt := false
  inv := []
  mv := []
@[simp] theorem h47_vars : h47.vars = [0, 2] := rfl
@[simp] theorem h47_conds : h47.conds = [] := rfl
@[simp] theorem h47_steal : h47.steal = [] := rfl
@[simp] theorem h47_live : h47.live = [] := rfl
@[simp] theorem h47_roots : h47.roots = [] := rfl
@[simp] theorem h47_rets : h47.rets = true := rfl
@[simp] theorem h47_glob : h47.glob = [] := rfl
@[simp] theorem h47_sw : h47.sw = [] := rfl
@[simp] theorem h47_msd : h47.msd = [] := rfl
@[simp] theorem h47_alt : h47.alt = [] := rfl
@[simp] theorem h47_fz : h47.fz = 0 := rfl
@[simp] theorem h47_gc : h47.gc = false := rfl
@[simp] theorem h47_wk : h47.wk = false := rfl
@[simp] theorem h47_rt : h47.rt = false := rfl
@[simp] theorem h47_inv : h47.inv = [] := rfl
@[simp] theorem h47_mv : h47.mv = [] := rfl
def h48 : Hint where
  vars := [0, 2]
  conds := []
  steal := [5, 9, 10]
  live := []
  roots := []
  rets := true
  glob := []
  sw := []
  msd := []
  alt := []
  fz := 0
  gc := false
  wk := false
  rt := false
  inv := []
  mv := []
@[simp] theorem h48_vars : h48.vars = [0, 2] := rfl
@[simp] theorem h48_conds : h48.conds = [] := rfl
@[simp] theorem h48_steal : h48.steal = [5, 9, 10] := rfl
@[simp] theorem h48_live : h48.live = [] := rfl
@[simp] theorem h48_roots : h48.roots = [] := rfl
@[simp] theorem h48_rets : h48.rets = true := rfl
@[simp] theorem h48_glob : h48.glob = [] := rfl
@[simp] theorem h48_sw : h48.sw = [] := rfl
@[simp] theorem h48_msd : h48.msd = [] := rfl
@[simp] theorem h48_alt : h48.alt = [] := rfl
@[simp] theorem h48_fz : h48.fz = 0 := rfl
@[simp] theorem h48_gc : h48.gc = false := rfl
@[simp] theorem h48_wk : h48.wk = false := rfl
@[simp] theorem h48_rt : h48.rt = false := rfl
@[simp] theorem h48_inv : h48.inv = [] := rfl
@[simp] theorem h48_mv : h48.mv = [] := rfl
def h49 : Hint where
  vars := [0, 1, 4]
  conds := []
  steal := [5, 6]
  live := []
  roots := []
  rets := true
  glob := []
  sw := []
  msd := []
  alt := []
  fz := 0
  gc := false
  wk := false
  rt := false
  inv := []
  mv := []
@[simp] theorem h49_vars : h49.vars = [0, 1, 4] := rfl
@[simp] theorem h49_conds : h49.conds = [] := rfl
@[simp] theorem h49_steal : h49.steal = [5, 6] := rfl
@[simp] theorem h49_live : h49.live = [] := rfl
@[simp] theorem h49_roots : h49.roots = [] := rfl
@[simp] theorem h49_rets : h49.rets = true := rfl
@[simp] theorem h49_glob : h49.glob = [] := rfl
@[simp] theorem h49_sw : h49.sw = [] := rfl
@[simp] theorem h49_msd : h49.msd = [] := rfl
@[simp] theorem h49_alt : h49.alt = [] := rfl
@[simp] theorem h49_fz : h49.fz = 0 := rfl
@[simp] theorem h49_gc : h49.gc = false := rfl
@[simp] theorem h49_wk : h49.wk = false := rfl
@[simp] theorem h49_rt : h49.rt = false := rfl
@[simp] theorem h49_inv : h49.inv = [] := rfl
@[simp] theorem h49_mv : h49.mv = [] := rfl
def h50 : Hint where
  vars := [0, 1, 4]
  conds := []
  steal := [5, 6]
  live := []
  roots := []
  rets := true
  glob := []
  sw := []
  msd := []
  alt := []
  fz := 0
  gc := false
  wk := false
  rt := false
  inv := []
  mv := []
@[simp] theorem h50_vars : h50.vars = [0, 1, 4] := rfl
@[simp] theorem h50_conds : h50.conds = [] := rfl
@[simp] theorem h50_steal : h50.steal = [5, 6] := rfl
@[simp] theorem h50_live : h50.live = [] := rfl
@[simp] theorem h50_roots : h50.roots = [] := rfl
@[simp] theorem h50_rets : h50.rets = true := rfl
@[simp] theorem h50_glob : h50.glob = [] := rfl
@[simp] theorem h50_sw : h50.sw = [] := rfl
@[simp] theorem h50_msd : h50.msd = [] := rfl
@[simp] theorem h50_alt : h50.alt = [] := rfl
@[simp] theorem h50_fz : h50.fz = 0 := rfl
@[simp] theorem h50_gc : h50.gc = false := rfl
@[simp] theorem h50_wk : h50.wk = false := rfl
@[simp] theorem h50_rt : h50.rt = false := rfl
@[simp] theorem h50_inv : h50.inv = [] := rfl
@[simp] theorem h50_mv : h50.mv = [] := rfl
def h51 : Hint where
  vars := [0, 1, 4, 5, 7, 8]
  conds := [9, 16]
  steal := [17]
  live := [(2, [0, 1, 7, 8])]
  roots := []
  rets := true
  glob := []
  sw := []
  msd := []
  alt := []
  fz := 0
  gc := true
  wk := false
  rt := false
  inv := []
  mv := []
@[simp] theorem h51_vars : h51.vars = [0, 1, 4, 5, 7, 8] := rfl
@[simp] theorem h51_conds : h51.conds = [9, 16] := rfl
@[simp] theorem h51_steal : h51.steal = [17] := rfl
@[simp] theorem h51_live : h51.live = [(2, [0, 1, 7, 8])] := rfl
@[simp] theorem h51_roots : h51.roots = [] := rfl
@[simp] theorem h51_rets : h51.rets = true := rfl
@[simp] theorem h51_glob : h51.glob = [] := rfl
@[simp] theorem h51_sw : h51.sw = [] := rfl
@[simp] theorem h51_msd : h51.msd = [] := rfl
@[simp] theorem h51_alt : h51.alt = [] := rfl
@[simp] theorem h51_fz : h51.fz = 0 := rfl
@[simp] theorem h51_gc : h51.gc = true := rfl
@[simp] theorem h51_wk : h51.wk = false := rfl
@[simp] theorem h51_rt : h51.rt = false := rfl
@[simp] theorem h51_inv : h51.inv = [] := rfl
@[simp] theorem h51_mv : h51.mv = [] := rfl
def h53 : Hint where
  vars := [0, 1, 4]
  conds := []
  steal := [8, 12]
  live := []
  roots := []
  rets := true
  glob := []
  sw := []
  msd := [11]
  alt := []
  fz := 0
  gc := false
  wk := false
  rt := false
  inv := []
  mv := []
@[simp] theorem h53_vars : h53.vars = [0, 1, 4] := rfl
@[simp] theorem h53_conds : h53.conds = [] := rfl
@[simp] theorem h53_steal : h53.steal = [8, 12] := rfl
@[simp] theorem h53_live : h53.live = [] := rfl
@[simp] theorem h53_roots : h53.roots = [] := rfl
@[simp] theorem h53_rets : h53.rets = true := rfl
@[simp] theorem h53_glob : h53.glob = [] := rfl
@[simp] theorem h53_sw : h53.sw = [] := rfl
@[simp] theorem h53_msd : h53.msd = [11] := rfl
@[simp] theorem h53_alt : h53.alt = [] := rfl
@[simp] theorem h53_fz : h53.fz = 0 := rfl
@[simp] theorem h53_gc : h53.gc = false := rfl
@[simp] theorem h53_wk : h53.wk = false := rfl
@[simp] theorem h53_rt : h53.rt = false := rfl
@[simp] theorem h53_inv : h53.inv = [] := rfl
@[simp] theorem h53_mv : h53.mv = [] := rfl
def h54 : Hint where
  vars := [0, 1, 4]
  conds := []
  steal := [10, 12, 18]
  live := []
  roots := []
  rets := true
  glob := []
  sw := []
  msd := []
  alt := []
  fz := 0
  gc := false
  wk := false
  rt := false
  inv := []
  mv := []
@[simp] theorem h54_vars : h54.vars = [0, 1, 4] := rfl
@[simp] theorem h54_conds : h54.conds = [] := rfl
@[simp] theorem h54_steal : h54.steal = [10, 12, 18] := rfl
@[simp] theorem h54_live : h54.live = [] := rfl
@[simp] theorem h54_roots : h54.roots = [] := rfl
@[simp] theorem h54_rets : h54.rets = true := rfl
@[simp] theorem h54_glob : h54.glob = [] := rfl
@[simp] theorem h54_sw : h54.sw = [] := rfl
@[simp] theorem h54_msd : h54.msd = [] := rfl
@[simp] theorem h54_alt : h54.alt = [] := rfl
@[simp] theorem h54_fz : h54.fz = 0 := rfl
@[simp] theorem h54_gc : h54.gc = false := rfl
@[simp] theorem h54_wk : h54.wk = false := rfl
@[simp] theorem h54_rt : h54.rt = false := rfl
@[simp] theorem h54_inv : h54.inv = [] := rfl
@[simp] theorem h54_mv : h54.mv = [] := rfl
def h55 : Hint where
  vars := [0]
  conds := []
  steal := []
  live := []
  roots := []
  rets := true
  glob := []
  sw := []
  msd := []
  alt := []
  fz := 0
  gc := false
  wk := false
  rt := false
  inv := []
  mv := []
@[simp] theorem h55_vars : h55.vars = [0] := rfl
@[simp] theorem h55_conds : h55.conds = [] := rfl
@[simp] theorem h55_steal : h55.steal = [] := rfl
@[simp] theorem h55_live : h55.live = [] := rfl
@[simp] theorem h55_roots : h55.roots = [] := rfl
@[simp] theorem h55_rets : h55.rets = true := rfl
@[simp] theorem h55_glob : h55.glob = [] := rfl
@[simp] theorem h55_sw : h55.sw = [] := rfl
@[simp] theorem h55_msd : h55.msd = [] := rfl
@[simp] theorem h55_alt : h55.alt = [] := rfl
@[simp] theorem h55_fz : h55.fz = 0 := rfl
@[simp] theorem h55_gc : h55.gc = false := rfl
@[simp] theorem h55_wk : h55.wk = false := rfl
@[simp] theorem h55_rt : h55.rt = false := rfl
@[simp] theorem h55_inv : h55.inv = [] := rfl
@[simp] theorem h55_mv : h55.mv = [] := rfl
def h56 : Hint where
  vars := [0, 1, 4]
  conds := []
  steal := []
  live := []
  roots := []
  rets := true
  glob := []
  sw := []
  msd := []
  alt := []
  fz := 0
  gc := false
  wk := false
  rt := false
  inv := []
  mv := []
@[simp] theorem h56_vars : h56.vars = [0, 1, 4] := rfl
@[simp] theorem h56_conds : h56.conds = [] := rfl
@[simp] theorem h56_steal : h56.steal = [] := rfl
@[simp] theorem h56_live : h56.live = [] := rfl
@[simp] theorem h56_roots : h56.roots = [] := rfl
@[simp] theorem h56_rets : h56.rets = true := rfl
@[simp] theorem h56_glob : h56.glob = [] := rfl
@[simp] theorem h56_sw : h56.sw = [] := rfl
@[simp] theorem h56_msd : h56.msd = [] := rfl
@[simp] theorem h56_alt : h56.alt = [] := rfl
@[simp] theorem h56_fz : h56.fz = 0 := rfl
@[simp] theorem h56_gc : h56.gc = false := rfl
@[simp] theorem h56_wk : h56.wk = false := rfl
@[simp] theorem h56_rt : h56.rt = false := rfl
@[simp] theorem h56_inv : h56.inv = [] := rfl
@[simp] theorem h56_mv : h56.mv = [] := rfl
def h57 : Hint where
  vars := [0, 2]
  conds := []
  steal := [5, 9, 10]
  live := []
  roots := []
  rets := true
  glob := []
  sw := []
  msd := []
  alt := []
  fz := 0
  gc := false
  wk := false
  rt := false
  inv := []
  mv := []
@[simp] theorem h57_vars : h57.vars = [0, 2] := rfl
@[simp] theorem h57_conds : h57.conds = [] := rfl
@[simp] theorem h57_steal : h57.steal = [5, 9, 10] := rfl
@[simp] theorem h57_live : h57.live = [] := rfl
@[simp] theorem h57_roots : h57.roots = [] := rfl
@[simp] theorem h57_rets : h57.rets = true := rfl
@[simp] theorem h57_glob : h57.glob = [] := rfl
@[simp] theorem h57_sw : h57.sw = [] := rfl
@[simp] theorem h57_msd : h57.msd = [] := rfl
@[simp] theorem h57_alt : h57.alt = [] := rfl
@[simp] theorem h57_fz : h57.fz = 0 := rfl
@[simp] theorem h57_gc : h57.gc = false := rfl
@[simp] theorem h57_wk : h57.wk = false := rfl
@[simp] theorem h57_rt : h57.rt = false := rfl
@[simp] theorem h57_inv : h57.inv = [] := rfl
@[simp] theorem h57_mv : h57.mv = [] := rfl
def h58 : Hint where
  vars := [0, 2]
  conds := []
  steal := [3]
  live := []
  roots := []
  rets := true
  glob := []
  sw := []
  msd := []
  alt := []
  fz := 0
  gc := false
  wk := false
  rt := false
  inv := []
  mv := []
@[simp] theorem h58_vars : h58.vars = [0, 2] := rfl
@[simp] theorem h58_conds : h58.conds = [] := rfl
@[simp] theorem h58_steal : h58.steal = [3] := rfl
@[simp] theorem h58_live : h58.live = [] := rfl
@[simp] theorem h58_roots : h58.roots = [] := rfl
@[simp] theorem h58_rets : h58.rets = true := rfl
@[simp] theorem h58_glob : h58.glob = [] := rfl
@[simp] theorem h58_sw : h58.sw = [] := rfl
@[simp] theorem h58_msd : h58.msd = [] := rfl
@[simp] theorem h58_alt : h58.alt = [] := rfl
@[simp] theorem h58_fz : h58.fz = 0 := rfl
@[simp] theorem h58_gc : h58.gc = false := rfl
@[simp] theorem h58_wk : h58.wk = false := rfl
@[simp] theorem h58_rt : h58.rt = false := rfl
@[simp] theorem h58_inv : h58.inv = [] := rfl
@[simp] theorem h58_mv : h58.mv = [] := rfl
def h59 : Hint where
  vars := [0, 2, 3, 4, 5, 6, 7, 8, 9, 10]
  conds := [11, 14]
  steal := [56, 64]
  live := [(3, [0, 2, 3, 10])]
  roots := [(42, 3), (45, 3), (49, 3), (70, 3), (76, 3), (81, 3)]
  rets := true
  glob := []
  sw := []
  msd := []
  alt := []
  fz := 0
  gc := false
  wk := false
  rt := false
  inv := []
  mv := []
@[simp] theorem h59_vars : h59.vars = [0, 2, 3, 4, 5, 6, 7, 8, 9, 10] := rfl
@[simp] theorem h59_conds : h59.conds = [11, 14] := rfl
@[simp] theorem h59_steal : h59.steal = [56, 64] := rfl
@[simp] theorem h59_live : h59.live = [(3, [0, 2, 3, 10])] := rfl
@[simp] theorem h59_roots : h59.roots = [(42, 3), (45, 3), (49, 3), (70, 3), (76, 3), (81, 3)] := rfl
@[simp] theorem h59_rets : h59.rets = true := rfl
@[simp] theorem h59_glob : h59.glob = [] := rfl
@[simp] theorem h59_sw : h59.sw = [] := rfl
@[simp] theorem h59_msd : h59.msd = [] := rfl
@[simp] theorem h59_alt : h59.alt = [] := rfl
@[simp] theorem h59_fz : h59.fz = 0 := rfl
@[simp] theorem h59_gc : h59.gc = false := rfl
@[simp] theorem h59_wk : h59.wk = false := rfl
@[simp] theorem h59_rt : h59.rt = false := rfl
@[simp] theorem h59_inv : h59.inv = [] := rfl
@[simp] theorem h59_mv : h59.mv = [] := rfl
def h60 : Hint where
  vars := [0, 1, 4]
  conds := []
  steal := [5, 6]
  live := []
  roots := []
  rets := true
  glob := []
  sw := []
  msd := []
  alt := []
  fz := 0
  gc := false
  wk := false
  rt := false
  inv := []
  mv := []
@[simp] theorem h60_vars : h60.vars = [0, 1, 4] := rfl
@[simp] theorem h60_conds : h60.conds = [] := rfl
@[simp] theorem h60_steal : h60.steal = [5, 6] := rfl
@[simp] theorem h60_live : h60.live = [] := rfl
@[simp] theorem h60_roots : h60.roots = [] := rfl
@[simp] theorem h60_rets : h60.rets = true := rfl
@[simp] theorem h60_glob : h60.glob = [] := rfl
@[simp] theorem h60_sw : h60.sw = [] := rfl
@[simp] theorem h60_msd : h60.msd = [] := rfl
@[simp] theorem h60_alt : h60.alt = [] := rfl
@[simp] theorem h60_fz : h60.fz = 0 := rfl
@[simp] theorem h60_gc : h60.gc = false := rfl
@[simp] theorem h60_wk : h60.wk = false := rfl
@[simp] theorem h60_rt : h60.rt = false := rfl
@[simp] theorem h60_inv : h60.inv = [] := rfl
@[simp] theorem h60_mv : h60.mv = [] := rfl
def h61 : Hint where
  vars := [0, 1, 4, 5]
  conds := []
  steal := [6, 7, 10]
  live := []
  roots := []
  rets := true
  glob := []
  sw := []
  msd := []
  alt := []
  fz := 0
  gc := false
  wk := false
  rt := false
  inv := []
  mv := []
@[simp] theorem h61_vars : h61.vars = [0, 1, 4, 5] := rfl
@[simp] theorem h61_conds : h61.conds = [] := rfl
@[simp] theorem h61_steal : h61.steal = [6, 7, 10] := rfl
@[simp] theorem h61_live : h61.live = [] := rfl
@[simp] theorem h61_roots : h61.roots = [] := rfl
@[simp] theorem h61_rets : h61.rets = true := rfl
@[simp] theorem h61_glob : h61.glob = [] := rfl
@[simp] theorem h61_sw : h61.sw = [] := rfl
@[simp] theorem h61_msd : h61.msd = [] := rfl
@[simp] theorem h61_alt : h61.alt = [] := rfl
@[simp] theorem h61_fz : h61.fz = 0 := rfl
@[simp] theorem h61_gc : h61.gc = false := rfl
@[simp] theorem h61_wk : h61.wk = false := rfl
@[simp] theorem h61_rt : h61.rt = false := rfl
@[simp] theorem h61_inv : h61.inv = [] := rfl
@[simp] theorem h61_mv : h61.mv = [] := rfl
def h62 : Hint where
  vars := [0, 1, 4, 5]
  conds := [8, 13, 20, 27, 28]
  steal := [11, 16, 17, 25, 26, 29, 33, 34]
  live := []
  roots := []
  rets := true
  glob := []
  sw := []
  msd := []
  alt := []
  fz := 0
  gc := false
  wk := false
  rt := false
  inv := []
  mv := []
@[simp] theorem h62_vars : h62.vars = [0, 1, 4, 5] := rfl
@[simp] theorem h62_conds : h62.conds = [8, 13, 20, 27, 28] := rfl
@[simp] theorem h62_steal : h62.steal = [11, 16, 17, 25, 26, 29, 33, 34] := rfl
@[simp] theorem h62_live : h62.live = [] := rfl
@[simp] theorem h62_roots : h62.roots = [] := rfl
@[simp] theorem h62_rets : h62.rets = true := rfl
@[simp] theorem h62_glob : h62.glob = [] := rfl
@[simp] theorem h62_sw : h62.sw = [] := rfl
@[simp] theorem h62_msd : h62.msd = [] := rfl
@[simp] theorem h62_alt : h62.alt = [] := rfl
@[simp] theorem h62_fz : h62.fz = 0 := rfl
@[simp] theorem h62_gc : h62.gc = false := rfl
@[simp] theorem h62_wk : h62.wk = false := rfl
@[simp] theorem h62_rt : h62.rt = false := rfl
@[simp] theorem h62_inv : h62.inv = [] := rfl
@[simp] theorem h62_mv : h62.mv = [] := rfl
def h63 : Hint where
  vars := [0, 1, 4]
  conds := []
  steal := [5, 6]
  live := []
  roots := []
  rets := true
  glob := []
  sw := []
  msd := []
  alt := []
  fz := 0
  gc := false
  wk := false
  rt := false
  inv := []
  mv := []
@[simp] theorem h63_vars : h63.vars = [0, 1, 4] := rfl
@[simp] theorem h63_conds : h63.conds = [] := rfl
@[simp] theorem h63_steal : h63.steal = [5, 6] := rfl
@[simp] theorem h63_live : h63.live = [] := rfl
@[simp] theorem h63_roots : h63.roots = [] := rfl
@[simp] theorem h63_rets : h63.rets = true := rfl
@[simp] theorem h63_glob : h63.glob = [] := rfl
@[simp] theorem h63_sw : h63.sw = [] := rfl
@[simp] theorem h63_msd : h63.msd = [] := rfl
@[simp] theorem h63_alt : h63.alt = [] := rfl
@[simp] theorem h63_fz : h63.fz = 0 := rfl
@[simp] theorem h63_gc : h63.gc = false := rfl
@[simp] theorem h63_wk : h63.wk = false := rfl
@[simp] theorem h63_rt : h63.rt = false := rfl
@[simp] theorem h63_inv : h63.inv = [] := rfl
@[simp] theorem h63_mv : h63.mv = [] := rfl
def h64 : Hint where
  vars := [0, 2, 3, 4, 5, 6, 7, 8, 9, 10]
  conds := [46]
  steal := [11, 12, 15, 16, 17, 21, 22, 23, 26, 27, 29, 30, 33, 38, 39, 42]
  live := []
  roots := [(2, 2)]
  rets := true
  glob := []
  sw := [50]
  msd := []
  alt := []
  fz := 0
  gc := false
  wk := false
  rt := false
  inv := []
  mv := []
@[simp] theorem h64_vars : h64.vars = [0, 2, 3, 4, 5, 6, 7, 8, 9, 10] := rfl
@[simp] theorem h64_conds : h64.conds = [46] := rfl
@[simp] theorem h64_steal : h64.steal = [11, 12, 15, 16, 17, 21, 22, 23, 26, 27, 29, 30, 33, 38, 39, 42] := rfl
@[simp] theorem h64_live : h64.live = [] := rfl
@[simp] theorem h64_roots : h64.roots = [(2, 2)] := rfl
@[simp] theorem h64_rets : h64.rets = true := rfl
@[simp] theorem h64_glob : h64.glob = [] := rfl
@[simp] theorem h64_sw : h64.sw = [50] := rfl
@[simp] theorem h64_msd : h64.msd = [] := rfl
@[simp] theorem h64_alt : h64.alt = [] := rfl
@[simp] theorem h64_fz : h64.fz = 0 := rfl
@[simp] theorem h64_gc : h64.gc = false := rfl
@[simp] theorem h64_wk : h64.wk = false := rfl
@[simp] theorem h64_rt : h64.rt = false := rfl
@[simp] theorem h64_inv : h64.inv = [] := rfl
@[simp] theorem h64_mv : h64.mv = [] := rfl
def h65 : Hint where
  vars := [0, 1, 4, 5, 7, 8]
  conds := [9, 16]
  steal := [17]
  live := [(2, [0, 1, 7, 8])]
  roots := []
  rets := true
  glob := []
  sw := []
  msd := []
  alt := []
  fz := 0
  gc := true
  wk := false
  rt := false
  inv := []
  mv := []
@[simp] theorem h65_vars : h65.vars = [0, 1, 4, 5, 7, 8] := rfl
@[simp] theorem h65_conds : h65.conds = [9, 16] := rfl
@[simp] theorem h65_steal : h65.steal = [17] := rfl
@[simp] theorem h65_live : h65.live = [(2, [0, 1, 7, 8])] := rfl
@[simp] theorem h65_roots : h65.roots = [] := rfl
@[simp] theorem h65_rets : h65.rets = true := rfl
@[simp] theorem h65_glob : h65.glob = [] := rfl
@[simp] theorem h65_sw : h65.sw = [] := rfl
@[simp] theorem h65_msd : h65.msd = [] := rfl
@[simp] theorem h65_alt : h65.alt = [] := rfl
@[simp] theorem h65_fz : h65.fz = 0 := rfl
@[simp] theorem h65_gc : h65.gc = true := rfl
@[simp] theorem h65_wk : h65.wk = false := rfl
@[simp] theorem h65_rt : h65.rt = false := rfl
@[simp] theorem h65_inv : h65.inv = [] := rfl
@[simp] theorem h65_mv : h65.mv = [] := rfl
def h66 : Hint where
  vars := [0, 1, 4]
  conds := []
  steal := [10, 12, 18]
  live := []
  roots := []
  rets := true
  glob := []
  sw := []
  msd := []
  alt := []
  fz := 0
  gc := false
  wk := false
  rt := false
  inv := []
  mv := []
@[simp] theorem h66_vars : h66.vars = [0, 1, 4] := rfl
@[simp] theorem h66_conds : h66.conds = [] := rfl
@[simp] theorem h66_steal : h66.steal = [10, 12, 18] := rfl
@[simp] theorem h66_live : h66.live = [] := rfl
@[simp] theorem h66_roots : h66.roots = [] := rfl
@[simp] theorem h66_rets : h66.rets = true := rfl
@[simp] theorem h66_glob : h66.glob = [] := rfl
@[simp] theorem h66_sw : h66.sw = [] := rfl
@[simp] theorem h66_msd : h66.msd = [] := rfl
@[simp] theorem h66_alt : h66.alt = [] := rfl
@[simp] theorem h66_fz : h66.fz = 0 := rfl
@[simp] theorem h66_gc : h66.gc = false := rfl
@[simp] theorem h66_wk : h66.wk = false := rfl
@[simp] theorem h66_rt : h66.rt = false := rfl
@[simp] theorem h66_inv : h66.inv = [] := rfl
@[simp] theorem h66_mv : h66.mv = [] := rfl
def h67 : Hint where
  vars := [0, 1, 4]
  conds := []
  steal := [5, 6]
  live := []
  roots := []
  rets := true
  glob := []
  sw := []
  msd := []
  alt := []
  fz := 0
  gc := false
  wk := false
  rt := false
  inv := []
  mv := []
@[simp] theorem h67_vars : h67.vars = [0, 1, 4] := rfl
@[simp] theorem h67_conds : h67.conds = [] := rfl
@[simp] theorem h67_steal : h67.steal = [5, 6] := rfl
@[simp] theorem h67_live : h67.live = [] := rfl
@[simp] theorem h67_roots : h67.roots = [] := rfl
@[simp] theorem h67_rets : h67.rets = true := rfl
@[simp] theorem h67_glob : h67.glob = [] := rfl
@[simp] theorem h67_sw : h67.sw = [] := rfl
@[simp] theorem h67_msd : h67.msd = [] := rfl
@[simp] theorem h67_alt : h67.alt = [] := rfl
@[simp] theorem h67_fz : h67.fz = 0 := rfl
@[simp] theorem h67_gc : h67.gc = false := rfl
@[simp] theorem h67_wk : h67.wk = false := rfl
@[simp] theorem h67_rt : h67.rt = false := rfl
@[simp] theorem h67_inv : h67.inv = [] := rfl
@[simp] theorem h67_mv : h67.mv = [] := rfl
def h69 : Hint where
  vars := [0, 1, 4, 5, 6, 7, 9]
  conds := [11, 17, 23, 34]
  steal := [14, 18, 24, 31, 33, 36, 40, 44, 47, 48, 52, 53]
  live := []
  roots := []
  rets := true
  glob := [5]
  sw := []
  msd := []
  alt := []
  fz := 0
  gc := true
  wk := false
  rt := false
  inv := []
  mv := []
@[simp] theorem h69_vars : h69.vars = [0, 1, 4, 5, 6, 7, 9] := rfl
@[simp] theorem h69_conds : h69.conds = [11, 17, 23, 34] := rfl
@[simp] theorem h69_steal : h69.steal = [14, 18, 24, 31, 33, 36, 40, 44, 47, 48, 52, 53] := rfl
@[simp] theorem h69_live : h69.live = [] := rfl
@[simp] theorem h69_roots : h69.roots = [] := rfl
@[simp] theorem h69_rets : h69.rets = true := rfl
@[simp] theorem h69_glob : h69.glob = [5] := rfl
@[simp] theorem h69_sw : h69.sw = [] := rfl
@[simp] theorem h69_msd : h69.msd = [] := rfl
@[simp] theorem h69_alt : h69.alt = [] := rfl
@[simp] theorem h69_fz : h69.fz = 0 := rfl
@[simp] theorem h69_gc : h69.gc = true := rfl
@[simp] theorem h69_wk : h69.wk = false := rfl
@[simp] theorem h69_rt : h69.rt = false := rfl
@[simp] theorem h69_inv : h69.inv = [] := rfl
@[simp] theorem h69_mv : h69.mv = [] := rfl
def h70 : Hint where
  vars := [0, 1, 4, 5]
  conds := []
  steal := [6, 12, 13]
  live := []
  roots := []
  rets := true
  glob := []
  sw := []
  msd := []
  alt := []
  fz := 0
  gc := false
  wk := false
  rt := false
  inv := []
  mv := []
@[simp] theorem h70_vars : h70.vars = [0, 1, 4, 5] := rfl
@[simp] theorem h70_conds : h70.conds = [] := rfl
@[simp] theorem h70_steal : h70.steal = [6, 12, 13] := rfl
@[simp] theorem h70_live : h70.live = [] := rfl
@[simp] theorem h70_roots : h70.roots = [] := rfl
@[simp] theorem h70_rets : h70.rets = true := rfl
@[simp] theorem h70_glob : h70.glob = [] := rfl
@[simp] theorem h70_sw : h70.sw = [] := rfl
@[simp] theorem h70_msd : h70.msd = [] := rfl
@[simp] theorem h70_alt : h70.alt = [] := rfl
@[simp] theorem h70_fz : h70.fz = 0 := rfl
@[simp] theorem h70_gc : h70.gc = false := rfl
@[simp] theorem h70_wk : h70.wk = false := rfl
@[simp] theorem h70_rt : h70.rt = false := rfl
@[simp] theorem h70_inv : h70.inv = [] := rfl
@[simp] theorem h70_mv : h70.mv = [] := rfl
def h71 : Hint where
  vars := [0, 1, 4, 5]
  conds := [9]
  steal := [10, 12, 14]
  live := []
  roots := []
  rets := true
  glob := []
  sw := []
  msd := []
  alt := []
  fz := 0
  gc := false
  wk := false
  rt := false
  inv := []
  mv := []
@[simp] theorem h71_vars : h71.vars = [0, 1, 4, 5] := rfl
@[simp] theorem h71_conds : h71.conds = [9] := rfl
@[simp] theorem h71_steal : h71.steal = [10, 12, 14] := rfl
@[simp] theorem h71_live : h71.live = [] := rfl
@[simp] theorem h71_roots : h71.roots = [] := rfl
@[simp] theorem h71_rets : h71.rets = true := rfl
@[simp] theorem h71_glob : h71.glob = [] := rfl
@[simp] theorem h71_sw : h71.sw = [] := rfl
@[simp] theorem h71_msd : h71.msd = [] := rfl
@[simp] theorem h71_alt : h71.alt = [] := rfl
@[simp] theorem h71_fz : h71.fz = 0 := rfl
@[simp] theorem h71_gc : h71.gc = false := rfl
@[simp] theorem h71_wk : h71.wk = false := rfl
@[simp] theorem h71_rt : h71.rt = false := rfl
@[simp] theorem h71_inv : h71.inv = [] := rfl
@[simp] theorem h71_mv : h71.mv = [] := rfl
def h72 : Hint where
  vars := [0, 1, 4, 5]
  conds := [10, 17]
  steal := [11, 18]
  live := [(2, [0, 1, 5])]
  roots := []
  rets := true
  glob := []
  sw := []
  msd := []
  alt := []
  fz := 0
  gc := false
  wk := false
  rt := false
  inv := []
  mv := []
@[simp] theorem h72_vars : h72.vars = [0, 1, 4, 5] := rfl
@[simp] theorem h72_conds : h72.conds = [10, 17] := rfl
@[simp] theorem h72_steal : h72.steal = [11, 18] := rfl
@[simp] theorem h72_live : h72.live = [(2, [0, 1, 5])] := rfl
@[simp] theorem h72_roots : h72.roots = [] := rfl
@[simp] theorem h72_rets : h72.rets = true := rfl
@[simp] theorem h72_glob : h72.glob = [] := rfl
@[simp] theorem h72_sw : h72.sw = [] := rfl
@[simp] theorem h72_msd : h72.msd = [] := rfl
@[simp] theorem h72_alt : h72.alt = [] := rfl
@[simp] theorem h72_fz : h72.fz = 0 := rfl
@[simp] theorem h72_gc : h72.gc = false := rfl
@[simp] theorem h72_wk : h72.wk = false := rfl
@[simp] theorem h72_rt : h72.rt = false := rfl
@[simp] theorem h72_inv : h72.inv = [] := rfl
@[simp] theorem h72_mv : h72.mv = [] := rfl
def h73 : Hint where
  vars := [0, 1, 4, 5, 6, 7, 8, 9, 10, 11]
  conds := [28, 47, 52, 85]
  steal := [12, 16, 29, 31, 41, 48, 49, 53, 55, 57, 63, 76, 86]
  live := [(6, [0, 1, 5, 6, 7, 8, 9, 10]), (12, [0, 1, 5, 6, 7, 9, 11])]
  roots := []
  rets := true
  glob := []
  sw := []
  msd := []
  alt := []
  fz := 0
  gc := false
  wk := false
  rt := false
  inv := []
  mv := []
@[simp] theorem h73_vars : h73.vars = [0, 1, 4, 5, 6, 7, 8, 9, 10, 11] := rfl
@[simp] theorem h73_conds : h73.conds = [28, 47, 52, 85] := rfl
@[simp] theorem h73_steal : h73.steal = [12, 16, 29, 31, 41, 48, 49, 53, 55, 57, 63, 76, 86] := rfl
@[simp] theorem h73_live : h73.live = [(6, [0, 1, 5, 6, 7, 8, 9, 10]), (12, [0, 1, 5, 6, 7, 9, 11])] := rfl
@[simp] theorem h73_roots : h73.roots = [] := rfl
@[simp] theorem h73_rets : h73.rets = true := rfl
@[simp] theorem h73_glob : h73.glob = [] := rfl
@[simp] theorem h73_sw : h73.sw = [] := rfl
@[simp] theorem h73_msd : h73.msd = [] := rfl
@[simp] theorem h73_alt : h73.alt = [] := rfl
@[simp] theorem h73_fz : h73.fz = 0 := rfl
@[simp] theorem h73_gc : h73.gc = false := rfl
@[simp] theorem h73_wk : h73.wk = false := rfl
@[simp] theorem h73_rt : h73.rt = false := rfl
@[simp] theorem h73_inv : h73.inv = [] := rfl
@[simp] theorem h73_mv : h73.mv = [] := rfl
def h74 : Hint where
  vars := [0, 1, 2, 3, 8, 9, 10, 11]
  conds := [13, 15, 20, 36, 41]
  steal := [16, 17, 25, 32, 50, 51, 56, 60, 62, 63]
  live := [(11, [0, 1, 2, 3, 9, 10])]
  roots := []
  rets := true
  glob := [31]
  sw := []
  msd := [31]
  alt := []
  fz := 2
  gc := true
  wk := false
  rt := false
  inv := []
  mv := []
@[simp] theorem h74_vars : h74.vars = [0, 1, 2, 3, 8, 9, 10, 11] := rfl
@[simp] theorem h74_conds : h74.conds = [13, 15, 20, 36, 41] := rfl
@[simp] theorem h74_steal : h74.steal = [16, 17, 25, 32, 50, 51, 56, 60, 62, 63] := rfl
@[simp] theorem h74_live : h74.live = [(11, [0, 1, 2, 3, 9, 10])] := rfl
@[simp] theorem h74_roots : h74.roots = [] := rfl
@[simp] theorem h74_rets : h74.rets = true := rfl
@[simp] theorem h74_glob : h74.glob = [31] := rfl
@[simp] theorem h74_sw : h74.sw = [] := rfl
@[simp] theorem h74_msd : h74.msd = [31] := rfl
@[simp] theorem h74_alt : h74.alt = [] := rfl
@[simp] theorem h74_fz : h74.fz = 2 := rfl
@[simp] theorem h74_gc : h74.gc = true := rfl
@[simp] theorem h74_wk : h74.wk = false := rfl
@[simp] theorem h74_rt : h74.rt = false := rfl
@[simp] theorem h74_inv : h74.inv = [] := rfl
@[simp] theorem h74_mv : h74.mv = [] := rfl
def h75 : Hint where
  vars := [0, 1, 4, 5]
  conds := []
  steal := [6, 7, 10]
  live := []
  roots := []
  rets := true
  glob := []
  sw := []
  msd := []
  alt := []
  fz := 0
  gc := false
  wk := false
  rt := false
  inv := []
  mv := []
@[simp] theorem h75_vars : h75.vars = [0, 1, 4, 5] := rfl
@[simp] theorem h75_conds : h75.conds = [] := rfl
@[simp] theorem h75_steal : h75.steal = [6, 7, 10] := rfl
@[simp] theorem h75_live : h75.live = [] := rfl
@[simp] theorem h75_roots : h75.roots = [] := rfl
@[simp] theorem h75_rets : h75.rets = true := rfl
@[simp] theorem h75_glob : h75.glob = [] := rfl
@[simp] theorem h75_sw : h75.sw = [] := rfl
@[simp] theorem h75_msd : h75.msd = [] := rfl
@[simp] theorem h75_alt : h75.alt = [] := rfl
@[simp] theorem h75_fz : h75.fz = 0 := rfl
@[simp] theorem h75_gc : h75.gc = false := rfl
@[simp] theorem h75_wk : h75.wk = false := rfl
@[simp] theorem h75_rt : h75.rt = false := rfl
@[simp] theorem h75_inv : h75.inv = [] := rfl
@[simp] theorem h75_mv : h75.mv = [] := rfl
def h76 : Hint where
  vars := [0, 1, 4, 5, 6]
  conds := []
  steal := [7, 8, 12]
  live := []
  roots := []
  rets := true
  glob := []
  sw := []
  msd := []
  alt := []
  fz := 0
  gc := false
  wk := false
  rt := false
  inv := []
  mv := []
@[simp] theorem h76_vars : h76.vars = [0, 1, 4, 5, 6] := rfl
@[simp] theorem h76_conds : h76.conds = [] := rfl
@[simp] theorem h76_steal : h76.steal = [7, 8, 12] := rfl
@[simp] theorem h76_live : h76.live = [] := rfl
@[simp] theorem h76_roots : h76.roots = [] := rfl
@[simp] theorem h76_rets : h76.rets = true := rfl
@[simp] theorem h76_glob : h76.glob = [] := rfl
@[simp] theorem h76_sw : h76.sw = [] := rfl
@[simp] theorem h76_msd : h76.msd = [] := rfl
@[simp] theorem h76_alt : h76.alt = [] := rfl
@[simp] theorem h76_fz : h76.fz = 0 := rfl
@[simp] theorem h76_gc : h76.gc = false := rfl
@[simp] theorem h76_wk : h76.wk = false := rfl
@[simp] theorem h76_rt : h76.rt = false := rfl
@[simp] theorem h76_inv : h76.inv = [] := rfl
@[simp] theorem h76_mv : h76.mv = [] := rfl
def h77 : Hint where
  vars := [0, 2, 3, 4, 5, 6, 7, 8, 9]
  conds := [15, 23, 32, 45]
  steal := [16, 24, 27, 29, 33, 35, 44, 46]
  live := [(5, [0, 4, 5, 6, 7, 8])]
  roots := []
  rets := true
  glob := []
  sw := []
  msd := []
  alt := []
  fz := 0
  gc := false
  wk := false
  rt := false
  inv := []
  mv := []
@[simp] theorem h77_vars : h77.vars = [0, 2, 3, 4, 5, 6, 7, 8, 9] := rfl
@[simp] theorem h77_conds : h77.conds = [15, 23, 32, 45] := rfl
@[simp] theorem h77_steal : h77.steal = [16, 24, 27, 29, 33, 35, 44, 46] := rfl
@[simp] theorem h77_live : h77.live = [(5, [0, 4, 5, 6, 7, 8])] := rfl
@[simp] theorem h77_roots : h77.roots = [] := rfl
@[simp] theorem h77_rets : h77.rets = true := rfl
@[simp] theorem h77_glob : h77.glob = [] := rfl
@[simp] theorem h77_sw : h77.sw = [] := rfl
@[simp] theorem h77_msd : h77.msd = [] := rfl
@[simp] theorem h77_alt : h77.alt = [] := rfl
@[simp] theorem h77_fz : h77.fz = 0 := rfl
@[simp] theorem h77_gc : h77.gc = false := rfl
@[simp] theorem h77_wk : h77.wk = false := rfl
@[simp] theorem h77_rt : h77.rt = false := rfl
@[simp] theorem h77_inv : h77.inv = [] := rfl
@[simp] theorem h77_mv : h77.mv = [] := rfl
def h78 : Hint where
  vars := [0, 1, 2, 6, 7, 8, 10, 11]
  conds := [12, 19]
  steal := [9, 14, 16, 20]
  live := [(2, [1, 2, 10])]
  roots := []
  rets := true
  glob := []
  sw := []
  msd := []
  alt := []
  fz := 0
  gc := true
  wk := false
  rt := false
  inv := []
  mv := []
@[simp] theorem h78_vars : h78.vars = [0, 1, 2, 6, 7, 8, 10, 11] := rfl
@[simp] theorem h78_conds : h78.conds = [12, 19] := rfl
@[simp] theorem h78_steal : h78.steal = [9, 14, 16, 20] := rfl
@[simp] theorem h78_live : h78.live = [(2, [1, 2, 10])] := rfl
@[simp] theorem h78_roots : h78.roots = [] := rfl
@[simp] theorem h78_rets : h78.rets = true := rfl
@[simp] theorem h78_glob : h78.glob = [] := rfl
@[simp] theorem h78_sw : h78.sw = [] := rfl
@[simp] theorem h78_msd : h78.msd = [] := rfl
@[simp] theorem h78_alt : h78.alt = [] := rfl
@[simp] theorem h78_fz : h78.fz = 0 := rfl
@[simp] theorem h78_gc : h78.gc = true := rfl
@[simp] theorem h78_wk : h78.wk = false := rfl
@[simp] theorem h78_rt : h78.rt = false := rfl
@[simp] theorem h78_inv : h78.inv = [] := rfl
@[simp] theorem h78_mv : h78.mv = [] := rfl
def h79 : Hint where
  vars := [0, 2]
  conds := [4]
  steal := [6, 11]
  live := []
  roots := []
  rets := true
  glob := []
  sw := []
  msd := []
  alt := []
  fz := 0
  gc := false
  wk := false
  rt := false
  inv := []
  mv := []
@[simp] theorem h79_vars : h79.vars = [0, 2] := rfl
@[simp] theorem h79_conds : h79.conds = [4] := rfl
@[simp] theorem h79_steal : h79.steal = [6, 11] := rfl
@[simp] theorem h79_live : h79.live = [] := rfl
@[simp] theorem h79_roots : h79.roots = [] := rfl
@[simp] theorem h79_rets : h79.rets = true := rfl
@[simp] theorem h79_glob : h79.glob = [] := rfl
@[simp] theorem h79_sw : h79.sw = [] := rfl
@[simp] theorem h79_msd : h79.msd = [] := rfl
@[simp] theorem h79_alt : h79.alt = [] := rfl
@[simp] theorem h79_fz : h79.fz = 0 := rfl
@[simp] theorem h79_gc : h79.gc = false := rfl
@[simp] theorem h79_wk : h79.wk = false := rfl
@[simp] theorem h79_rt : h79.rt = false := rfl
@[simp] theorem h79_inv : h79.inv = [] := rfl
@[simp] theorem h79_mv : h79.mv = [] := rfl
def h80 : Hint where
  vars := [0, 2, 3]
  conds := []
  steal := [8, 9]
  live := []
  roots := []
  rets := true
  glob := []
  sw := []
  msd := []
  alt := []
  fz := 0
  gc := false
  wk := false
  rt := false
  inv := []
  mv := []
@[simp] theorem h80_vars : h80.vars = [0, 2, 3] := rfl
@[simp] theorem h80_conds : h80.conds = [] := rfl
@[simp] theorem h80_steal : h80.steal = [8, 9] := rfl
@[simp] theorem h80_live : h80.live = [] := rfl
@[simp] theorem h80_roots : h80.roots = [] := rfl
@[simp] theorem h80_rets : h80.rets = true := rfl
@[simp] theorem h80_glob : h80.glob = [] := rfl
@[simp] theorem h80_sw : h80.sw = [] := rfl
@[simp] theorem h80_msd : h80.msd = [] := rfl
@[simp] theorem h80_alt : h80.alt = [] := rfl
@[simp] theorem h80_fz : h80.fz = 0 := rfl
@[simp] theorem h80_gc : h80.gc = false := rfl
@[simp] theorem h80_wk : h80.wk = false := rfl
@[simp] theorem h80_rt : h80.rt = false := rfl
@[simp] theorem h80_inv : h80.inv = [] := rfl
@[simp] theorem h80_mv : h80.mv = [] := rfl
def h81 : Hint where
  vars := [0, 1, 4, 5, 6, 7, 8, 9, 10, 11, 12, 13, 14, 15, 16]
  conds := [20, 99, 139, 161]
  steal := [24, 28, 33, 39, 94, 96, 102, 107, 136, 143, 158, 160, 162, 163]
  live := [(1, [0, 1, 4])]
  roots := []
  rets := true
  glob := []
  sw := [53, 54, 66, 67, 79, 80, 92, 93, 121, 122, 134, 135, 156, 157]
  msd := []
  alt := []
  fz := 0
  gc := false
  wk := false
  rt := false
  inv := []
  mv := []
@[simp] theorem h81_vars : h81.vars = [0, 1, 4, 5, 6, 7, 8, 9, 10, 11, 12, 13, 14, 15, 16] := rfl
@[simp] theorem h81_conds : h81.conds = [20, 99, 139, 161] := rfl
@[simp] theorem h81_steal : h81.steal = [24, 28, 33, 39, 94, 96, 102, 107, 136, 143, 158, 160, 162, 163] := rfl
@[simp] theorem h81_live : h81.live = [(1, [0, 1, 4])] := rfl
@[simp] theorem h81_roots : h81.roots = [] := rfl
@[simp] theorem h81_rets : h81.rets = true := rfl
@[simp] theorem h81_glob : h81.glob = [] := rfl
@[simp] theorem h81_sw : h81.sw = [53, 54, 66, 67, 79, 80, 92, 93, 121, 122, 134, 135, 156, 157] := rfl
@[simp] theorem h81_msd : h81.msd = [] := rfl
@[simp] theorem h81_alt : h81.alt = [] := rfl
@[simp] theorem h81_fz : h81.fz = 0 := rfl
@[simp] theorem h81_gc : h81.gc = false := rfl
@[simp] theorem h81_wk : h81.wk = false := rfl
@[simp] theorem h81_rt : h81.rt = false := rfl
@[simp] theorem h81_inv : h81.inv = [] := rfl
@[simp] theorem h81_mv : h81.mv = [] := rfl
def h82 : Hint where
  vars := [0, 1, 2, 3, 4, 10, 11, 12, 13, 14, 15, 16, 17, 18]
  conds := [28, 30, 34, 46, 68, 89, 94]
  steal := [21, 25, 31, 41, 47, 55, 58, 61, 64, 69, 75, 82, 83, 86, 89, 90, 94, 95, 96, 99]
  live := [(11, [0, 1, 3, 4, 10, 11, 12, 13, 14, 15, 16]), (18, [0, 1, 3, 4, 10, 11, 12, 13, 17])]
  roots := []
  rets := true
  glob := [12]
  sw := []
  msd := []
  alt := []
  fz := 0
  gc := true
  wk := false
  rt := false
  inv := []
  mv := []
@[simp] theorem h82_vars : h82.vars = [0, 1, 2, 3, 4, 10, 11, 12, 13, 14, 15, 16, 17, 18] := rfl
@[simp] theorem h82_conds : h82.conds = [28, 30, 34, 46, 68, 89, 94] := rfl
@[simp] theorem h82_steal : h82.steal = [21, 25, 31, 41, 47, 55, 58, 61, 64, 69, 75, 82, 83, 86, 89, 90, 94, 95, 96, 99] := rfl
@[simp] theorem h82_live : h82.live = [(11, [0, 1, 3, 4, 10, 11, 12, 13, 14, 15, 16]), (18, [0, 1, 3, 4, 10, 11, 12, 13, 17])] := rfl
@[simp] theorem h82_roots : h82.roots = [] := rfl
@[simp] theorem h82_rets : h82.rets = true := rfl
@[simp] theorem h82_glob : h82.glob = [12] := rfl
@[simp] theorem h82_sw : h82.sw = [] := rfl
@[simp] theorem h82_msd : h82.msd = [] := rfl
@[simp] theorem h82_alt : h82.alt = [] := rfl
@[simp] theorem h82_fz : h82.fz = 0 := rfl
@[simp] theorem h82_gc : h82.gc = true := rfl
@[simp] theorem h82_wk : h82.wk = false := rfl
@[simp] theorem h82_rt : h82.rt = false := rfl
@[simp] theorem h82_inv : h82.inv = [] := rfl
@[simp] theorem h82_mv : h82.mv = [] := rfl
def h83 : Hint where
  vars := [0, 2, 3, 4, 5, 6, 7, 8]
  conds := [13, 26, 31]
  steal := [14, 16, 23, 27, 32, 36, 38, 39]
  live := [(3, [0, 4, 5]), (8, [4, 6, 7, 8])]
  roots := []
  rets := true
  glob := []
  sw := []
  msd := []
  alt := []
  fz := 0
  gc := false
  wk := false
  rt := false
  inv := []
  mv := []
@[simp] theorem h83_vars : h83.vars = [0, 2, 3, 4, 5, 6, 7, 8] := rfl
@[simp] theorem h83_conds : h83.conds = [13, 26, 31] := rfl
@[simp] theorem h83_steal : h83.steal = [14, 16, 23, 27, 32, 36, 38, 39] := rfl
@[simp] theorem h83_live : h83.live = [(3, [0, 4, 5]), (8, [4, 6, 7, 8])] := rfl
@[simp] theorem h83_roots : h83.roots = [] := rfl
@[simp] theorem h83_rets : h83.rets = true := rfl
@[simp] theorem h83_glob : h83.glob = [] := rfl
@[simp] theorem h83_sw : h83.sw = [] := rfl
@[simp] theorem h83_msd : h83.msd = [] := rfl
@[simp] theorem h83_alt : h83.alt = [] := rfl
@[simp] theorem h83_fz : h83.fz = 0 := rfl
@[simp] theorem h83_gc : h83.gc = false := rfl
@[simp] theorem h83_wk : h83.wk = false := rfl
@[simp] theorem h83_rt : h83.rt = false := rfl
@[simp] theorem h83_inv : h83.inv = [] := rfl
@[simp] theorem h83_mv : h83.mv = [] := rfl
def h84 : Hint where
  vars := [0, 1, 4, 5, 6, 7, 9]
  conds := [18, 25, 43]
  steal := [14, 19, 26, 28, 32, 39, 40, 45, 47, 49]
  live := [(6, [0, 1, 6, 7])]
  roots := []
  rets := true
  glob := [21]
  sw := []
  msd := [21]
  alt := []
  fz := 2
  gc := true
  wk := false
  rt := false
  inv := []
  mv := []
@[simp] theorem h84_vars : h84.vars = [0, 1, 4, 5, 6, 7, 9] := rfl
@[simp] theorem h84_conds : h84.conds = [18, 25, 43] := rfl
@[simp] theorem h84_steal : h84.steal = [14, 19, 26, 28, 32, 39, 40, 45, 47, 49] := rfl
@[simp] theorem h84_live : h84.live = [(6, [0, 1, 6, 7])] := rfl
@[simp] theorem h84_roots : h84.roots = [] := rfl
@[simp] theorem h84_rets : h84.rets = true := rfl
@[simp] theorem h84_glob : h84.glob = [21] := rfl
@[simp] theorem h84_sw : h84.sw = [] := rfl
@[simp] theorem h84_msd : h84.msd = [21] := rfl
@[simp] theorem h84_alt : h84.alt = [] := rfl
@[simp] theorem h84_fz : h84.fz = 2 := rfl
@[simp] theorem h84_gc : h84.gc = true := rfl
@[simp] theorem h84_wk : h84.wk = false := rfl
@[simp] theorem h84_rt : h84.rt = false := rfl
@[simp] theorem h84_inv : h84.inv = [] := rfl
@[simp] theorem h84_mv : h84.mv = [] := rfl
def h85 : Hint where
  vars := [0, 1, 4, 5, 6]
  conds := [9, 15, 24]
  steal := [10, 16, 17, 25, 26, 28, 29]
  live := [(6, [0, 1, 5])]
  roots := []
  rets := true
  glob := []
  sw := []
  msd := []
  alt := []
  fz := 0
  gc := false
  wk := false
  rt := false
  inv := []
  mv := []
@[simp] theorem h85_vars : h85.vars = [0, 1, 4, 5, 6] := rfl
@[simp] theorem h85_conds : h85.conds = [9, 15, 24] := rfl
@[simp] theorem h85_steal : h85.steal = [10, 16, 17, 25, 26, 28, 29] := rfl
@[simp] theorem h85_live : h85.live = [(6, [0, 1, 5])] := rfl
@[simp] theorem h85_roots : h85.roots = [] := rfl
@[simp] theorem h85_rets : h85.rets = true := rfl
@[simp] theorem h85_glob : h85.glob = [] := rfl
@[simp] theorem h85_sw : h85.sw = [] := rfl
@[simp] theorem h85_msd : h85.msd = [] := rfl
@[simp] theorem h85_alt : h85.alt = [] := rfl
@[simp] theorem h85_fz : h85.fz = 0 := rfl
@[simp] theorem h85_gc : h85.gc = false := rfl
@[simp] theorem h85_wk : h85.wk = false := rfl
@[simp] theorem h85_rt : h85.rt = false := rfl
@[simp] theorem h85_inv : h85.inv = [] := rfl
@[simp] theorem h85_mv : h85.mv = [] := rfl
def h86 : Hint where
  vars := [0, 1, 4]
  conds := []
  steal := [5, 6]
  live := []
  roots := []
  rets := true
  glob := []
  sw := []
  msd := []
  alt := []
  fz := 0
  gc := false
  wk := false
  rt := false
  inv := []
  mv := []
@[simp] theorem h86_vars : h86.vars = [0, 1, 4] := rfl
@[simp] theorem h86_conds : h86.conds = [] := rfl
@[simp] theorem h86_steal : h86.steal = [5, 6] := rfl
@[simp] theorem h86_live : h86.live = [] := rfl
@[simp] theorem h86_roots : h86.roots = [] := rfl
@[simp] theorem h86_rets : h86.rets = true := rfl
@[simp] theorem h86_glob : h86.glob = [] := rfl
@[simp] theorem h86_sw : h86.sw = [] := rfl
@[simp] theorem h86_msd : h86.msd = [] := rfl
@[simp] theorem h86_alt : h86.alt = [] := rfl
@[simp] theorem h86_fz : h86.fz = 0 := rfl
@[simp] theorem h86_gc : h86.gc = false := rfl
@[simp] theorem h86_wk : h86.wk = false := rfl
@[simp] theorem h86_rt : h86.rt = false := rfl
@[simp] theorem h86_inv : h86.inv = [] := rfl
@[simp] theorem h86_mv : h86.mv = [] := rfl
def h87 : Hint where
  vars := [0, 1, 4, 5]
  conds := [9]
  steal := [10, 11, 12]
  live := []
  roots := []
  rets := true
  glob := []
  sw := []
  msd := []
  alt := []
  fz := 0
  gc := false
  wk := false
  rt := false
  inv := []
  mv := []
@[simp] theorem h87_vars : h87.vars = [0, 1, 4, 5] := rfl
@[simp] theorem h87_conds : h87.conds = [9] := rfl
@[simp] theorem h87_steal : h87.steal = [10, 11, 12] := rfl
@[simp] theorem h87_live : h87.live = [] := rfl
@[simp] theorem h87_roots : h87.roots = [] := rfl
@[simp] theorem h87_rets : h87.rets = true := rfl
@[simp] theorem h87_glob : h87.glob = [] := rfl
@[simp] theorem h87_sw : h87.sw = [] := rfl
@[simp] theorem h87_msd : h87.msd = [] := rfl
@[simp] theorem h87_alt : h87.alt = [] := rfl
@[simp] theorem h87_fz : h87.fz = 0 := rfl
@[simp] theorem h87_gc : h87.gc = false := rfl
@[simp] theorem h87_wk : h87.wk = false := rfl
@[simp] theorem h87_rt : h87.rt = false := rfl
@[simp] theorem h87_inv : h87.inv = [] := rfl
@[simp] theorem h87_mv : h87.mv = [] := rfl
def h88 : Hint where
  vars := [0, 1, 4, 5, 6, 7]
  conds := [12]
  steal := [22]
  live := []
  roots := []
  rets := true
  glob := []
  sw := []
  msd := []
  alt := []
  fz := 0
  gc := false
  wk := false
  rt := false
  inv := []
  mv := []
@[simp] theorem h88_vars : h88.vars = [0, 1, 4, 5, 6, 7] := rfl
@[simp] theorem h88_conds : h88.conds = [12] := rfl
@[simp] theorem h88_steal : h88.steal = [22] := rfl
@[simp] theorem h88_live : h88.live = [] := rfl
@[simp] theorem h88_roots : h88.roots = [] := rfl
@[simp] theorem h88_rets : h88.rets = true := rfl
@[simp] theorem h88_glob : h88.glob = [] := rfl
@[simp] theorem h88_sw : h88.sw = [] := rfl
@[simp] theorem h88_msd : h88.msd = [] := rfl
@[simp] theorem h88_alt : h88.alt = [] := rfl
@[simp] theorem h88_fz : h88.fz = 0 := rfl
@[simp] theorem h88_gc : h88.gc = false := rfl
@[simp] theorem h88_wk : h88.wk = false := rfl
@[simp] theorem h88_rt : h88.rt = false := rfl
@[simp] theorem h88_inv : h88.inv = [] := rfl
@[simp] theorem h88_mv : h88.mv = [] := rfl
def h89 : Hint where
  vars := [0, 1, 4, 5, 6]
  conds := [12, 21, 31]
  steal := [9, 13, 17, 22, 23, 26, 30, 31, 32, 34, 35]
  live := []
  roots := []
  rets := true
  glob := [5]
  sw := []
  msd := []
  alt := []
  fz := 0
  gc := true
  wk := false
  rt := false
  inv := []
  mv := []
@[simp] theorem h89_vars : h89.vars = [0, 1, 4, 5, 6] := rfl
@[simp] theorem h89_conds : h89.conds = [12, 21, 31] := rfl
@[simp] theorem h89_steal : h89.steal = [9, 13, 17, 22, 23, 26, 30, 31, 32, 34, 35] := rfl
@[simp] theorem h89_live : h89.live = [] := rfl
@[simp] theorem h89_roots : h89.roots = [] := rfl
@[simp] theorem h89_rets : h89.rets = true := rfl
@[simp] theorem h89_glob : h89.glob = [5] := rfl
@[simp] theorem h89_sw : h89.sw = [] := rfl
@[simp] theorem h89_msd : h89.msd = [] := rfl
@[simp] theorem h89_alt : h89.alt = [] := rfl
@[simp] theorem h89_fz : h89.fz = 0 := rfl
@[simp] theorem h89_gc : h89.gc = true := rfl
@[simp] theorem h89_wk : h89.wk = false := rfl
@[simp] theorem h89_rt : h89.rt = false := rfl
@[simp] theorem h89_inv : h89.inv = [] := rfl
@[simp] theorem h89_mv : h89.mv = [] := rfl
def h90 : Hint where
  vars := [0, 1, 4]
  conds := []
  steal := [5, 6]
  live := []
  roots := []
  rets := true
  glob := []
  sw := []
  msd := []
  alt := []
  fz := 0
  gc := false
  wk := false
  rt := false
  inv := []
  mv := []
@[simp] theorem h90_vars : h90.vars = [0, 1, 4] := rfl
@[simp] theorem h90_conds : h90.conds = [] := rfl
@[simp] theorem h90_steal : h90.steal = [5, 6] := rfl
@[simp] theorem h90_live : h90.live = [] := rfl
@[simp] theorem h90_roots : h90.roots = [] := rfl
@[simp] theorem h90_rets : h90.rets = true := rfl
@[simp] theorem h90_glob : h90.glob = [] := rfl
@[simp] theorem h90_sw : h90.sw = [] := rfl
@[simp] theorem h90_msd : h90.msd = [] := rfl
@[simp] theorem h90_alt : h90.alt = [] := rfl
@[simp] theorem h90_fz : h90.fz = 0 := rfl
@[simp] theorem h90_gc : h90.gc = false := rfl
@[simp] theorem h90_wk : h90.wk = false := rfl
@[simp] theorem h90_rt : h90.rt = false := rfl
@[simp] theorem h90_inv : h90.inv = [] := rfl
@[simp] theorem h90_mv : h90.mv = [] := rfl
def h91 : Hint where
  vars := [0, 2]
  conds := []
  steal := [3]
  live := []
  roots := []
  rets := true
  glob := []
  sw := []
  msd := []
  alt := []
  fz := 0
  gc := false
  wk := false
  rt := false
  inv := []
  mv := []
@[simp] theorem h91_vars : h91.vars = [0, 2] := rfl
@[simp] theorem h91_conds : h91.conds = [] := rfl
@[simp] theorem h91_steal : h91.steal = [3] := rfl
@[simp] theorem h91_live : h91.live = [] := rfl
@[simp] theorem h91_roots : h91.roots = [] := rfl
@[simp] theorem h91_rets : h91.rets = true := rfl
@[simp] theorem h91_glob : h91.glob = [] := rfl
@[simp] theorem h91_sw : h91.sw = [] := rfl
@[simp] theorem h91_msd : h91.msd = [] := rfl
@[simp] theorem h91_alt : h91.alt = [] := rfl
@[simp] theorem h91_fz : h91.fz = 0 := rfl
@[simp] theorem h91_gc : h91.gc = false := rfl
@[simp] theorem h91_wk : h91.wk = false := rfl
@[simp] theorem h91_rt : h91.rt = false := rfl
@[simp] theorem h91_inv : h91.inv = [] := rfl
@[simp] theorem h91_mv : h91.mv = [] := rfl
def h92 : Hint where
  vars := [0, 2]
  conds := [4, 8, 14]
  steal := [5, 9, 11, 15, 17, 19, 20]
  live := []
  roots := []
  rets := true
  glob := []
  sw := []
  msd := []
  alt := []
  fz := 0
  gc := false
  wk := false
  rt := false
  inv := []
  mv := []
@[simp] theorem h92_vars : h92.vars = [0, 2] := rfl
@[simp] theorem h92_conds : h92.conds = [4, 8, 14] := rfl
@[simp] theorem h92_steal : h92.steal = [5, 9, 11, 15, 17, 19, 20] := rfl
@[simp] theorem h92_live : h92.live = [] := rfl
@[simp] theorem h92_roots : h92.roots = [] := rfl
@[simp] theorem h92_rets : h92.rets = true := rfl
@[simp] theorem h92_glob : h92.glob = [] := rfl
@[simp] theorem h92_sw : h92.sw = [] := rfl
@[simp] theorem h92_msd : h92.msd = [] := rfl
@[simp] theorem h92_alt : h92.alt = [] := rfl
@[simp] theorem h92_fz : h92.fz = 0 := rfl
@[simp] theorem h92_gc : h92.gc = false := rfl
@[simp] theorem h92_wk : h92.wk = false := rfl
@[simp] theorem h92_rt : h92.rt = false := rfl
@[simp] theorem h92_inv : h92.inv = [] := rfl
@[simp] theorem h92_mv : h92.mv = [] := rfl
def h93 : Hint where
  vars := [0, 2]
  conds := [3]
  steal := [3]
  live := []
  roots := []
  rets := true
  glob := []
  sw := []
  msd := []
  alt := []
  fz := 0
  gc := false
  wk := false
  rt := false
  inv := []
  mv := []
@[simp] theorem h93_vars : h93.vars = [0, 2] := rfl
@[simp] theorem h93_conds : h93.conds = [3] := rfl
@[simp] theorem h93_steal : h93.steal = [3] := rfl
@[simp] theorem h93_live : h93.live = [] := rfl
@[simp] theorem h93_roots : h93.roots = [] := rfl
@[simp] theorem h93_rets : h93.rets = true := rfl
@[simp] theorem h93_glob : h93.glob = [] := rfl
@[simp] theorem h93_sw : h93.sw = [] := rfl
@[simp] theorem h93_msd : h93.msd = [] := rfl
@[simp] theorem h93_alt : h93.alt = [] := rfl
@[simp] theorem h93_fz : h93.fz = 0 := rfl
@[simp] theorem h93_gc : h93.gc = false := rfl
@[simp] theorem h93_wk : h93.wk = false := rfl
@[simp] theorem h93_rt : h93.rt = false := rfl
@[simp] theorem h93_inv : h93.inv = [] := rfl
@[simp] theorem h93_mv : h93.mv = [] := rfl
def h94 : Hint where
  vars := [0, 2]
  conds := []
  steal := [4]
  live := []
  roots := []
  rets := true
  glob := []
  sw := []
  msd := []
  alt := []
  fz := 0
  gc := false
  wk := false
  rt := false
  inv := []
  mv := []
@[simp] theorem h94_vars : h94.vars = [0, 2] := rfl
@[simp] theorem h94_conds : h94.conds = [] := rfl
@[simp] theorem h94_steal : h94.steal = [4] := rfl
@[simp] theorem h94_live : h94.live = [] := rfl
@[simp] theorem h94_roots : h94.roots = [] := rfl
@[simp] theorem h94_rets : h94.rets = true := rfl
@[simp] theorem h94_glob : h94.glob = [] := rfl
@[simp] theorem h94_sw : h94.sw = [] := rfl
@[simp] theorem h94_msd : h94.msd = [] := rfl
@[simp] theorem h94_alt : h94.alt = [] := rfl
@[simp] theorem h94_fz : h94.fz = 0 := rfl
@[simp] theorem h94_gc : h94.gc = false := rfl
@[simp] theorem h94_wk : h94.wk = false := rfl
@[simp] theorem h94_rt : h94.rt = false := rfl
@[simp] theorem h94_inv : h94.inv = [] := rfl
@[simp] theorem h94_mv : h94.mv = [] := rfl
def h95 : Hint where
  vars := [0, 2]
  conds := []
  steal := [3, 6]
  live := []
  roots := []
  rets := true
  glob := []
  sw := []
  msd := []
  alt := []
  fz := 0
  gc := false
  wk := false
  rt := false
  inv := []
  mv := []
@[simp] theorem h95_vars : h95.vars = [0, 2] := rfl
@[simp] theorem h95_conds : h95.conds = [] := rfl
@[simp] theorem h95_steal : h95.steal = [3, 6] := rfl
@[simp] theorem h95_live : h95.live = [] := rfl
@[simp] theorem h95_roots : h95.roots = [] := rfl
@[simp] theorem h95_rets : h95.rets = true := rfl
@[simp] theorem h95_glob : h95.glob = [] := rfl
@[simp] theorem h95_sw : h95.sw = [] := rfl
@[simp] theorem h95_msd : h95.msd = [] := rfl
@[simp] theorem h95_alt : h95.alt = [] := rfl
@[simp] theorem h95_fz : h95.fz = 0 := rfl
@[simp] theorem h95_gc : h95.gc = false := rfl
@[simp] theorem h95_wk : h95.wk = false := rfl
@[simp] theorem h95_rt : h95.rt = false := rfl
@[simp] theorem h95_inv : h95.inv = [] := rfl
@[simp] theorem h95_mv : h95.mv = [] := rfl
def h96 : Hint where
  vars := [0, 2, 4]
  conds := [6]
  steal := [3, 6, 7, 9]
  live := [(2, [2, 4])]
  roots := []
  rets := true
  glob := []
  sw := []
  msd := []
  alt := []
  fz := 0
  gc := false
  wk := false
  rt := false
  inv := []
  mv := []
@[simp] theorem h96_vars : h96.vars = [0, 2, 4] := rfl
@[simp] theorem h96_conds : h96.conds = [6] := rfl
@[simp] theorem h96_steal : h96.steal = [3, 6, 7, 9] := rfl
@[simp] theorem h96_live : h96.live = [(2, [2, 4])] := rfl
@[simp] theorem h96_roots : h96.roots = [] := rfl
@[simp] theorem h96_rets : h96.rets = true := rfl
@[simp] theorem h96_glob : h96.glob = [] := rfl
@[simp] theorem h96_sw : h96.sw = [] := rfl
@[simp] theorem h96_msd : h96.msd = [] := rfl
@[simp] theorem h96_alt : h96.alt = [] := rfl
@[simp] theorem h96_fz : h96.fz = 0 := rfl
@[simp] theorem h96_gc : h96.gc = false := rfl
@[simp] theorem h96_wk : h96.wk = false := rfl
@[simp] theorem h96_rt : h96.rt = false := rfl
@[simp] theorem h96_inv : h96.inv = [] := rfl
@[simp] theorem h96_mv : h96.mv = [] := rfl
def h97 : Hint where
  vars := [0, 2, 3]
  conds := [10]
  steal := [6, 11, 14, 15, 18]
  live := []
  roots := []
  rets := true
  glob := []
  sw := []
  msd := []
  alt := []
  fz := 0
  gc := false
  wk := false
  rt := false
  inv := []
  mv := []
@[simp] theorem h97_vars : h97.vars = [0, 2, 3] := rfl
@[simp] theorem h97_conds : h97.conds = [10] := rfl
@[simp] theorem h97_steal : h97.steal = [6, 11, 14, 15, 18] := rfl
@[simp] theorem h97_live : h97.live = [] := rfl
@[simp] theorem h97_roots : h97.roots = [] := rfl
@[simp] theorem h97_rets : h97.rets = true := rfl
@[simp] theorem h97_glob : h97.glob = [] := rfl
@[simp] theorem h97_sw : h97.sw = [] := rfl
@[simp] theorem h97_msd : h97.msd = [] := rfl
@[simp] theorem h97_alt : h97.alt = [] := rfl
@[simp] theorem h97_fz : h97.fz = 0 := rfl
@[simp] theorem h97_gc : h97.gc = false := rfl
@[simp] theorem h97_wk : h97.wk = false := rfl
@[simp] theorem h97_rt : h97.rt = false := rfl
@[simp] theorem h97_inv : h97.inv = [] := rfl
@[simp] theorem h97_mv : h97.mv = [] := rfl
def h99 : Hint where
  vars := [0, 1, 4, 5, 6, 7, 8, 9, 10, 11, 12, 13]
  conds := [16, 24, 31, 36, 59, 64, 73, 93, 107, 114, 132, 139]
  steal := [19, 27, 28, 40, 45, 46, 74, 75, 84, 94, 95, 97, 102, 108, 111, 115, 116, 121, 128, 133, 136, 140, 141]
  live := [(15, [0, 1, 5, 6, 7, 8, 9, 10])]
  roots := []
  rets := true
  glob := []
  sw := []
  msd := []
  alt := []
  fz := 0
  gc := false
  wk := false
  rt := false
  inv := []
  mv := []
@[simp] theorem h99_vars : h99.vars = [0, 1, 4, 5, 6, 7, 8, 9, 10, 11, 12, 13] := rfl
@[simp] theorem h99_conds : h99.conds = [16, 24, 31, 36, 59, 64, 73, 93, 107, 114, 132, 139] := rfl
@[simp] theorem h99_steal : h99.steal = [19, 27, 28, 40, 45, 46, 74, 75, 84, 94, 95, 97, 102, 108, 111, 115, 116, 121, 128, 133, 136, 140, 141] := rfl
@[simp] theorem h99_live : h99.live = [(15, [0, 1, 5, 6, 7, 8, 9, 10])] := rfl
@[simp] theorem h99_roots : h99.roots = [] := rfl
@[simp] theorem h99_rets : h99.rets = true := rfl
@[simp] theorem h99_glob : h99.glob = [] := rfl
@[simp] theorem h99_sw : h99.sw = [] := rfl
@[simp] theorem h99_msd : h99.msd = [] := rfl
@[simp] theorem h99_alt : h99.alt = [] := rfl
@[simp] theorem h99_fz : h99.fz = 0 := rfl
@[simp] theorem h99_gc : h99.gc = false := rfl
@[simp] theorem h99_wk : h99.wk = false := rfl
@[simp] theorem h99_rt : h99.rt = false := rfl
@[simp] theorem h99_inv : h99.inv = [] := rfl
@[simp] theorem h99_mv : h99.mv = [] := rfl
def h100 : Hint where
  vars := [0, 1, 4]
  conds := []
  steal := [10, 11, 15]
  live := []
  roots := []
  rets := true
  glob := []
  sw := []
  msd := []
  alt := []
  fz := 0
  gc := false
  wk := false
  rt := false
  inv := []
  mv := []
@[simp] theorem h100_vars : h100.vars = [0, 1, 4] := rfl
@[simp] theorem h100_conds : h100.conds = [] := rfl
@[simp] theorem h100_steal : h100.steal = [10, 11, 15] := rfl
@[simp] theorem h100_live : h100.live = [] := rfl
@[simp] theorem h100_roots : h100.roots = [] := rfl
@[simp] theorem h100_rets : h100.rets = true := rfl
@[simp] theorem h100_glob : h100.glob = [] := rfl
@[simp] theorem h100_sw : h100.sw = [] := rfl
@[simp] theorem h100_msd : h100.msd = [] := rfl
@[simp] theorem h100_alt : h100.alt = [] := rfl
@[simp] theorem h100_fz : h100.fz = 0 := rfl
@[simp] theorem h100_gc : h100.gc = false := rfl
@[simp] theorem h100_wk : h100.wk = false := rfl
@[simp] theorem h100_rt : h100.rt = false := rfl
@[simp] theorem h100_inv : h100.inv = [] := rfl
@[simp] theorem h100_mv : h100.mv = [] := rfl
def h101 : Hint where
  vars := [0, 1, 4]
  conds := [16]
  steal := [8, 18, 22]
  live := [(1, [0, 1])]
  roots := []
  rets := true
  glob := []
  sw := []
  msd := []
  alt := []
  fz := 0
  gc := false
  wk := false
  rt := false
  inv := []
  mv := []
@[simp] theorem h101_vars : h101.vars = [0, 1, 4] := rfl
@[simp] theorem h101_conds : h101.conds = [16] := rfl
@[simp] theorem h101_steal : h101.steal = [8, 18, 22] := rfl
@[simp] theorem h101_live : h101.live = [(1, [0, 1])] := rfl
@[simp] theorem h101_roots : h101.roots = [] := rfl
@[simp] theorem h101_rets : h101.rets = true := rfl
@[simp] theorem h101_glob : h101.glob = [] := rfl
@[simp] theorem h101_sw : h101.sw = [] := rfl
@[simp] theorem h101_msd : h101.msd = [] := rfl
@[simp] theorem h101_alt : h101.alt = [] := rfl
@[simp] theorem h101_fz : h101.fz = 0 := rfl
@[simp] theorem h101_gc : h101.gc = false := rfl
@[simp] theorem h101_wk : h101.wk = false := rfl
@[simp] theorem h101_rt : h101.rt = false := rfl
@[simp] theorem h101_inv : h101.inv = [] := rfl
@[simp] theorem h101_mv : h101.mv = [] := rfl
def h102 : Hint where
  vars := [0, 2, 3, 4, 5]
  conds := [9, 16]
  steal := [10, 18]
  live := [(2, [0, 2, 4])]
  roots := []
  rets := true
  glob := []
  sw := []
  msd := []
  alt := []
  fz := 0
  gc := false
  wk := false
  rt := false
  inv := []
  mv := []
@[simp] theorem h102_vars : h102.vars = [0, 2, 3, 4, 5] := rfl
@[simp] theorem h102_conds : h102.conds = [9, 16] := rfl
@[simp] theorem h102_steal : h102.steal = [10, 18] := rfl
@[simp] theorem h102_live : h102.live = [(2, [0, 2, 4])] := rfl
@[simp] theorem h102_roots : h102.roots = [] := rfl
@[simp] theorem h102_rets : h102.rets = true := rfl
@[simp] theorem h102_glob : h102.glob = [] := rfl
@[simp] theorem h102_sw : h102.sw = [] := rfl
@[simp] theorem h102_msd : h102.msd = [] := rfl
@[simp] theorem h102_alt : h102.alt = [] := rfl
@[simp] theorem h102_fz : h102.fz = 0 := rfl
@[simp] theorem h102_gc : h102.gc = false := rfl
@[simp] theorem h102_wk : h102.wk = false := rfl
@[simp] theorem h102_rt : h102.rt = false := rfl
@[simp] theorem h102_inv : h102.inv = [] := rfl
@[simp] theorem h102_mv : h102.mv = [] := rfl
def h103 : Hint where
  vars := [0, 1, 4]
  conds := [7, 15]
  steal := [17, 21]
  live := [(1, [0, 1])]
  roots := []
  rets := true
  glob := []
  sw := []
  msd := []
  alt := []
  fz := 0
  gc := false
  wk := false
  rt := false
  inv := []
  mv := []
@[simp] theorem h103_vars : h103.vars = [0, 1, 4] := rfl
@[simp] theorem h103_conds : h103.conds = [7, 15] := rfl
@[simp] theorem h103_steal : h103.steal = [17, 21] := rfl
@[simp] theorem h103_live : h103.live = [(1, [0, 1])] := rfl
@[simp] theorem h103_roots : h103.roots = [] := rfl
@[simp] theorem h103_rets : h103.rets = true := rfl
@[simp] theorem h103_glob : h103.glob = [] := rfl
@[simp] theorem h103_sw : h103.sw = [] := rfl
@[simp] theorem h103_msd : h103.msd = [] := rfl
@[simp] theorem h103_alt : h103.alt = [] := rfl
@[simp] theorem h103_fz : h103.fz = 0 := rfl
@[simp] theorem h103_gc : h103.gc = false := rfl
@[simp] theorem h103_wk : h103.wk = false := rfl
@[simp] theorem h103_rt : h103.rt = false := rfl
@[simp] theorem h103_inv : h103.inv = [] := rfl
@[simp] theorem h103_mv : h103.mv = [] := rfl
def h104 : Hint where
  vars := [0, 1, 4, 5, 6]
  conds := [9, 17, 26]
  steal := [18, 22, 24, 28, 30, 33]
  live := [(1, [0, 1])]
  roots := []
  rets := true
  glob := []
  sw := []
  msd := []
  alt := []
  fz := 0
  gc := false
  wk := false
  rt := false
  inv := []
  mv := []
@[simp] theorem h104_vars : h104.vars = [0, 1, 4, 5, 6] := rfl
@[simp] theorem h104_conds : h104.conds = [9, 17, 26] := rfl
@[simp] theorem h104_steal : h104.steal = [18, 22, 24, 28, 30, 33] := rfl
@[simp] theorem h104_live : h104.live = [(1, [0, 1])] := rfl
@[simp] theorem h104_roots : h104.roots = [] := rfl
@[simp] theorem h104_rets : h104.rets = true := rfl
@[simp] theorem h104_glob : h104.glob = [] := rfl
@[simp] theorem h104_sw : h104.sw = [] := rfl
@[simp] theorem h104_msd : h104.msd = [] := rfl
@[simp] theorem h104_alt : h104.alt = [] := rfl
@[simp] theorem h104_fz : h104.fz = 0 := rfl
@[simp] theorem h104_gc : h104.gc = false := rfl
@[simp] theorem h104_wk : h104.wk = false := rfl
@[simp] theorem h104_rt : h104.rt = false := rfl
@[simp] theorem h104_inv : h104.inv = [] := rfl
@[simp] theorem h104_mv : h104.mv = [] := rfl
def h105 : Hint where
  vars := [0, 1, 4]
  conds := []
  steal := [5, 6]
  live := []
  roots := []
  rets := true
  glob := []
  sw := []
  msd := []
  alt := []
  fz := 0
  gc := false
  wk := false
  rt := false
  inv := []
  mv := []
@[simp] theorem h105_vars : h105.vars = [0, 1, 4] := rfl
@[simp] theorem h105_conds : h105.conds = [] := rfl
@[simp] theorem h105_steal : h105.steal = [5, 6] := rfl
@[simp] theorem h105_live : h105.live = [] := rfl
@[simp] theorem h105_roots : h105.roots = [] := rfl
@[simp] theorem h105_rets : h105.rets = true := rfl
@[simp] theorem h105_glob : h105.glob = [] := rfl
@[simp] theorem h105_sw : h105.sw = [] := rfl
@[simp] theorem h105_msd : h105.msd = [] := rfl
@[simp] theorem h105_alt : h105.alt = [] := rfl
@[simp] theorem h105_fz : h105.fz = 0 := rfl
@[simp] theorem h105_gc : h105.gc = false := rfl
@[simp] theorem h105_wk : h105.wk = false := rfl
@[simp] theorem h105_rt : h105.rt = false := rfl
@[simp] theorem h105_inv : h105.inv = [] := rfl
@[simp] theorem h105_mv : h105.mv = [] := rfl
def h106 : Hint where
  vars := [0, 2]
  conds := [4]
  steal := [6]
  live := []
  roots := []
  rets := true
  glob := []
  sw := []
  msd := []
  alt := []
  fz := 0
  gc := false
  wk := false
  rt := false
  inv := []
  mv := []
@[simp] theorem h106_vars : h106.vars = [0, 2] := rfl
@[simp] theorem h106_conds : h106.conds = [4] := rfl
@[simp] theorem h106_steal : h106.steal = [6] := rfl
@[simp] theorem h106_live : h106.live = [] := rfl
@[simp] theorem h106_roots : h106.roots = [] := rfl
@[simp] theorem h106_rets : h106.rets = true := rfl
@[simp] theorem h106_glob : h106.glob = [] := rfl
@[simp] theorem h106_sw : h106.sw = [] := rfl
@[simp] theorem h106_msd : h106.msd = [] := rfl
@[simp] theorem h106_alt : h106.alt = [] := rfl
@[simp] theorem h106_fz : h106.fz = 0 := rfl
@[simp] theorem h106_gc : h106.gc = false := rfl
@[simp] theorem h106_wk : h106.wk = false := rfl
@[simp] theorem h106_rt : h106.rt = false := rfl
@[simp] theorem h106_inv : h106.inv = [] := rfl
@[simp] theorem h106_mv : h106.mv = [] := rfl
def h107 : Hint where
  vars := [0, 2]
  conds := [4]
  steal := [6]
  live := []
  roots := []
  rets := true
  glob := []
  sw := []
  msd := []
  alt := []
  fz := 0
  gc := false
  wk := false
  rt := false
  inv := []
  mv := []
@[simp] theorem h107_vars : h107.vars = [0, 2] := rfl
@[simp] theorem h107_conds : h107.conds = [4] := rfl
@[simp] theorem h107_steal : h107.steal = [6] := rfl
@[simp] theorem h107_live : h107.live = [] := rfl
@[simp] theorem h107_roots : h107.roots = [] := rfl
@[simp] theorem h107_rets : h107.rets = true := rfl
@[simp] theorem h107_glob : h107.glob = [] := rfl
@[simp] theorem h107_sw : h107.sw = [] := rfl
@[simp] theorem h107_msd : h107.msd = [] := rfl
@[simp] theorem h107_alt : h107.alt = [] := rfl
@[simp] theorem h107_fz : h107.fz = 0 := rfl
@[simp] theorem h107_gc : h107.gc = false := rfl
@[simp] theorem h107_wk : h107.wk = false := rfl
@[simp] theorem h107_rt : h107.rt = false := rfl
@[simp] theorem h107_inv : h107.inv = [] := rfl
@[simp] theorem h107_mv : h107.mv = [] := rfl
def h108 : Hint where
  vars := [0, 2, 3, 4, 5, 6, 7, 8, 9, 10, 11, 12]
  conds := [16, 23, 45, 57, 59, 75, 77, 98]
  steal := [24, 28, 33, 39, 43, 52, 60, 64, 72, 76, 78, 82, 87, 91, 95, 99, 103, 108, 113]
  live := []
  roots := []
  rets := true
  glob := []
  sw := []
  msd := []
  alt := []
  fz := 0
  gc := false
  wk := false
  rt := false
  inv := []
  mv := []
@[simp] theorem h108_vars : h108.vars = [0, 2, 3, 4, 5, 6, 7, 8, 9, 10, 11, 12] := rfl
@[simp] theorem h108_conds : h108.conds = [16, 23, 45, 57, 59, 75, 77, 98] := rfl
@[simp] theorem h108_steal : h108.steal = [24, 28, 33, 39, 43, 52, 60, 64, 72, 76, 78, 82, 87, 91, 95, 99, 103, 108, 113] := rfl
@[simp] theorem h108_live : h108.live = [] := rfl
@[simp] theorem h108_roots : h108.roots = [] := rfl
@[simp] theorem h108_rets : h108.rets = true := rfl
@[simp] theorem h108_glob : h108.glob = [] := rfl
@[simp] theorem h108_sw : h108.sw = [] := rfl
@[simp] theorem h108_msd : h108.msd = [] := rfl
@[simp] theorem h108_alt : h108.alt = [] := rfl
@[simp] theorem h108_fz : h108.fz = 0 := rfl
@[simp] theorem h108_gc : h108.gc = false := rfl
@[simp] theorem h108_wk : h108.wk = false := rfl
@[simp] theorem h108_rt : h108.rt = false := rfl
@[simp] theorem h108_inv : h108.inv = [] := rfl
@[simp] theorem h108_mv : h108.mv = [] := rfl
def h110 : Hint where
  vars := [0, 2]
  conds := []
  steal := [3]
  live := []
  roots := []
  rets := true
  glob := []
  sw := []
  msd := []
  alt := []
  fz := 0
  gc := false
  wk := false
  rt := false
  inv := []
  mv := []
@[simp] theorem h110_vars : h110.vars = [0, 2] := rfl
@[simp] theorem h110_conds : h110.conds = [] := rfl
@[simp] theorem h110_steal : h110.steal = [3] := rfl
@[simp] theorem h110_live : h110.live = [] := rfl
@[simp] theorem h110_roots : h110.roots = [] := rfl
@[simp] theorem h110_rets : h110.rets = true := rfl
@[simp] theorem h110_glob : h110.glob = [] := rfl
@[simp] theorem h110_sw : h110.sw = [] := rfl
@[simp] theorem h110_msd : h110.msd = [] := rfl
@[simp] theorem h110_alt : h110.alt = [] := rfl
@[simp] theorem h110_fz : h110.fz = 0 := rfl
@[simp] theorem h110_gc : h110.gc = false := rfl
@[simp] theorem h110_wk : h110.wk = false := rfl
@[simp] theorem h110_rt : h110.rt = false := rfl
@[simp] theorem h110_inv : h110.inv = [] := rfl
@[simp] theorem h110_mv : h110.mv = [] := rfl
def h111 : Hint where
  vars := [0, 1, 4, 5, 6, 7, 8, 9, 10]
  conds := [20, 39, 44, 77]
  steal := [11, 15, 21, 23, 33, 45, 47, 53, 63, 68, 78, 79]
  live := [(5, [0, 1, 5, 6, 7, 8, 9]), (11, [0, 1, 5, 6, 7, 8, 10])]
  roots := []
  rets := true
  glob := []
  sw := []
  msd := []
  alt := []
  fz := 0
  gc := false
  wk := false
  rt := false
  inv := []
  mv := []
@[simp] theorem h111_vars : h111.vars = [0, 1, 4, 5, 6, 7, 8, 9, 10] := rfl
@[simp] theorem h111_conds : h111.conds = [20, 39, 44, 77] := rfl
@[simp] theorem h111_steal : h111.steal = [11, 15, 21, 23, 33, 45, 47, 53, 63, 68, 78, 79] := rfl
@[simp] theorem h111_live : h111.live = [(5, [0, 1, 5, 6, 7, 8, 9]), (11, [0, 1, 5, 6, 7, 8, 10])] := rfl
@[simp] theorem h111_roots : h111.roots = [] := rfl
@[simp] theorem h111_rets : h111.rets = true := rfl
@[simp] theorem h111_glob : h111.glob = [] := rfl
@[simp] theorem h111_sw : h111.sw = [] := rfl
@[simp] theorem h111_msd : h111.msd = [] := rfl
@[simp] theorem h111_alt : h111.alt = [] := rfl
@[simp] theorem h111_fz : h111.fz = 0 := rfl
@[simp] theorem h111_gc : h111.gc = false := rfl
@[simp] theorem h111_wk : h111.wk = false := rfl
@[simp] theorem h111_rt : h111.rt = false := rfl
@[simp] theorem h111_inv : h111.inv = [] := rfl
@[simp] theorem h111_mv : h111.mv = [] := rfl
def h112 : Hint where
  vars := [0, 1, 4]
  conds := []
  steal := [5, 6]
  live := []
  roots := []
  rets := true
  glob := []
  sw := []
  msd := []
  alt := []
  fz := 0
  gc := false
  wk := false
  rt := false
  inv := []
  mv := []
@[simp] theorem h112_vars : h112.vars = [0, 1, 4] := rfl
@[simp] theorem h112_conds : h112.conds = [] := rfl
@[simp] theorem h112_steal : h112.steal = [5, 6] := rfl
@[simp] theorem h112_live : h112.live = [] := rfl
@[simp] theorem h112_roots : h112.roots = [] := rfl
@[simp] theorem h112_rets : h112.rets = true := rfl
@[simp] theorem h112_glob : h112.glob = [] := rfl
@[simp] theorem h112_sw : h112.sw = [] := rfl
@[simp] theorem h112_msd : h112.msd = [] := rfl
@[simp] theorem h112_alt : h112.alt = [] := rfl
@[simp] theorem h112_fz : h112.fz = 0 := rfl
@[simp] theorem h112_gc : h112.gc = false := rfl
@[simp] theorem h112_wk : h112.wk = false := rfl
@[simp] theorem h112_rt : h112.rt = false := rfl
@[simp] theorem h112_inv : h112.inv = [] := rfl
@[simp] theorem h112_mv : h112.mv = [] := rfl
def h113 : Hint where
  vars := [0, 2, 3, 4, 5, 6]
  conds := [10, 18, 27, 33, 35, 48]
  steal := [19, 23, 28, 36, 37, 43, 44, 47, 49, 50]
  live := [(10, [0, 4, 5, 6])]
  roots := []
  rets := true
  glob := []
  sw := []
  msd := []
  alt := []
  fz := 0
  gc := false
  wk := false
  rt := false
  inv := []
  mv := []
@[simp] theorem h113_vars : h113.vars = [0, 2, 3, 4, 5, 6] := rfl
@[simp] theorem h113_conds : h113.conds = [10, 18, 27, 33, 35, 48] := rfl
@[simp] theorem h113_steal : h113.steal = [19, 23, 28, 36, 37, 43, 44, 47, 49, 50] := rfl
@[simp] theorem h113_live : h113.live = [(10, [0, 4, 5, 6])] := rfl
@[simp] theorem h113_roots : h113.roots = [] := rfl
@[simp] theorem h113_rets : h113.rets = true := rfl
@[simp] theorem h113_glob : h113.glob = [] := rfl
@[simp] theorem h113_sw : h113.sw = [] := rfl
@[simp] theorem h113_msd : h113.msd = [] := rfl
@[simp] theorem h113_alt : h113.alt = [] := rfl
@[simp] theorem h113_fz : h113.fz = 0 := rfl
@[simp] theorem h113_gc : h113.gc = false := rfl
@[simp] theorem h113_wk : h113.wk = false := rfl
@[simp] theorem h113_rt : h113.rt = false := rfl
@[simp] theorem h113_inv : h113.inv = [] := rfl
@[simp] theorem h113_mv : h113.mv = [] := rfl
def h114 : Hint where
  vars := [0, 1, 4]
  conds := []
  steal := [5, 6]
  live := []
  roots := []
  rets := true
  glob := []
  sw := []
  msd := []
  alt := []
  fz := 0
  gc := false
  wk := false
  rt := false
  inv := []
  mv := []
@[simp] theorem h114_vars : h114.vars = [0, 1, 4] := rfl
@[simp] theorem h114_conds : h114.conds = [] := rfl
@[simp] theorem h114_steal : h114.steal = [5, 6] := rfl
@[simp] theorem h114_live : h114.live = [] := rfl
@[simp] theorem h114_roots : h114.roots = [] := rfl
@[simp] theorem h114_rets : h114.rets = true := rfl
@[simp] theorem h114_glob : h114.glob = [] := rfl
@[simp] theorem h114_sw : h114.sw = [] := rfl
@[simp] theorem h114_msd : h114.msd = [] := rfl
@[simp] theorem h114_alt : h114.alt = [] := rfl
@[simp] theorem h114_fz : h114.fz = 0 := rfl
@[simp] theorem h114_gc : h114.gc = false := rfl
@[simp] theorem h114_wk : h114.wk = false := rfl
@[simp] theorem h114_rt : h114.rt = false := rfl
@[simp] theorem h114_inv : h114.inv = [] := rfl
@[simp] theorem h114_mv : h114.mv = [] := rfl
def h116 : Hint where
  vars := [0, 2, 3, 4, 5, 6, 7, 8]
  conds := [12, 25, 30]
  steal := [13, 15, 22, 26, 31, 35, 37, 38]
  live := [(3, [0, 4, 5]), (8, [4, 6, 7, 8])]
  roots := []
  rets := true
  glob := []
  sw := []
  msd := []
  alt := []
  fz := 0
  gc := false
  wk := false
  rt := false
  inv := []
  mv := []
@[simp] theorem h116_vars : h116.vars = [0, 2, 3, 4, 5, 6, 7, 8] := rfl
@[simp] theorem h116_conds : h116.conds = [12, 25, 30] := rfl
@[simp] theorem h116_steal : h116.steal = [13, 15, 22, 26, 31, 35, 37, 38] := rfl
@[simp] theorem h116_live : h116.live = [(3, [0, 4, 5]), (8, [4, 6, 7, 8])] := rfl
@[simp] theorem h116_roots : h116.roots = [] := rfl
@[simp] theorem h116_rets : h116.rets = true := rfl
@[simp] theorem h116_glob : h116.glob = [] := rfl
@[simp] theorem h116_sw : h116.sw = [] := rfl
@[simp] theorem h116_msd : h116.msd = [] := rfl
@[simp] theorem h116_alt : h116.alt = [] := rfl
@[simp] theorem h116_fz : h116.fz = 0 := rfl
@[simp] theorem h116_gc : h116.gc = false := rfl
@[simp] theorem h116_wk : h116.wk = false := rfl
@[simp] theorem h116_rt : h116.rt = false := rfl
@[simp] theorem h116_inv : h116.inv = [] := rfl
@[simp] theorem h116_mv : h116.mv = [] := rfl
def h117 : Hint where
  vars := [0, 2]
  conds := []
  steal := [3]
  live := []
  roots := []
  rets := true
  glob := []
  sw := []
  msd := []
  alt := []
  fz := 0
  gc := false
  wk := false
  rt := false
  inv := []
  mv := []
@[simp] theorem h117_vars : h117.vars = [0, 2] := rfl
@[simp] theorem h117_conds : h117.conds = [] := rfl
@[simp] theorem h117_steal : h117.steal = [3] := rfl
@[simp] theorem h117_live : h117.live = [] := rfl
@[simp] theorem h117_roots : h117.roots = [] := rfl
@[simp] theorem h117_rets : h117.rets = true := rfl
@[simp] theorem h117_glob : h117.glob = [] := rfl
@[simp] theorem h117_sw : h117.sw = [] := rfl
@[simp] theorem h117_msd : h117.msd = [] := rfl
@[simp] theorem h117_alt : h117.alt = [] := rfl
@[simp] theorem h117_fz : h117.fz = 0 := rfl
@[simp] theorem h117_gc : h117.gc = false := rfl
@[simp] theorem h117_wk : h117.wk = false := rfl
@[simp] theorem h117_rt : h117.rt = false := rfl
@[simp] theorem h117_inv : h117.inv = [] := rfl
@[simp] theorem h117_mv : h117.mv = [] := rfl
def h119 : Hint where
  vars := [0, 2]
  conds := [3, 10]
  steal := [6, 13, 14]
  live := []
  roots := []
  rets := true
  glob := []
  sw := []
  msd := []
  alt := []
  fz := 0
  gc := false
  wk := false
  rt := false
  inv := []
  mv := []
@[simp] theorem h119_vars : h119.vars = [0, 2] := rfl
@[simp] theorem h119_conds : h119.conds = [3, 10] := rfl
@[simp] theorem h119_steal : h119.steal = [6, 13, 14] := rfl
@[simp] theorem h119_live : h119.live = [] := rfl
@[simp] theorem h119_roots : h119.roots = [] := rfl
@[simp] theorem h119_rets : h119.rets = true := rfl
@[simp] theorem h119_glob : h119.glob = [] := rfl
@[simp] theorem h119_sw : h119.sw = [] := rfl
@[simp] theorem h119_msd : h119.msd = [] := rfl
@[simp] theorem h119_alt : h119.alt = [] := rfl
@[simp] theorem h119_fz : h119.fz = 0 := rfl
@[simp] theorem h119_gc : h119.gc = false := rfl
@[simp] theorem h119_wk : h119.wk = false := rfl
@[simp] theorem h119_rt : h119.rt = false := rfl
@[simp] theorem h119_inv : h119.inv = [] := rfl
@[simp] theorem h119_mv : h119.mv = [] := rfl
def h144 : Hint where
  vars := []
  conds := []
  steal := []
  live := []
  roots := []
  rets := true
  glob := []
  sw := []
  msd := []
  alt := []
  fz := 0
  gc := false
  wk := false
  rt := false
  inv := []
  mv := []
@[simp] theorem h144_vars : h144.vars = [] := rfl
@[simp] theorem h144_conds : h144.conds = [] := rfl
@[simp] theorem h144_steal : h144.steal = [] := rfl
@[simp] theorem h144_live : h144.live = [] := rfl
@[simp] theorem h144_roots : h144.roots = [] := rfl
@[simp] theorem h144_rets : h144.rets = true := rfl
@[simp] theorem h144_glob : h144.glob = [] := rfl
@[simp] theorem h144_sw : h144.sw = [] := rfl
@[simp] theorem h144_msd : h144.msd = [] := rfl
@[simp] theorem h144_alt : h144.alt = [] := rfl
@[simp] theorem h144_fz : h144.fz = 0 := rfl
@[simp] theorem h144_gc : h144.gc = false := rfl
@[simp] theorem h144_wk : h144.wk = false := rfl
@[simp] theorem h144_rt : h144.rt = false := rfl
@[simp] theorem h144_inv : h144.inv = [] := rfl
@[simp] theorem h144_mv : h144.mv = [] := rfl
def h100045 : Hint where
  vars := [0, 2]
  conds := []
  steal := [4]
  live := []
  roots := []
  rets := true
  glob := [5]
  sw := []
  msd := [5]
  alt := []
  fz := 0
  gc := false
  wk := false
  rt := false
  inv := []
  mv := []
@[simp] theorem h100045_vars : h100045.vars = [0, 2] := rfl
@[simp] theorem h100045_conds : h100045.conds = [] := rfl
@[simp] theorem h100045_steal : h100045.steal = [4] := rfl
@[simp] theorem h100045_live : h100045.live = [] := rfl
@[simp] theorem h100045_roots : h100045.roots = [] := rfl
@[simp] theorem h100045_rets : h100045.rets = true := rfl
@[simp] theorem h100045_glob : h100045.glob = [5] := rfl
@[simp] theorem h100045_sw : h100045.sw = [] := rfl
@[simp] theorem h100045_msd : h100045.msd = [5] := rfl
@[simp] theorem h100045_alt : h100045.alt = [] := rfl
@[simp] theorem h100045_fz : h100045.fz = 0 := rfl
@[simp] theorem h100045_gc : h100045.gc = false := rfl
@[simp] theorem h100045_wk : h100045.wk = false := rfl
@[simp] theorem h100045_rt : h100045.rt = false := rfl
@[simp] theorem h100045_inv : h100045.inv = [] := rfl
@[simp] theorem h100045_mv : h100045.mv = [] := rfl
def h100033 : Hint where
  vars := [0, 2, 3, 4, 5, 6, 7, 8, 9, 10, 11, 12, 13, 14, 15, 16, 17, 18, 19, 20, 21, 22, 23, 24]
  conds := [34, 43, 58, 62, 102, 167, 284, 300]
  steal := [35, 38, 44, 46, 59, 63, 103, 168, 285, 301, 303, 329]
  live := [(4, [0, 3, 4, 5]), (8, [3, 4, 5, 6, 7]), (13, [3, 4, 5, 8, 9]), (16, [3, 4, 5, 8, 9, 10]), (21, [3, 4, 5, 8, 9, 12]), (28, [3, 4, 5, 8, 9, 15, 16]), (37, [3, 4, 5, 8, 9, 15, 22]), (42, [4, 23, 24])]
  roots := []
  rets := true
  glob := [26, 54, 328]
  sw := [100, 162, 298, 328]
  msd := [26, 54, 165, 328]
  alt := []
  fz := 0
  gc := false
  wk := false
  rt := false
  inv := []
  mv := []
@[simp] theorem h100033_vars : h100033.vars = [0, 2, 3, 4, 5, 6, 7, 8, 9, 10, 11, 12, 13, 14, 15, 16, 17, 18, 19, 20, 21, 22, 23, 24] := rfl
@[simp] theorem h100033_conds : h100033.conds = [34, 43, 58, 62, 102, 167, 284, 300] := rfl
@[simp] theorem h100033_steal : h100033.steal = [35, 38, 44, 46, 59, 63, 103, 168, 285, 301, 303, 329] := rfl
@[simp] theorem h100033_live : h100033.live = [(4, [0, 3, 4, 5]), (8, [3, 4, 5, 6, 7]), (13, [3, 4, 5, 8, 9]), (16, [3, 4, 5, 8, 9, 10]), (21, [3, 4, 5, 8, 9, 12]), (28, [3, 4, 5, 8, 9, 15, 16]), (37, [3, 4, 5, 8, 9, 15, 22]), (42, [4, 23, 24])] := rfl
@[simp] theorem h100033_roots : h100033.roots = [] := rfl
@[simp] theorem h100033_rets : h100033.rets = true := rfl
@[simp] theorem h100033_glob : h100033.glob = [26, 54, 328] := rfl
@[simp] theorem h100033_sw : h100033.sw = [100, 162, 298, 328] := rfl
@[simp] theorem h100033_msd : h100033.msd = [26, 54, 165, 328] := rfl
@[simp] theorem h100033_alt : h100033.alt = [] := rfl
@[simp] theorem h100033_fz : h100033.fz = 0 := rfl
@[simp] theorem h100033_gc : h100033.gc = false := rfl
@[simp] theorem h100033_wk : h100033.wk = false := rfl
@[simp] theorem h100033_rt : h100033.rt = false := rfl
@[simp] theorem h100033_inv : h100033.inv = [] := rfl
@[simp] theorem h100033_mv : h100033.mv = [] := rfl
def h100032 : Hint where
  vars := [0, 1, 2, 3]
  conds := []
  steal := [9]
  live := []
  roots := []
  rets := true
  glob := []
  sw := []
  msd := [6]
  alt := [(14, 1)]
  fz := 2
  gc := true
  wk := false
  rt := false
  inv := []
  mv := []
@[simp] theorem h100032_vars : h100032.vars = [0, 1, 2, 3] := rfl
@[simp] theorem h100032_conds : h100032.conds = [] := rfl
@[simp] theorem h100032_steal : h100032.steal = [9] := rfl
@[simp] theorem h100032_live : h100032.live = [] := rfl
@[simp] theorem h100032_roots : h100032.roots = [] := rfl
@[simp] theorem h100032_rets : h100032.rets = true := rfl
@[simp] theorem h100032_glob : h100032.glob = [] := rfl
@[simp] theorem h100032_sw : h100032.sw = [] := rfl
@[simp] theorem h100032_msd : h100032.msd = [6] := rfl
@[simp] theorem h100032_alt : h100032.alt = [(14, 1)] := rfl
@[simp] theorem h100032_fz : h100032.fz = 2 := rfl
@[simp] theorem h100032_gc : h100032.gc = true := rfl
@[simp] theorem h100032_wk : h100032.wk = false := rfl
@[simp] theorem h100032_rt : h100032.rt = false := rfl
@[simp] theorem h100032_inv : h100032.inv = [] := rfl
@[simp] theorem h100032_mv : h100032.mv = [] := rfl
def H : FuncId → Hint
  | 2 => h2
  | 3 => h3
  | 4 => h4
  | 5 => h5
  | 6 => h6
  | 7 => h7
  | 8 => h8
  | 9 => h9
  | 10 => h10
  | 11 => h11
  | 12 => h12
  | 13 => h13
  | 14 => h14
  | 15 => h15
  | 16 => h16
  | 17 => h17
  | 18 => h18
  | 19 => h19
  | 20 => h20
  | 21 => h21
  | 22 => h22
  | 23 => h23
  | 24 => h24
  | 25 => h25
  | 26 => h26
  | 27 => h27
  | 28 => h28
  | 29 => h29
  | 30 => h30
  | 31 => h31
  | 32 => h32
  | 33 => h33
  | 34 => h34
  | 35 => h35
  | 36 => h36
  | 37 => h37
  | 38 => h38
  | 39 => h39
  | 40 => h40
  | 41 => h41
  | 42 => h42
  | 43 => h43
  | 44 => h44
  | 45 => h45
  | 46 => h46
  | 47 => h47
  | 48 => h48
  | 49 => h49
  | 50 => h50
  | 51 => h51
  | 53 => h53
  | 54 => h54
  | 55 => h55
  | 56 => h56
  | 57 => h57
  | 58 => h58
  | 59 => h59
  | 60 => h60
  | 61 => h61
  | 62 => h62
  | 63 => h63
  | 64 => h64
  | 65 => h65
  | 66 => h66
  | 67 => h67
  | 69 => h69
  | 70 => h70
  | 71 => h71
  | 72 => h72
  | 73 => h73
  | 74 => h74
  | 75 => h75
  | 76 => h76
  | 77 => h77
  | 78 => h78
  | 79 => h79
  | 80 => h80
  | 81 => h81
  | 82 => h82
  | 83 => h83
  | 84 => h84
  | 85 => h85
  | 86 => h86
  | 87 => h87
  | 88 => h88
  | 89 => h89
  | 90 => h90
  | 91 => h91
  | 92 => h92
  | 93 => h93
  | 94 => h94
  | 95 => h95
  | 96 => h96
  | 97 => h97
  | 99 => h99
  | 100 => h100
  | 101 => h101
  | 102 => h102
  | 103 => h103
  | 104 => h104
  | 105 => h105
  | 106 => h106
  | 107 => h107
  | 108 => h108
  | 110 => h110
  | 111 => h111
  | 112 => h112
  | 113 => h113
  | 114 => h114
  | 116 => h116
  | 117 => h117
  | 119 => h119
  | 144 => h144
  | 100045 => h100045
  | 100033 => h100033
  | 100032 => h100032
  | _ => {}
@[simp] theorem H2 : H 2 = h2 := rfl
@[simp] theorem H3 : H 3 = h3 := rfl
@[simp] theorem H4 : H 4 = h4 := rfl
@[simp] theorem H5 : H 5 = h5 := rfl
@[simp] theorem H6 : H 6 = h6 := rfl
@[simp] theorem H7 : H 7 = h7 := rfl
@[simp] theorem H8 : H 8 = h8 := rfl
@[simp] theorem H9 : H 9 = h9 := rfl
@[simp] theorem H10 : H 10 = h10 := rfl
@[simp] theorem H11 : H 11 = h11 := rfl
@[simp] theorem H12 : H 12 = h12 := rfl
@[simp] theorem H13 : H 13 = h13 := rfl
@[simp] theorem H14 : H 14 = h14 := rfl
@[simp] theorem H15 : H 15 = h15 := rfl
@[simp] theorem H16 : H 16 = h16 := rfl
@[simp] theorem H17 : H 17 = h17 := rfl
@[simp] theorem H18 : H 18 = h18 := rfl
@[simp] theorem H19 : H 19 = h19 := rfl
@[simp] theorem H20 : H 20 = h20 := rfl
@[simp] theorem H21 : H 21 = h21 := rfl
@[simp] theorem H22 : H 22 = h22 := rfl
@[simp] theorem H23 : H 23 = h23 := rfl
@[simp] theorem H24 : H 24 = h24 := rfl
@[simp] theorem H25 : H 25 = h25 := rfl
@[simp] theorem H26 : H 26 = h26 := rfl
@[simp] theorem H27 : H 27 = h27 := rfl
@[simp] theorem H28 : H 28 = h28 := rfl
@[simp] theorem H29 : H 29 = h29 := rfl
@[simp] theorem H30 : H 30 = h30 := rfl
@[simp] theorem H31 : H 31 = h31 := rfl
@[simp] theorem H32 : H 32 = h32 := rfl
@[simp] theorem H33 : H 33 = h33 := rfl
@[simp] theorem H34 : H 34 = h34 := rfl
@[simp] theorem H35 : H 35 = h35 := rfl
@[simp] theorem H36 : H 36 = h36 := rfl
@[simp] theorem H37 : H 37 = h37 := rfl
@[simp] theorem H38 : H 38 = h38 := rfl
@[simp] theorem H39 : H 39 = h39 := rfl
@[simp] theorem H40 : H 40 = h40 := rfl
@[simp] theorem H41 : H 41 = h41 := rfl
@[simp] theorem H42 : H 42 = h42 := rfl
@[simp] theorem H43 : H 43 = h43 := rfl
@[simp] theorem H44 : H 44 = h44 := rfl
@[simp] theorem H45 : H 45 = h45 := rfl
@[simp] theorem H46 : H 46 = h46 := rfl
@[simp] theorem H47 : H 47 = h47 := rfl
@[simp] theorem H48 : H 48 = h48 := rfl
@[simp] theorem H49 : H 49 = h49 := rfl
@[simp] theorem H50 : H 50 = h50 := rfl
@[simp] theorem H51 : H 51 = h51 := rfl
@[simp] theorem H53 : H 53 = h53 := rfl
@[simp] theorem H54 : H 54 = h54 := rfl
@[simp] theorem H55 : H 55 = h55 := rfl
@[simp] theorem H56 : H 56 = h56 := rfl
@[simp] theorem H57 : H 57 = h57 := rfl
@[simp] theorem H58 : H 58 = h58 := rfl
@[simp] theorem H59 : H 59 = h59 := rfl
@[simp] theorem H60 : H 60 = h60 := rfl
@[simp] theorem H61 : H 61 = h61 := rfl
@[simp] theorem H62 : H 62 = h62 := rfl
@[simp] theorem H63 : H 63 = h63 := rfl
@[simp] theorem H64 : H 64 = h64 := rfl
@[simp] theorem H65 : H 65 = h65 := rfl
@[simp] theorem H66 : H 66 = h66 := rfl
@[simp] theorem H67 : H 67 = h67 := rfl
@[simp] theorem H69 : H 69 = h69 := rfl
@[simp] theorem H70 : H 70 = h70 := rfl
@[simp] theorem H71 : H 71 = h71 := rfl
@[simp] theorem H72 : H 72 = h72 := rfl
@[simp] theorem H73 : H 73 = h73 := rfl
@[simp] theorem H74 : H 74 = h74 := rfl
@[simp] theorem H75 : H 75 = h75 := rfl
@[simp] theorem H76 : H 76 = h76 := rfl
@[simp] theorem H77 : H 77 = h77 := rfl
@[simp] theorem H78 : H 78 = h78 := rfl
@[simp] theorem H79 : H 79 = h79 := rfl
@[simp] theorem H80 : H 80 = h80 := rfl
@[simp] theorem H81 : H 81 = h81 := rfl
@[simp] theorem H82 : H 82 = h82 := rfl
@[simp] theorem H83 : H 83 = h83 := rfl
@[simp] theorem H84 : H 84 = h84 := rfl
@[simp] theorem H85 : H 85 = h85 := rfl
@[simp] theorem H86 : H 86 = h86 := rfl
@[simp] theorem H87 : H 87 = h87 := rfl
@[simp] theorem H88 : H 88 = h88 := rfl
@[simp] theorem H89 : H 89 = h89 := rfl
@[simp] theorem H90 : H 90 = h90 := rfl
@[simp] theorem H91 : H 91 = h91 := rfl
@[simp] theorem H92 : H 92 = h92 := rfl
@[simp] theorem H93 : H 93 = h93 := rfl
@[simp] theorem H94 : H 94 = h94 := rfl
@[simp] theorem H95 : H 95 = h95 := rfl
@[simp] theorem H96 : H 96 = h96 := rfl
@[simp] theorem H97 : H 97 = h97 := rfl
@[simp] theorem H99 : H 99 = h99 := rfl
@[simp] theorem H100 : H 100 = h100 := rfl
@[simp] theorem H101 : H 101 = h101 := rfl
@[simp] theorem H102 : H 102 = h102 := rfl
@[simp] theorem H103 : H 103 = h103 := rfl
@[simp] theorem H104 : H 104 = h104 := rfl
@[simp] theorem H105 : H 105 = h105 := rfl
@[simp] theorem H106 : H 106 = h106 := rfl
@[simp] theorem H107 : H 107 = h107 := rfl
@[simp] theorem H108 : H 108 = h108 := rfl
@[simp] theorem H110 : H 110 = h110 := rfl
@[simp] theorem H111 : H 111 = h111 := rfl
@[simp] theorem H112 : H 112 = h112 := rfl
@[simp] theorem H113 : H 113 = h113 := rfl
@[simp] theorem H114 : H 114 = h114 := rfl
@[simp] theorem H116 : H 116 = h116 := rfl
@[simp] theorem H117 : H 117 = h117 := rfl
@[simp] theorem H119 : H 119 = h119 := rfl
@[simp] theorem H144 : H 144 = h144 := rfl
@[simp] theorem H100045 : H 100045 = h100045 := rfl
@[simp] theorem H100033 : H 100033 = h100033 := rfl
@[simp] theorem H100032 : H 100032 = h100032 := rfl
end Go.Proofs.Tryz.Ai
end
section
/- strings.Builder's methods that look at addresses or capacities: each leaves just this world behind. -/
namespace Go.Proofs.Tryz.Ai
open Go Go.AI Go.RowKit Go.Proofs

set_option maxHeartbeats 1000000 in
set_option maxRecDepth 100000 in
theorem copyCheck_used (b : Nat) (w : World) (h0 : w.cell? ⟨b, 0, none⟩ = some (.pointer (some ⟨b, 0, none⟩))) :
    Calls Tryz.prog 52 #[.pointer (some ⟨b, 0, none⟩)] w fun e w' => e = .returned (.tuple #[]) ∧ w' = w := by
  obtain ⟨j, hj, _⟩ : ∃ j, Tryz.prog.info? 67 = some j ∧ j.size = 2 := Option.map_eq_some_iff.1 (by kernel_rfl)
  go_enter Tryz.func52, Tryz.ntmps52
  go_wp2
  rw [Lib.run_neq_ptr_same w _ (te := 67) (by kernel_rfl) hj]
  go_wp2
  go_end0
  exact ⟨rfl, rfl⟩

set_option maxHeartbeats 1000000 in
set_option maxRecDepth 100000 in
theorem copyCheck_fresh (b : Nat) (w : World) (h0 : w.cell? ⟨b, 0, none⟩ = some (.pointer none)) (hsh : w.shape? b = some (67, 2)) (hfz : w.frozen? ⟨b, 0, none⟩ = false) :
    Calls Tryz.prog 52 #[.pointer (some ⟨b, 0, none⟩)] w fun e w' => e = .returned (.tuple #[]) ∧ w' = w.setCell ⟨b, 0, none⟩ (.pointer (some ⟨b, 0, none⟩)) := by
  obtain ⟨j, hj, hjs⟩ : ∃ j, Tryz.prog.info? 67 = some j ∧ j.size = 2 := Option.map_eq_some_iff.1 (by kernel_rfl)
  go_enter Tryz.func52, Tryz.ntmps52
  go_wp2
  rw [Lib.run_to_unsafe (t := 67) w ⟨b, 0, none⟩ (by kernel_rfl) (by kernel_rfl) hj (by rw [hjs]; decide) hsh (Nat.zero_lt_succ 1)]
  simp only [Result.andThen]
  rw [Oper.upon_value]
  go_wp2
  rw [run_callFunc_extern Tryz.func68 (by kernel_rfl) (by kernel_rfl) (by kernel_rfl) (e := Extern.AbiNoEscape.same) (by kernel_rfl)]
  rw [Lib.run_noEscape]
  simp only [Result.andThen]
  rw [Oper.upon_value]
  go_wp2
  rw [Lib.run_from_unsafe (u := 67) w ⟨b, 0, none⟩ (by kernel_rfl) (by kernel_rfl) hj hsh (by kernel_rfl)]
  simp only [Result.andThen]
  rw [Oper.upon_value]
  go_wp2
  go_end0
  exact ⟨rfl, rfl⟩

def SB : TypeId := 67
def U8 : TypeId := 5

set_option maxHeartbeats 2000000 in
set_option maxRecDepth 1000000 in
theorem string_some (b g cap n : Nat) (p : Value) (cur : Array Value) (l : List UInt8) (w : World) (h0 : l ≠ []) (hn : l.length = n) (hbk : Blk w b #[p, .slice (some ⟨g, 0, none⟩) n cap] SB)
    (hg : Blk w g cur U8) (hnc : n ≤ cap) (hcm : cap ≤ maxLen) (hcs : cur.size = cap) (hx : ∀ (j : Nat) (x : UInt8), l[j]? = some x → cur[j]? = some (.int .u8 x.toNat)) :
    Calls Tryz.prog 29 #[.pointer (some ⟨b, 0, none⟩)] w fun e w' => e = .returned (.string ⟨l.toArray⟩) ∧ w' = w.drew.freeze ⟨g, 0, none⟩ n := by
  obtain ⟨fbk, hbk, okbk⟩ := hbk
  obtain ⟨fg, hg, okg⟩ := hg
  subst hn
  have hl0 : l.length ≠ 0 := by simpa using h0
  have c1 : w.drew.cell? ⟨b, 1, none⟩ = some (.slice (some ⟨g, 0, none⟩) l.length cap) := by
    have : w.drew.heap[b]? = some (.cells #[p, .slice (some ⟨g, 0, none⟩) l.length cap] SB fbk) := hbk
    rw [Lib.cell_of_heap this]; rfl
  have hSD : (Builtin.unsafeSliceData_ #[23] 100 #[.slice (some ⟨g, 0, none⟩) l.length cap]).run Tryz.prog w.drew = .ok (.pointer (some ⟨g, 0, none⟩)) w.drew :=
    Lib.run_unsafeSliceData_row _ _ _ _ _ _ (by omega)
  have hUS : (Builtin.unsafeString_ #[100, 3] 9 #[.pointer (some ⟨g, 0, none⟩), .int .i64 l.length]).run Tryz.prog w.drew = .ok (.string ⟨l.toArray⟩) (w.drew.freeze ⟨g, 0, none⟩ l.length) := by
    refine Lib.run_unsafeString_row w.drew 100 3 9 5 (by kernel_rfl) (by kernel_rfl) g cur.size (by have hg' : w.drew.heap[g]? = some (.cells cur U8 fg) := hg; simp [World.shape?, hg', U8]) l h0 (by omega) (by unfold maxLen at hcm; omega) ?_
    intro j x hj
    have := hx j x hj
    have hg' : w.drew.heap[g]? = some (.cells cur U8 fg) := hg
    rw [show (⟨g, 0, none⟩ : Addr).add j = ⟨g, j, none⟩ from by unfold Addr.add; split <;> simp_all, Lib.cell_of_heap hg']; exact this
  go_enter Tryz.func29, Tryz.ntmps29
  go_wp2
  go_region
  all_goals (go_wp2; go_ret; exact ⟨rfl, rfl⟩)

set_option maxHeartbeats 2000000 in
set_option maxRecDepth 1000000 in
theorem string_nil (b : Nat) (p : Value) (w : World) (hbk : Blk w b #[p, .slice none 0 0] SB) :
    Calls Tryz.prog 29 #[.pointer (some ⟨b, 0, none⟩)] w fun e w' => e = .returned (.string ⟨#[]⟩) ∧ w' = w.drew := by
  obtain ⟨fbk, hbk, okbk⟩ := hbk
  have hUS : ∀ (W : World) (q : Option Addr), (Builtin.unsafeString_ #[100, 3] 9 #[.pointer q, .int .i64 0]).run Tryz.prog W = .ok (.string .empty) W := fun W q => Lib.run_unsafeString_none W _ _ _ q
  have c1 : w.drew.cell? ⟨b, 1, none⟩ = some (.slice none 0 0) := by
    have : w.drew.heap[b]? = some (.cells #[p, .slice none 0 0] SB fbk) := hbk
    rw [Lib.cell_of_heap this]; rfl
  have hSD : ∀ W : World, (Builtin.unsafeSliceData_ #[23] 100 #[.slice none 0 0]).run Tryz.prog W = .ok (.pointer none) W := fun W => rfl
  go_enter Tryz.func29, Tryz.ntmps29
  go_wp2
  go_region
  all_goals (go_wp2; go_ret; exact ⟨rfl, rfl⟩)

set_option maxHeartbeats 2000000 in
set_option maxRecDepth 1000000 in
theorem string_room (b g cap : Nat) (p : Value) (w : World) (hc0 : cap ≠ 0) (hbk : Blk w b #[p, .slice (some ⟨g, 0, none⟩) 0 cap] SB) :
    Calls Tryz.prog 29 #[.pointer (some ⟨b, 0, none⟩)] w fun e w' => e = .returned (.string ⟨#[]⟩) ∧ w' = w.drew := by
  obtain ⟨fbk, hbk, okbk⟩ := hbk
  have hUS : ∀ (W : World) (q : Option Addr), (Builtin.unsafeString_ #[100, 3] 9 #[.pointer q, .int .i64 0]).run Tryz.prog W = .ok (.string .empty) W := fun W q => Lib.run_unsafeString_none W _ _ _ q
  have c1 : w.drew.cell? ⟨b, 1, none⟩ = some (.slice (some ⟨g, 0, none⟩) 0 cap) := by
    have : w.drew.heap[b]? = some (.cells #[p, .slice (some ⟨g, 0, none⟩) 0 cap] SB fbk) := hbk
    rw [Lib.cell_of_heap this]; rfl
  have hSD : (Builtin.unsafeSliceData_ #[23] 100 #[.slice (some ⟨g, 0, none⟩) 0 cap]).run Tryz.prog w.drew = .ok (.pointer (some ⟨g, 0, none⟩)) w.drew :=
    Lib.run_unsafeSliceData_row _ _ _ _ _ _ hc0
  clear hc0
  go_enter Tryz.func29, Tryz.ntmps29
  go_wp2
  go_region
  all_goals (go_wp2; go_ret; exact ⟨rfl, rfl⟩)

set_option maxHeartbeats 2000000 in
set_option maxRecDepth 1000000 in
theorem string_noroom (b g : Nat) (p : Value) (cur : Array Value) (w : World) (hbk : Blk w b #[p, .slice (some ⟨g, 0, none⟩) 0 0] SB) (hg : Blk w g cur U8) :
    Calls Tryz.prog 29 #[.pointer (some ⟨b, 0, none⟩)] w fun e w' => e = .returned (.string ⟨#[]⟩) ∧ w' = (w.alloc (.view ⟨g, 0, none⟩ U8)).drew := by
  obtain ⟨fbk, hbk, okbk⟩ := hbk
  obtain ⟨fg, hg, okg⟩ := hg
  have hUS : ∀ (W : World) (q : Option Addr), (Builtin.unsafeString_ #[100, 3] 9 #[.pointer q, .int .i64 0]).run Tryz.prog W = .ok (.string .empty) W := fun W q => Lib.run_unsafeString_none W _ _ _ q
  have hlt : b < w.heap.size := by
    rcases Nat.lt_or_ge b w.heap.size with h' | h'
    · exact h'
    · simp [Array.getElem?_eq_none h'] at hbk
  have c1 : w.drew.cell? ⟨b, 1, none⟩ = some (.slice (some ⟨g, 0, none⟩) 0 0) := by
    have : w.drew.heap[b]? = some (.cells #[p, .slice (some ⟨g, 0, none⟩) 0 0] SB fbk) := hbk
    rw [Lib.cell_of_heap this]; rfl
  have hSD : (Builtin.unsafeSliceData_ #[23] 100 #[.slice (some ⟨g, 0, none⟩) 0 0]).run Tryz.prog w.drew = .ok (.pointer (some ⟨w.drew.heap.size, 0, none⟩)) (w.drew.alloc (.view ⟨g, 0, none⟩ 5)) :=
    Lib.run_unsafeSliceData_zero w.drew _ _ 5 (by kernel_rfl) ⟨g, 0, none⟩ 0 (5, cur.size) (by have hg' : w.drew.heap[g]? = some (.cells cur U8 fg) := hg; simp [World.shape?, hg', U8])
  have c2 : (w.drew.alloc (.view ⟨g, 0, none⟩ 5)).cell? ⟨b, 1, none⟩ = some (.slice (some ⟨g, 0, none⟩) 0 0) := by
    have : (w.drew.alloc (.view ⟨g, 0, none⟩ 5)).heap[b]? = _ := (Lib.alloc_old w.drew _ b hlt).trans hbk
    rw [Lib.cell_of_heap this]; rfl
  have c3 : (w.alloc (.view ⟨g, 0, none⟩ 5)).drew.cell? ⟨b, 1, none⟩ = some (.slice (some ⟨g, 0, none⟩) 0 0) := c2
  have c0 : w.cell? ⟨b, 1, none⟩ = some (.slice (some ⟨g, 0, none⟩) 0 0) := c1
  clear hlt
  go_enter Tryz.func29, Tryz.ntmps29
  go_wp2
  go_region
  all_goals (go_wp2; go_ret; exact ⟨rfl, rfl⟩)

end Go.Proofs.Tryz.Ai
end
section
/- The table's entries for strings.Builder. -/
namespace Go.Proofs.Tryz.Ai
open Go Go.AI Go.RowKit Go.Proofs
set_option linter.unusedVariables false

def copyCheckT : List AV → List (List AV) → Option (AV × List (List AV))
  | [.gp b 0 (some (t, 2))], s => if t = SB then (match s[b]? with
      | some [.nilp, u] => some (.tup [], s.set b [.gp b 0 (some (SB, 2)), u])
      | some [.gp b' 0 _, u] => if b' = b then some (.tup [], s) else none
      | _ => none) else none
  | _, _ => none

theorem one_arg {B : Nat} {T0 : Nat → Prop} {μ0 : Gh} {w0 : World} {N : Nat} {μ : Gh} {lx : Nat → Option Nat} {w : World} {vs : Array Value} {x : AV} {s : List (List AV)} (hsz : vs.size = 1) : ∃ v, vs = #[v] ∧ vs.getD 0 undef = v := by
  obtain ⟨l⟩ := vs
  match l, hsz with
  | [v], _ => exact ⟨v, rfl, rfl⟩

theorem copyCheck_ok {B : Nat} {W0 : World} {xs : List AV} {s : List (List AV)} {r : AV} {s' : List (List AV)} (e : copyCheckT xs s = some (r, s')) : ACalls Tryz.prog B W0 52 xs s r s' := by
  unfold copyCheckT at e
  split at e
  · rename_i b tt
    split at e
    · rename_i ht
      subst ht
      intro T μ w vs hsz hW hs
      split at e
      · rename_i u hb
        simp only [Option.some.injEq, Prod.mk.injEq] at e
        obtain ⟨rfl, rfl⟩ := e
        obtain ⟨blk, cur, ty, h1, h2, h3, h4, h5, h6, h7⟩ := hs.gp_open (i := 0) (b := b) (off := 0) (sh := some (SB, 2)) (by simp [params, look]) hb (by simp)
        have h8 := h7 _ rfl
        simp only [Prod.mk.injEq] at h8
        obtain ⟨rfl, h8⟩ := h8
        obtain ⟨v, rfl, hv⟩ := one_arg (B := B) (T0 := T) (μ0 := μ) (w0 := w) (N := 1) (μ := μ) (lx := fun _ => none) (w := w) (x := .nilp) (s := []) hsz
        have hv0 : v = .pointer (some ⟨blk, 0, none⟩) := h1
        subst hv0
        have hc0 : cur[0]? = some (.pointer none) := by
          have := (h6 0 .nilp rfl).2.1
          have hq : cur[0]? = some (cur.getD 0 undef) := by simp [Array.getD_eq_getD_getElem?, h8]
          rw [hq]; congr 1
          generalize cur.getD 0 undef = z at this
          cases this; rfl
        refine (copyCheck_fresh blk w (by rw [h3.cell]; exact hc0) (by simp [h3.shape, h8, SB]) (h3.frozen (by omega))).mono ?_
        rintro e w' ⟨rfl, rfl⟩
        have h9 := hs.setGlobCell (j := 0) (c := .gp b 0 (some (SB, 2))) (v := .pointer (some ⟨blk, 0, none⟩)) hb h2 h3 (by simp) (.mk' ⟨.gp _ _ _ _ h2 (fun q e => by injection e with e; subst e; simp [h3.shape, h8]), trivial⟩ fun j => by cases j <;> rfl) rfl
        exact ⟨_, _, rfl, h9.unit⟩
      · rename_i b' sh u hb
        split at e
        · rename_i hbb
          obtain rfl : b = b' := hbb.symm
          simp only [Option.some.injEq, Prod.mk.injEq] at e
          obtain ⟨rfl, rfl⟩ := e
          obtain ⟨blk, cur, ty, h1, h2, h3, h4, h5, h6, h7⟩ := hs.gp_open (i := 0) (b := b) (off := 0) (sh := some (SB, 2)) (by simp [params, look]) hb (by simp)
          have h8 := h7 _ rfl
          simp only [Prod.mk.injEq] at h8
          obtain ⟨rfl, h8⟩ := h8
          obtain ⟨v, rfl, hv⟩ := one_arg (B := B) (T0 := T) (μ0 := μ) (w0 := w) (N := 1) (μ := μ) (lx := fun _ => none) (w := w) (x := .nilp) (s := []) hsz
          have hv0 : v = .pointer (some ⟨blk, 0, none⟩) := h1
          subst hv0
          have hc0 : cur[0]? = some (.pointer (some ⟨blk, 0, none⟩)) := by
            have := (h6 0 _ rfl).2.1
            have hq : cur[0]? = some (cur.getD 0 undef) := by simp [Array.getD_eq_getD_getElem?, h8]
            rw [hq]; congr 1
            generalize cur.getD 0 undef = z at this
            cases this with
            | gp _ _ blk' _ hq' _ => rw [h2] at hq'; injection hq' with hq'; rw [hq']
          refine (copyCheck_used blk w (by rw [h3.cell]; exact hc0)).mono ?_
          rintro e w' ⟨rfl, rfl⟩
          exact ⟨_, _, rfl, hs.unit⟩
        · cases e
      · cases e
    · cases e
  · cases e

theorem bytesOf_u8 (l : List UInt8) : bytesOf (l.map .u8) = some l := by
  induction l with
  | nil => rfl
  | cons b r ih => simp [bytesOf, AV.u8, ih, bnd]

noncomputable def stringT : List AV → List (List AV) → Option (AV × List (List AV))
  | [.gp b 0 (some (t, 2))], s => if t = SB then (match s[b]? with
      | some [u, .sl (.ex ty 1) xs] => if ty = U8 then bnd (bytesOf xs) fun l => need (xs = l.map .u8) (some (.str l, s.set b [u, .sl .sh xs])) else none
      | some [u, .sl .nil []] => some (.str [], s)
      | _ => none) else none
  | _, _ => none

theorem string_ok {B : Nat} {W0 : World} {xs : List AV} {s : List (List AV)} {r : AV} {s' : List (List AV)} (e : stringT xs s = some (r, s')) : ACalls Tryz.prog B W0 29 xs s r s' := by
  unfold stringT at e
  split at e
  · rename_i b tt
    split at e
    · rename_i ht
      subst ht
      intro T μ w vs hsz hW hs
      split at e
      · rename_i u ty2 xs hb
        split at e
        rotate_left
        · cases e
        rename_i hty
        subst hty
        obtain ⟨l, hl, e⟩ := bnd_eq e
        obtain ⟨hxs, e⟩ := need_eq e
        simp only [Option.some.injEq, Prod.mk.injEq] at e
        obtain ⟨rfl, rfl⟩ := e
        obtain ⟨blk, cur, ty, h1, h2, h3, h4, h5, h6, h7⟩ := hs.gp_open (i := 0) (b := b) (off := 0) (sh := some (SB, 2)) (by simp [params, look]) hb (by simp)
        have h8 := h7 _ rfl
        simp only [Prod.mk.injEq] at h8
        obtain ⟨rfl, h8⟩ := h8
        obtain ⟨v, rfl, hv⟩ := one_arg (B := B) (T0 := T) (μ0 := μ) (w0 := w) (N := 1) (μ := μ) (lx := fun _ => none) (w := w) (x := .nilp) (s := []) hsz
        have hv0 : v = .pointer (some ⟨blk, 0, none⟩) := h1
        subst hv0
        obtain ⟨p, q, rfl⟩ : ∃ p q, cur = #[p, q] := by
          obtain ⟨l⟩ := cur
          match l, h8 with
          | [p, q], _ => exact ⟨p, q, rfl⟩
        have k1 := h6 1 _ rfl
        have kr : Rep B μ w q (.sl (.ex U8 1) xs) := k1.2.1
        have kt : Tk1 B μ w q (.sl (.ex U8 1) xs) := k1.2.2
        have hq1 : hs = hs := rfl
        have hqc := hs.quietCell hb (j := 1) rfl
        have hown : own ⟨#[.pointer (some ⟨blk, 0, none⟩)], []⟩ (fun _ => none) μ w ⟨params 0 [.gp b 0 (some (SB, 2))], [], s⟩ (.gc b 1) = exBlk q (.sl (.ex U8 1) xs) := by
          simp [own, ownB, hb, h2, h3.cell]
        rcases kt with hn | ⟨g, cap, cur, rfl, hB, hg, c1, c2, c3, c4, c5, c6⟩
        · subst hn
          have hx : xs = [] := by cases kr <;> rfl
          subst hx
          injection hl with hl; subst hl
          refine (string_nil blk p w h3).mono ?_
          rintro e w' ⟨rfl, rfl⟩
          exact ⟨_, _, rfl, hqc.drew.1.text []⟩
        · have hfree : ∀ l, own ⟨#[.pointer (some ⟨blk, 0, none⟩)], []⟩ (fun _ => none) μ w ⟨params 0 [.gp b 0 (some (SB, 2))], [], s.set b [u, .sl .sh xs]⟩ l ≠ some g := by
            intro l e
            have hle : Le ⟨params 0 [.gp b 0 (some (SB, 2))], [], s.set b [u, .sl .sh xs]⟩ ⟨params 0 [.gp b 0 (some (SB, 2))], [], s⟩ := by
              have hb' : b < s.length := (List.getElem?_eq_some_iff.1 hb).1
              refine ⟨fun i v e => ⟨v, e, .inl rfl⟩, fun d cs e => ⟨cs, e, CLe.refl _⟩, fun b' cs' e => ?_, by simp, id⟩
              simp only [List.getElem?_set] at e
              by_cases q : b = b'
              · subst q
                simp [hb'] at e; subst e
                refine ⟨_, hb, rfl, fun j' c' e => ?_⟩
                match j', e with
                | 0, e => exact ⟨_, rfl, .inl (by simpa using e.symm)⟩
                | 1, e => exact ⟨_, rfl, .inr (by simpa [dem1] using e.symm)⟩
              · rw [if_neg q] at e; exact ⟨cs', e, CLe.refl _⟩
            have e1 := own_le hle e
            have := hs.inj l (.gc b 1) g e1 (by rw [hown]; rfl)
            subst this
            have hb' : b < s.length := (List.getElem?_eq_some_iff.1 hb).1
            simp [own, ownB, List.getElem?_set, hb', h2, h3.cell, exBlk] at e
          have hr := hs.rng (.gc b 1) g (by rw [hown]; rfl)
          have hqc' : Sim B T μ w 1 μ (fun _ => none) ⟨#[.pointer (some ⟨blk, 0, none⟩)], []⟩ w ⟨params 0 [.gp b 0 (some (SB, 2))], [], s.set b [u, .sl .sh xs]⟩ := hqc
          by_cases hx : xs = []
          · subst hx
            injection hl with hl; subst hl
            by_cases hc0 : cap = 0
            · subst hc0
              refine (string_noroom blk g p cur w h3 hg).mono ?_
              rintro e w' ⟨rfl, rfl⟩
              exact ⟨_, _, rfl, (hqc'.alloc _).drew.1.text []⟩
            · refine (string_room blk g cap p w hc0 h3).mono ?_
              rintro e w' ⟨rfl, rfl⟩
              exact ⟨_, _, rfl, hqc'.drew.1.text []⟩
          · have hl0 : l ≠ [] := fun e => by subst e; exact hx hxs
            have hll : l.length = xs.length := by rw [hxs]; simp
            obtain ⟨ad, cap', he, _, _, _, k4⟩ := sl_inv kr
            obtain ⟨b', off', sz', f, had, hsz', hall', hcell, hrep⟩ := k4 hx
            injection he with he1 he2 he3
            rw [had] at he1
            injection he1 with he1
            injection he1 with e1 e2
            subst e1; subst e2
            have hsz1 : sz' = 1 := by
              obtain ⟨x0, hx0⟩ := List.exists_mem_of_ne_nil xs hx
              rw [← (hall' x0 hx0).1]; exact (c5 x0 hx0).1
            subst hsz1
            refine (string_some blk g cap xs.length p cur l w hl0 hll h3 hg c1 c2 (by omega) (fun j x hj => ?_)).mono ?_
            · have hjl : j < l.length := (List.getElem?_eq_some_iff.1 hj).1
              have hxj : xs[j]? = some (.u8 x) := by rw [hxs]; simp [hj]
              have h10 := (hcell j (by omega)).1
              have h11 := hrep j 0 (.u8 x) (by rw [hxj]; rfl)
              rw [Nat.zero_add, cell_box hg] at h10
              rw [h10]; congr 1
              simp only [Nat.mul_one, Nat.add_zero] at h11
              generalize f j = z at h11
              cases h11; rfl
            · rintro e w' ⟨rfl, rfl⟩
              have h12 := hqc'.drew
              exact ⟨_, _, rfl, (h12.1.freeze (g := g) (n := xs.length) (fun l e => hfree l (by rw [← h12.2]; exact e)) hB hr.2.2).text l⟩
      · rename_i u hb
        simp only [Option.some.injEq, Prod.mk.injEq] at e
        obtain ⟨rfl, rfl⟩ := e
        obtain ⟨blk, cur, ty, h1, h2, h3, h4, h5, h6, h7⟩ := hs.gp_open (i := 0) (b := b) (off := 0) (sh := some (SB, 2)) (by simp [params, look]) hb (by simp)
        have h8 := h7 _ rfl
        simp only [Prod.mk.injEq] at h8
        obtain ⟨rfl, h8⟩ := h8
        obtain ⟨v, rfl, hv⟩ := one_arg (B := B) (T0 := T) (μ0 := μ) (w0 := w) (N := 1) (μ := μ) (lx := fun _ => none) (w := w) (x := .nilp) (s := []) hsz
        have hv0 : v = .pointer (some ⟨blk, 0, none⟩) := h1
        subst hv0
        obtain ⟨p, q, rfl⟩ : ∃ p q, cur = #[p, q] := by
          obtain ⟨l⟩ := cur
          match l, h8 with
          | [p, q], _ => exact ⟨p, q, rfl⟩
        have kr : Rep B μ w q (.sl .nil []) := (h6 1 _ rfl).2.1
        obtain ⟨rfl, _⟩ := kr.nil_val
        refine (string_nil blk p w h3).mono ?_
        rintro e w' ⟨rfl, rfl⟩
        exact ⟨_, _, rfl, hs.drew.1.text []⟩
      · cases e
    · cases e
  · cases e


end Go.Proofs.Tryz.Ai
end
section
/- Texts by the machine's own words: a byte's place, a byte's number, the order. -/
namespace Go.Proofs.Tryz.Ai
open Go Go.AI Go.RowKit Go.Proofs
set_option linter.unusedVariables false

set_option maxHeartbeats 1000000 in
set_option maxRecDepth 100000 in
theorem walk_index (s : ByteArray) (c : Int) (w : World) :
    Calls Tryz.prog 105 #[.string s, .int .u8 c] w fun e w' => e = .returned (.int .i64 (Lib.indexByte s.data.toList c.toNat.toUInt8)) ∧ w' = w := by
  go_enter Tryz.func105, Tryz.ntmps105
  go_wp2
  rw [run_callFunc_extern Tryz.func115 (by kernel_rfl) (by kernel_rfl) (by kernel_rfl) (e := Extern.BytealgIndexByte.indexByte) (by kernel_rfl), Lib.run_indexByteString]
  simp only [Result.andThen]
  rw [Oper.upon_value]
  go_wp2
  go_ret
  exact ⟨rfl, rfl⟩


set_option maxHeartbeats 1000000 in
set_option maxRecDepth 100000 in
theorem walk_count (s : ByteArray) (c : UInt8) (w : World) :
    Calls Tryz.prog 85 #[.string s, .string ⟨#[c]⟩] w fun e w' => e = .returned (.int .i64 (Lib.countByte s.data.toList c)) ∧ w' = w := by
  go_enter Tryz.func85, Tryz.ntmps85
  go_wp2
  rw [run_callFunc_extern Tryz.func98 (by kernel_rfl) (by kernel_rfl) (by kernel_rfl) (e := Extern.BytealgCount.count) (by kernel_rfl), Lib.run_countString]
  simp only [Result.andThen]
  rw [Oper.upon_value]
  go_wp2
  go_ret
  exact ⟨rfl, rfl⟩

section
variable {B : Nat} {W0 : World} {T0 : Nat → Prop} {μ0 : Gh} {w0 : World} {N : Nat} {μ : Gh} {lx : Nat → Option Nat} {a : Act} {w : World} {st : St}
theorem sim_num (h : Sim B T0 μ0 w0 N μ lx a w st) (k : IntKind) (n : Int) : Sim B T0 μ0 w0 1 μ (fun _ => none) ⟨#[.int k n], []⟩ w ⟨[(0, .int k n)], [], st.s⟩ :=
  h.out (.mk' ⟨.int k n, trivial⟩ fun j => by cases j <;> simp [ownV, exBlk]) fun d i q => by cases q
theorem two_args {vs : Array Value} (h : vs.size = 2) : ∃ u v, vs = #[u, v] := by
  obtain ⟨l⟩ := vs
  match l, h with
  | [u, v], _ => exact ⟨u, v, rfl⟩
theorem rep_str {v : Value} {l : List UInt8} (h : Rep B μ w v (.str l)) : ∃ s : ByteArray, v = .string s ∧ s.data.toList = l := by
  cases h with
  | str s => exact ⟨s, rfl, rfl⟩
theorem rep_int {v : Value} {k : IntKind} {n : Int} (h : Rep B μ w v (.int k n)) : v = .int k n := by
  cases h; rfl
end

def indexT : List AV → List (List AV) → Option (AV × List (List AV))
  | [.str l, .int .u8 c], s => some (.int .i64 (Lib.indexByte l c.toNat.toUInt8), s)
  | _, _ => none
theorem index_ok {B : Nat} {W0 : World} {xs : List AV} {s : List (List AV)} {r : AV} {s' : List (List AV)} (e : indexT xs s = some (r, s')) : ACalls Tryz.prog B W0 105 xs s r s' := by
  unfold indexT at e
  split at e
  · rename_i l c
    simp only [Option.some.injEq, Prod.mk.injEq] at e
    obtain ⟨rfl, rfl⟩ := e
    intro T μ w vs hsz hW hs
    obtain ⟨u, v, rfl⟩ := two_args (vs := vs) hsz
    obtain ⟨st, rfl, rfl⟩ := rep_str (hs.tmp 0 (.str l) (by simp [params, look])).1
    obtain rfl := rep_int (hs.tmp 1 (.int .u8 c) (by simp [params, look])).1
    refine (walk_index st c w).mono ?_
    rintro e w' ⟨rfl, rfl⟩
    exact ⟨_, _, rfl, sim_num hs _ _⟩
  · cases e
def countT : List AV → List (List AV) → Option (AV × List (List AV))
  | [.str l, .str [c]], s => some (.int .i64 (Lib.countByte l c), s)
  | _, _ => none
theorem count_ok {B : Nat} {W0 : World} {xs : List AV} {s : List (List AV)} {r : AV} {s' : List (List AV)} (e : countT xs s = some (r, s')) : ACalls Tryz.prog B W0 85 xs s r s' := by
  unfold countT at e
  split at e
  · rename_i l c
    simp only [Option.some.injEq, Prod.mk.injEq] at e
    obtain ⟨rfl, rfl⟩ := e
    intro T μ w vs hsz hW hs
    obtain ⟨u, v, rfl⟩ := two_args (vs := vs) hsz
    obtain ⟨st, rfl, rfl⟩ := rep_str (hs.tmp 0 (.str l) (by simp [params, look])).1
    obtain ⟨⟨⟨p⟩⟩, rfl, hp⟩ := rep_str (hs.tmp 1 (.str [c]) (by simp [params, look])).1
    simp only at hp
    subst hp
    refine (walk_count st c w).mono ?_
    rintro e w' ⟨rfl, rfl⟩
    exact ⟨_, _, rfl, sim_num hs _ _⟩
  · cases e
end Go.Proofs.Tryz.Ai
end
section
/- The digits of a number: by the laid table of powers. -/
namespace Go.Proofs.Tryz.Ai
open Go Go.AI Go.RowKit Go.Proofs Go.Shelf
set_option linter.unusedVariables false
def ren : Go.Shelf.Ren := ⟨fun | 100 => 49 | 103 => 75 | 104 => 61 | 119 => 119 | 120 => 117 | 129 => 92 | 137 => 90 | 138 => 85 | 143 => 86 | 145 => 76 | 146 => 63 | 148 => 62 | 151 => 114 | 152 => 118 | 162 => 89 | 171 => 36 | 195 => 96 | 197 => 97 | 206 => 100 | 207 => 66 | 210 => 87 | 211 => 71 | 217 => 105 | 218 => 98 | 219 => 99 | 220 => 88 | 221 => 74 | 222 => 72 | 223 => 73 | 224 => 110 | 225 => 109 | 227 => 102 | 228 => 112 | 232 => 101 | 234 => 103 | 236 => 104 | 243 => 58 | 246 => 69 | 260 => 108 | 266 => 115 | 267 => 111 | 268 => 84 | 269 => 83 | 271 => 113 | 283 => 79 | 284 => 80 | 285 => 81 | 286 => 82 | 314 => 116 | 317 => 91 | 318 => 93 | 319 => 94 | 320 => 95 | 337 => 106 | 338 => 107 | n => n, fun | 0 => 0 | 2 => 2 | 3 => 3 | 4 => 4 | 5 => 5 | 9 => 9 | 20 => 20 | 21 => 21 | 24 => 106 | 31 => 51 | 37 => 23 | 46 => 72 | 51 => 59 | 53 => 103 | 59 => 119 | 105 => 140 | 116 => 144 | 117 => 145 | 119 => 154 | 124 => 148 | 138 => 156 | 139 => 157 | 146 => 129 | 171 => 124 | 173 => 127 | 212 => 135 | 213 => 136 | 232 => 152 | 233 => 153 | n => n, fun | 1 => 0 | 3 => 4 | 4 => 5 | 17 => 1 | 18 => 2 | 19 => 3 | n => n⟩
theorem lays_LaysM_n171 : LaysM.n171 Tryz.prog ren := { mixed := by kernel_rfl, f129 := by kernel_rfl, f171 := by kernel_rfl, f243 := by kernel_rfl, f246 := by kernel_rfl, f283 := by kernel_rfl, f284 := by kernel_rfl, f285 := by kernel_rfl, f286 := by kernel_rfl, f317 := by kernel_rfl, f318 := by kernel_rfl, f319 := by kernel_rfl, f320 := by kernel_rfl, f337 := by kernel_rfl, f338 := by kernel_rfl, t0 := Tryz.underlying0, a0 := Tryz.isAgg0, z0 := Tryz.sizeOf0, v0 := Tryz.zeroValue0, t2 := Tryz.underlying2, a2 := Tryz.isAgg2, z2 := Tryz.sizeOf2, v2 := Tryz.zeroValue2, t3 := Tryz.underlying3, a3 := Tryz.isAgg3, z3 := Tryz.sizeOf3, v3 := Tryz.zeroValue3, t4 := Tryz.underlying4, a4 := Tryz.isAgg4, z4 := Tryz.sizeOf4, v4 := Tryz.zeroValue4, t5 := Tryz.underlying5, a5 := Tryz.isAgg5, z5 := Tryz.sizeOf5, v5 := Tryz.zeroValue5, t9 := Tryz.underlying9, a9 := Tryz.isAgg9, z9 := Tryz.sizeOf9, v9 := Tryz.zeroValue9, t20 := Tryz.underlying20, a20 := Tryz.isAgg20, z20 := Tryz.sizeOf20, v20 := Tryz.zeroValue20, t37 := Tryz.underlying23, a37 := Tryz.isAgg23, z37 := Tryz.sizeOf23, v37 := Tryz.zeroValue23, t46 := Tryz.underlying72, a46 := Tryz.isAgg72, z46 := Tryz.sizeOf72, v46 := Tryz.zeroValue72, t51 := Tryz.underlying59, a51 := Tryz.isAgg59, z51 := Tryz.sizeOf59, v51 := Tryz.zeroValue59, t53 := Tryz.underlying103, a53 := Tryz.isAgg103, z53 := Tryz.sizeOf103, v53 := Tryz.zeroValue103, t171 := Tryz.underlying124, a171 := Tryz.isAgg124, z171 := Tryz.sizeOf124, v171 := Tryz.zeroValue124, t173 := Tryz.underlying127, a173 := Tryz.isAgg127, z173 := Tryz.sizeOf127, v173 := Tryz.zeroValue127, t212 := Tryz.underlying135, a212 := Tryz.isAgg135, z212 := Tryz.sizeOf135, v212 := Tryz.zeroValue135, t213 := Tryz.underlying136, a213 := Tryz.isAgg136, z213 := Tryz.sizeOf136, t232 := Tryz.underlying152, a232 := Tryz.isAgg152, z232 := Tryz.sizeOf152, v232 := Tryz.zeroValue152, t233 := Tryz.underlying153, a233 := Tryz.isAgg153, z233 := Tryz.sizeOf153, v233 := Tryz.zeroValue153, g17 := by kernel_rfl, g18 := by kernel_rfl, g19 := by kernel_rfl, i0 := by kernel_rfl, i2 := by kernel_rfl, i3 := by kernel_rfl, i4 := by kernel_rfl, i5 := by kernel_rfl, i9 := by kernel_rfl, i20 := by kernel_rfl, i37 := by kernel_rfl, i46 := by kernel_rfl, i51 := by kernel_rfl, i53 := by kernel_rfl, i171 := by kernel_rfl, i173 := by kernel_rfl, i212 := by kernel_rfl, i232 := by kernel_rfl, i233 := by kernel_rfl, m17 := by kernel_rfl, m18 := by kernel_rfl, m19 := by kernel_rfl }
theorem lays_Lays_n219 : Lays.n219 Tryz.prog ren := { mixed := by kernel_rfl, f217 := by kernel_rfl, f219 := by kernel_rfl, f224 := by kernel_rfl, f225 := by kernel_rfl, f266 := by kernel_rfl, f267 := by kernel_rfl, f314 := by kernel_rfl, t3 := Tryz.underlying3, a3 := Tryz.isAgg3, z3 := Tryz.sizeOf3, v3 := Tryz.zeroValue3, t4 := Tryz.underlying4, a4 := Tryz.isAgg4, z4 := Tryz.sizeOf4, v4 := Tryz.zeroValue4, t5 := Tryz.underlying5, a5 := Tryz.isAgg5, z5 := Tryz.sizeOf5, v5 := Tryz.zeroValue5, t9 := Tryz.underlying9, a9 := Tryz.isAgg9, z9 := Tryz.sizeOf9, v9 := Tryz.zeroValue9, t46 := Tryz.underlying72, a46 := Tryz.isAgg72, z46 := Tryz.sizeOf72, v46 := Tryz.zeroValue72, t51 := Tryz.underlying59, a51 := Tryz.isAgg59, z51 := Tryz.sizeOf59, v51 := Tryz.zeroValue59, t146 := Tryz.underlying129, a146 := Tryz.isAgg129, z146 := Tryz.sizeOf129, v146 := Tryz.zeroValue129, g1 := by kernel_rfl }
theorem lays_Lays_n148 : Lays.n148 Tryz.prog ren := { mixed := by kernel_rfl, f148 := by kernel_rfl, f222 := by kernel_rfl, f223 := by kernel_rfl, f269 := by kernel_rfl, t3 := Tryz.underlying3, a3 := Tryz.isAgg3, z3 := Tryz.sizeOf3, v3 := Tryz.zeroValue3, t4 := Tryz.underlying4, a4 := Tryz.isAgg4, z4 := Tryz.sizeOf4, v4 := Tryz.zeroValue4, t5 := Tryz.underlying5, a5 := Tryz.isAgg5, z5 := Tryz.sizeOf5, v5 := Tryz.zeroValue5, t9 := Tryz.underlying9, a9 := Tryz.isAgg9, z9 := Tryz.sizeOf9, v9 := Tryz.zeroValue9, t46 := Tryz.underlying72, a46 := Tryz.isAgg72, z46 := Tryz.sizeOf72, v46 := Tryz.zeroValue72, t51 := Tryz.underlying59, a51 := Tryz.isAgg59, z51 := Tryz.sizeOf59, v51 := Tryz.zeroValue59, t146 := Tryz.underlying129, a146 := Tryz.isAgg129, z146 := Tryz.sizeOf129, v146 := Tryz.zeroValue129 }
theorem lays_Lays_n145 : Lays.n145 Tryz.prog ren := { mixed := by kernel_rfl, f145 := by kernel_rfl, f217 := by kernel_rfl, f219 := by kernel_rfl, f220 := by kernel_rfl, f224 := by kernel_rfl, f225 := by kernel_rfl, f266 := by kernel_rfl, f267 := by kernel_rfl, f314 := by kernel_rfl, t3 := Tryz.underlying3, a3 := Tryz.isAgg3, z3 := Tryz.sizeOf3, v3 := Tryz.zeroValue3, t4 := Tryz.underlying4, a4 := Tryz.isAgg4, z4 := Tryz.sizeOf4, v4 := Tryz.zeroValue4, t5 := Tryz.underlying5, a5 := Tryz.isAgg5, z5 := Tryz.sizeOf5, v5 := Tryz.zeroValue5, t9 := Tryz.underlying9, a9 := Tryz.isAgg9, z9 := Tryz.sizeOf9, v9 := Tryz.zeroValue9, t46 := Tryz.underlying72, a46 := Tryz.isAgg72, z46 := Tryz.sizeOf72, v46 := Tryz.zeroValue72, t51 := Tryz.underlying59, a51 := Tryz.isAgg59, z51 := Tryz.sizeOf59, v51 := Tryz.zeroValue59, t59 := Tryz.underlying119, a59 := Tryz.isAgg119, z59 := Tryz.sizeOf119, v59 := Tryz.zeroValue119, t146 := Tryz.underlying129, a146 := Tryz.isAgg129, z146 := Tryz.sizeOf129, v146 := Tryz.zeroValue129, g1 := by kernel_rfl }
theorem lays_Lays_n146 : Lays.n146 Tryz.prog ren := { mixed := by kernel_rfl, f138 := by kernel_rfl, f143 := by kernel_rfl, f146 := by kernel_rfl, f195 := by kernel_rfl, f197 := by kernel_rfl, f217 := by kernel_rfl, f218 := by kernel_rfl, f219 := by kernel_rfl, f221 := by kernel_rfl, f224 := by kernel_rfl, f225 := by kernel_rfl, f260 := by kernel_rfl, f266 := by kernel_rfl, f267 := by kernel_rfl, f268 := by kernel_rfl, f314 := by kernel_rfl, t0 := Tryz.underlying0, a0 := Tryz.isAgg0, z0 := Tryz.sizeOf0, v0 := Tryz.zeroValue0, t3 := Tryz.underlying3, a3 := Tryz.isAgg3, z3 := Tryz.sizeOf3, v3 := Tryz.zeroValue3, t4 := Tryz.underlying4, a4 := Tryz.isAgg4, z4 := Tryz.sizeOf4, v4 := Tryz.zeroValue4, t5 := Tryz.underlying5, a5 := Tryz.isAgg5, z5 := Tryz.sizeOf5, v5 := Tryz.zeroValue5, t9 := Tryz.underlying9, a9 := Tryz.isAgg9, z9 := Tryz.sizeOf9, v9 := Tryz.zeroValue9, t21 := Tryz.underlying21, a21 := Tryz.isAgg21, z21 := Tryz.sizeOf21, v21 := Tryz.zeroValue21, t31 := Tryz.underlying51, a31 := Tryz.isAgg51, z31 := Tryz.sizeOf51, v31 := Tryz.zeroValue51, t46 := Tryz.underlying72, a46 := Tryz.isAgg72, z46 := Tryz.sizeOf72, v46 := Tryz.zeroValue72, t51 := Tryz.underlying59, a51 := Tryz.isAgg59, z51 := Tryz.sizeOf59, v51 := Tryz.zeroValue59, t105 := Tryz.underlying140, a105 := Tryz.isAgg140, z105 := Tryz.sizeOf140, v105 := Tryz.zeroValue140, t119 := Tryz.underlying154, a119 := Tryz.isAgg154, z119 := Tryz.sizeOf154, t138 := Tryz.underlying156, a138 := Tryz.isAgg156, z138 := Tryz.sizeOf156, v138 := Tryz.zeroValue156, t139 := Tryz.underlying157, a139 := Tryz.isAgg157, z139 := Tryz.sizeOf157, v139 := Tryz.zeroValue157, t146 := Tryz.underlying129, a146 := Tryz.isAgg129, z146 := Tryz.sizeOf129, v146 := Tryz.zeroValue129, g1 := by kernel_rfl, g3 := by kernel_rfl, g4 := by kernel_rfl }
theorem lays_Lays_n103 : Lays.n103 Tryz.prog ren := { mixed := by kernel_rfl, f103 := by kernel_rfl, f206 := by kernel_rfl, f210 := by kernel_rfl, t3 := Tryz.underlying3, a3 := Tryz.isAgg3, z3 := Tryz.sizeOf3, v3 := Tryz.zeroValue3, t4 := Tryz.underlying4, a4 := Tryz.isAgg4, z4 := Tryz.sizeOf4, v4 := Tryz.zeroValue4, t9 := Tryz.underlying9, a9 := Tryz.isAgg9, z9 := Tryz.sizeOf9, v9 := Tryz.zeroValue9, t24 := Tryz.underlying106, a24 := Tryz.isAgg106, z24 := Tryz.sizeOf106, v24 := Tryz.zeroValue106 }
theorem lays_Lays_n104 : Lays.n104 Tryz.prog ren := { mixed := by kernel_rfl, f104 := by kernel_rfl, f207 := by kernel_rfl, f211 := by kernel_rfl, t3 := Tryz.underlying3, a3 := Tryz.isAgg3, z3 := Tryz.sizeOf3, v3 := Tryz.zeroValue3, t4 := Tryz.underlying4, a4 := Tryz.isAgg4, z4 := Tryz.sizeOf4, v4 := Tryz.zeroValue4, t9 := Tryz.underlying9, a9 := Tryz.isAgg9, z9 := Tryz.sizeOf9, v9 := Tryz.zeroValue9, t24 := Tryz.underlying106, a24 := Tryz.isAgg106, z24 := Tryz.sizeOf106, v24 := Tryz.zeroValue106 }
theorem lays_Lays_n100 : Lays.n100 Tryz.prog ren := { mixed := by kernel_rfl, f100 := by kernel_rfl, f207 := by kernel_rfl, t3 := Tryz.underlying3, a3 := Tryz.isAgg3, z3 := Tryz.sizeOf3, v3 := Tryz.zeroValue3, t4 := Tryz.underlying4, a4 := Tryz.isAgg4, z4 := Tryz.sizeOf4, v4 := Tryz.zeroValue4, t9 := Tryz.underlying9, a9 := Tryz.isAgg9, z9 := Tryz.sizeOf9, v9 := Tryz.zeroValue9 }
theorem lays_Lays_n162 : Lays.n162 Tryz.prog ren := { mixed := by kernel_rfl, f119 := by kernel_rfl, f120 := by kernel_rfl, f137 := by kernel_rfl, f151 := by kernel_rfl, f152 := by kernel_rfl, f162 := by kernel_rfl, f197 := by kernel_rfl, f217 := by kernel_rfl, f224 := by kernel_rfl, f225 := by kernel_rfl, f227 := by kernel_rfl, f228 := by kernel_rfl, f232 := by kernel_rfl, f234 := by kernel_rfl, f236 := by kernel_rfl, f260 := by kernel_rfl, f266 := by kernel_rfl, f271 := by kernel_rfl, t0 := Tryz.underlying0, a0 := Tryz.isAgg0, z0 := Tryz.sizeOf0, v0 := Tryz.zeroValue0, t3 := Tryz.underlying3, a3 := Tryz.isAgg3, z3 := Tryz.sizeOf3, v3 := Tryz.zeroValue3, t4 := Tryz.underlying4, a4 := Tryz.isAgg4, z4 := Tryz.sizeOf4, v4 := Tryz.zeroValue4, t5 := Tryz.underlying5, a5 := Tryz.isAgg5, z5 := Tryz.sizeOf5, v5 := Tryz.zeroValue5, t9 := Tryz.underlying9, a9 := Tryz.isAgg9, z9 := Tryz.sizeOf9, v9 := Tryz.zeroValue9, t21 := Tryz.underlying21, a21 := Tryz.isAgg21, z21 := Tryz.sizeOf21, v21 := Tryz.zeroValue21, t46 := Tryz.underlying72, a46 := Tryz.isAgg72, z46 := Tryz.sizeOf72, v46 := Tryz.zeroValue72, t105 := Tryz.underlying140, a105 := Tryz.isAgg140, z105 := Tryz.sizeOf140, v105 := Tryz.zeroValue140, t116 := Tryz.underlying144, a116 := Tryz.isAgg144, z116 := Tryz.sizeOf144, t117 := Tryz.underlying145, a117 := Tryz.isAgg145, z117 := Tryz.sizeOf145, v117 := Tryz.zeroValue145, t119 := Tryz.underlying154, a119 := Tryz.isAgg154, z119 := Tryz.sizeOf154, t124 := Tryz.underlying148, a124 := Tryz.isAgg148, z124 := Tryz.sizeOf148, v124 := Tryz.zeroValue148, t138 := Tryz.underlying156, a138 := Tryz.isAgg156, z138 := Tryz.sizeOf156, v138 := Tryz.zeroValue156, t139 := Tryz.underlying157, a139 := Tryz.isAgg157, z139 := Tryz.sizeOf157, v139 := Tryz.zeroValue157, g3 := by kernel_rfl, g4 := by kernel_rfl }

def renW : Go.Shelf.Ren := ⟨fun | 15 => 67 | 17 => 50 | 20 => 78 | n => n, fun | 0 => 0 | 3 => 3 | 4 => 4 | 9 => 9 | 21 => 21 | 23 => 95 | n => n, fun | n => n⟩
theorem lays_LaysGw_n17 : LaysGw.n17 Tryz.prog renW := { mixed := by kernel_rfl, f15 := by kernel_rfl, f17 := by kernel_rfl, f20 := by kernel_rfl, t0 := Tryz.underlying0, a0 := Tryz.isAgg0, z0 := Tryz.sizeOf0, v0 := Tryz.zeroValue0, i0 := by kernel_rfl, t3 := Tryz.underlying3, a3 := Tryz.isAgg3, z3 := Tryz.sizeOf3, v3 := Tryz.zeroValue3, i3 := by kernel_rfl, t4 := Tryz.underlying4, a4 := Tryz.isAgg4, z4 := Tryz.sizeOf4, v4 := Tryz.zeroValue4, i4 := by kernel_rfl, t9 := Tryz.underlying9, a9 := Tryz.isAgg9, z9 := Tryz.sizeOf9, v9 := Tryz.zeroValue9, i9 := by kernel_rfl, t21 := Tryz.underlying21, a21 := Tryz.isAgg21, z21 := Tryz.sizeOf21, v21 := Tryz.zeroValue21, i21 := by kernel_rfl, t23 := Tryz.underlying95, a23 := Tryz.isAgg95, z23 := Tryz.sizeOf95, v23 := Tryz.zeroValue95, i23 := by kernel_rfl }

def Laid (W : World) : Prop := Lib.TabIs Tryz.prog W "internal/strconv.uint64pow10" .u64 Lib.pow10Tab
section
variable {B : Nat} {T0 : Nat → Prop} {μ0 : Gh} {w0 : World} {N : Nat} {μ : Gh} {lx : Nat → Option Nat} {a : Act} {w : World} {st : St}
theorem sim_drewN (h : Sim B T0 μ0 w0 N μ lx a w st) (k : Nat) : Sim B T0 μ0 w0 N μ lx a (w.drewN k) st := by
  induction k with
  | zero => exact h
  | succ k ih => exact ih.drew.1
theorem sim_grow (os : List Obj) : ∀ {w : World}, Sim B T0 μ0 w0 N μ lx a w st → Sim B T0 μ0 w0 N μ lx a (Go.Sort.grow w os.toArray) st := by
  induction os with
  | nil => exact fun h => by simpa using h
  | cons o r ih =>
    intro w h
    have := ih (h.alloc o)
    rw [Go.Sort.alloc_eq_grow, Go.Sort.grow_grow] at this
    simpa using this
end
noncomputable def itoaT : List AV → List (List AV) → Option (AV × List (List AV))
  | [.int .i64 n], s => need (-9223372036854775808 ≤ n ∧ n ≤ 9223372036854775807) (some (.str (Lib.itoa n), s))
  | _, _ => none
theorem itoa_ok {W0 : World} (hl : Laid W0) {xs : List AV} {s : List (List AV)} {r : AV} {s' : List (List AV)} (e : itoaT xs s = some (r, s')) : ACalls Tryz.prog W0.heap.size W0 36 xs s r s' := by
  unfold itoaT at e
  split at e
  · rename_i n
    obtain ⟨hn, e⟩ := need_eq e
    simp only [Option.some.injEq, Prod.mk.injEq] at e
    obtain ⟨rfl, rfl⟩ := e
    intro T μ w vs hsz hW hs
    obtain ⟨v, rfl, _⟩ := one_arg (B := 0) (T0 := T) (μ0 := μ) (w0 := w) (N := 1) (μ := μ) (lx := fun _ => none) (w := w) (x := .nilp) (s := []) hsz
    obtain rfl := rep_int (hs.tmp 0 (.int .i64 n) (by simp [params, look])).1
    have hw : Laid w := Lib.tabBelow_of_tabIs hl w hW
    refine (Any.strconv_Itoa lays_LaysM_n171 n hn.1 hn.2 w hw).mono ?_
    rintro e w' ⟨rfl, k, os, rfl⟩
    exact ⟨_, _, rfl, by have := (sim_grow os.toList (sim_drewN hs k)).text (Lib.itoa n); simpa using this⟩
  · cases e
end Go.Proofs.Tryz.Ai
end
section
/- Functions of the library, by the kit's contracts. -/
namespace Go.Proofs.Tryz.Ai
open Go Go.AI Go.RowKit Go.Proofs Go.Shelf
set_option linter.unusedVariables false

def IntAt (W : World) (g : Nat) : Prop := ∃ m, W.cell? ⟨g, 0, none⟩ = some (.int .i64 m)
def ErrAt (W : World) (g : Nat) : Prop := ∃ ev, W.cell? ⟨g, 0, none⟩ = some ev ∧ (ev = .nilIface ∨ ∃ te pe, ev = .iface te pe)
theorem IntAt.below {W0 w : World} {g : Nat} (h : IntAt W0 g) (hb : Below W0.heap.size W0 w) : IntAt w g := by
  obtain ⟨m, hm⟩ := h
  exact ⟨m, by rw [hb.cell (World.block_lt_of_cell? _ _ hm)]; exact hm⟩
theorem ErrAt.below {W0 w : World} {g : Nat} (h : ErrAt W0 g) (hb : Below W0.heap.size W0 w) : ErrAt w g := by
  obtain ⟨m, hm, hx⟩ := h
  exact ⟨m, by rw [hb.cell (World.block_lt_of_cell? _ _ hm)]; exact hm, hx⟩
/-- what a row lays, and what each world has -/
structure LaidAll (W : World) : Prop where
  tab : Laid W
  max : IntAt W 0
theorem maxLen_of {W : World} (h : W.ShapedOpen Tryz.prog) : IntAt W 0 :=
  cell_of_shapedOpen_int (t := 3) (zero := #[.int .i64 0]) h (by decide +kernel) (by kernel_rfl) rfl (by kernel_rfl) (by kernel_rfl) Tryz.underlying3
noncomputable def indexST : List AV → List (List AV) → Option (AV × List (List AV))
  | [.str l, .str m], s => need (l.length < 4294967281) (some (.int .i64 (Lib.index l m), s))
  | _, _ => none
theorem indexS_ok {W0 : World} (hl : LaidAll W0) {xs : List AV} {s : List (List AV)} {r : AV} {s' : List (List AV)} (e : indexST xs s = some (r, s')) : ACalls Tryz.prog W0.heap.size W0 99 xs s r s' := by
  unfold indexST at e
  split at e
  · rename_i l m
    obtain ⟨hn, e⟩ := need_eq e
    simp only [Option.some.injEq, Prod.mk.injEq] at e
    obtain ⟨rfl, rfl⟩ := e
    refine ACalls_ext fun w vs hsz hW hr => ?_
    obtain ⟨u, v, rfl⟩ := two_args (vs := vs) hsz
    obtain ⟨μ, h0⟩ := hr 0 (.str l) rfl
    obtain ⟨μ', h1⟩ := hr 1 (.str m) rfl
    obtain ⟨a, rfl, rfl⟩ := rep_str (h0.resolve_right (by simp [isTup]))
    obtain ⟨b, rfl, rfl⟩ := rep_str (h1.resolve_right (by simp [isTup]))
    obtain ⟨k, hk⟩ := hl.max.below hW
    refine (Any.stringslite_Index lays_Lays_n219 a b k w (by simpa using hn) hk).mono ?_
    rintro e w' ⟨rfl, rfl⟩
    exact ⟨_, rfl, AI.Told.int _ _, Below.refl _ _⟩
  · cases e
noncomputable def lastIndexT : List AV → List (List AV) → Option (AV × List (List AV))
  | [.str l, .str m], s => need (l.length < 4611686018427387904) (some (.int .i64 (Lib.lastIndex l m), s))
  | _, _ => none
theorem lastIndex_ok {W0 : World} {xs : List AV} {s : List (List AV)} {r : AV} {s' : List (List AV)} (e : lastIndexT xs s = some (r, s')) : ACalls Tryz.prog W0.heap.size W0 62 xs s r s' := by
  unfold lastIndexT at e
  split at e
  · rename_i l m
    obtain ⟨hn, e⟩ := need_eq e
    simp only [Option.some.injEq, Prod.mk.injEq] at e
    obtain ⟨rfl, rfl⟩ := e
    refine ACalls_ext fun w vs hsz hW hr => ?_
    obtain ⟨u, v, rfl⟩ := two_args (vs := vs) hsz
    obtain ⟨μ, h0⟩ := hr 0 (.str l) rfl
    obtain ⟨μ', h1⟩ := hr 1 (.str m) rfl
    obtain ⟨a, rfl, rfl⟩ := rep_str (h0.resolve_right (by simp [isTup]))
    obtain ⟨b, rfl, rfl⟩ := rep_str (h1.resolve_right (by simp [isTup]))
    refine (Any.strings_LastIndex lays_Lays_n148 a b (by simpa using hn) w).mono ?_
    rintro e w' ⟨rfl, rfl⟩
    exact ⟨_, rfl, AI.Told.int _ _, Below.refl _ _⟩
  · cases e
/-- parts that hang on no memory -/
theorem told_tup {vs : List Value} {cs : List AV} (hl : vs.length = cs.length) (h : ∀ (j : Nat) (c : AV), cs[j]? = some c → scal c = true ∧ ∀ (B : Nat) (μ : Gh) (w : World), Rep B μ w ((vs.toArray).getD j undef) c) : AI.Told (.tuple vs.toArray) (.tup cs) := by
  refine ⟨fun B μ w => ⟨.tup _ _ (by simpa using hl) fun j c hc => (h j c hc).2 B μ w, fun j c hc => ?_⟩, fun j => ?_, by simp⟩
  · have := (h j c hc).1
    cases c <;> first | trivial | (simp [scal] at this; done)
  · cases j with
    | none => rfl
    | some j =>
      simp only [ownV]
      cases hc : cs[j]? with
      | none => rfl
      | some c =>
        have := (h j c hc).1
        simp only [Option.bind_some]
        cases c <;> first | (simp [scal] at this; done) | (simp [exBlk]; done) | rfl
theorem rep_list (l : List UInt8) (B : Nat) (μ : Gh) (w : World) : Rep B μ w (.string ⟨l.toArray⟩) (.str l) := by
  have := Rep.str (B := B) (μ := μ) (w := w) ⟨l.toArray⟩; simpa using this
theorem told_ssb (a b : List UInt8) (c : Bool) : AI.Told (.tuple #[.string ⟨a.toArray⟩, .string ⟨b.toArray⟩, .bool c]) (.tup [.str a, .str b, .bool c]) :=
  told_tup (vs := [.string ⟨a.toArray⟩, .string ⟨b.toArray⟩, .bool c]) rfl fun j x hx => by
    match j, hx with
    | 0, hx => simp at hx; subst hx; exact ⟨rfl, rep_list a⟩
    | 1, hx => simp at hx; subst hx; exact ⟨rfl, rep_list b⟩
    | 2, hx => simp at hx; subst hx; exact ⟨rfl, fun _ _ _ => .bool _⟩
    | j + 3, hx => simp at hx
theorem told_sb (a : List UInt8) (c : Bool) : AI.Told (.tuple #[.string ⟨a.toArray⟩, .bool c]) (.tup [.str a, .bool c]) :=
  told_tup (vs := [.string ⟨a.toArray⟩, .bool c]) rfl fun j x hx => by
    match j, hx with
    | 0, hx => simp at hx; subst hx; exact ⟨rfl, rep_list a⟩
    | 1, hx => simp at hx; subst hx; exact ⟨rfl, fun _ _ _ => .bool _⟩
    | j + 2, hx => simp at hx
/-- a function of two texts, by a contract -/
theorem ACalls_two {B : Nat} {W0 : World} {f : FuncId} {l m : List UInt8} {s : List (List AV)} {r : AV}
    (h : ∀ (w : World) (a b : ByteArray), a.data.toList = l → b.data.toList = m → Below B W0 w → Calls Tryz.prog f #[.string a, .string b] w fun e w' => ∃ v, e = .returned v ∧ AI.Told v r ∧ Below w.heap.size w w') : ACalls Tryz.prog B W0 f [.str l, .str m] s r s := by
  refine ACalls_ext fun w vs hsz hW hr => ?_
  obtain ⟨u, v, rfl⟩ := two_args (vs := vs) hsz
  obtain ⟨μ, h0⟩ := hr 0 (.str l) rfl
  obtain ⟨μ', h1⟩ := hr 1 (.str m) rfl
  obtain ⟨a, rfl, ha⟩ := rep_str (h0.resolve_right (by simp [isTup]))
  obtain ⟨b, rfl, hb⟩ := rep_str (h1.resolve_right (by simp [isTup]))
  exact h w a b ha hb hW
theorem bsz (m : List UInt8) : (⟨m.toArray⟩ : ByteArray).size = m.length := by show m.toArray.size = m.length; simp
theorem blw (w : World) (n : Nat) : Below w.heap.size w (w.drewN n) := ⟨rfl, rfl, rfl, Nat.le_refl _, fun _ _ => rfl⟩
noncomputable def cutT : List AV → List (List AV) → Option (AV × List (List AV))
  | [.str l, .str m], s => need (l.length < 4294967281) (some (.tup [.str (Lib.cut l m).1, .str (Lib.cut l m).2.1, .bool (Lib.cut l m).2.2], s))
  | _, _ => none
theorem cut_ok {W0 : World} (hl : LaidAll W0) {xs : List AV} {s : List (List AV)} {r : AV} {s' : List (List AV)} (e : cutT xs s = some (r, s')) : ACalls Tryz.prog W0.heap.size W0 76 xs s r s' := by
  unfold cutT at e
  split at e
  · rename_i l m
    obtain ⟨hn, e⟩ := need_eq e
    simp only [Option.some.injEq, Prod.mk.injEq] at e
    obtain ⟨rfl, rfl⟩ := e
    refine ACalls_two fun w a b ha hb hW => ?_
    subst ha hb
    obtain ⟨k, hk⟩ := hl.max.below hW
    refine (Any.strings_Cut lays_Lays_n145 a b k w (by simpa using hn) hk).mono ?_
    rintro e w' ⟨rfl, n, rfl⟩
    exact ⟨_, rfl, told_ssb _ _ _, blw w n⟩
  · cases e
noncomputable def splitT : List AV → List (List AV) → Option (AV × List (List AV))
  | [.str l, .str m], s => need (l.length < 4294967281 ∧ 1 ≤ m.length) (some (.sl (.ex 9 1) ((Lib.split l m).map .str), s))
  | _, _ => none
theorem split_ok {W0 : World} (hl : LaidAll W0) {xs : List AV} {s : List (List AV)} {r : AV} {s' : List (List AV)} (e : splitT xs s = some (r, s')) : ACalls Tryz.prog W0.heap.size W0 63 xs s r s' := by
  unfold splitT at e
  split at e
  · rename_i l m
    obtain ⟨⟨hn, h1⟩, e⟩ := need_eq e
    simp only [Option.some.injEq, Prod.mk.injEq] at e
    obtain ⟨rfl, rfl⟩ := e
    have hlen : (Lib.split l m).length = Lib.countB ⟨l.toArray⟩ ⟨m.toArray⟩ + 1 := by
      have e1 := Lib.splitB_all ⟨m.toArray⟩ (by rw [bsz]; exact h1) 0 _ ⟨l.toArray⟩ rfl
      have e2 := Lib.splitB_data ⟨m.toArray⟩ 0 (Lib.countB ⟨l.toArray⟩ ⟨m.toArray⟩) ⟨l.toArray⟩
      rw [← e1, ← List.length_map (f := fun x : ByteArray => x.data.toList), e2]
      rfl
    have hle := Lib.countB_le ⟨m.toArray⟩ (by rw [bsz]; exact h1) l.length ⟨l.toArray⟩ (by rw [bsz]; omega)
    refine ACalls_strs (by rw [bsz] at hle; rw [hlen]; unfold maxLen; omega) fun w vs hsz hW hr => ?_
    obtain ⟨u, v, rfl⟩ := two_args (vs := vs) hsz
    obtain ⟨μ, h0⟩ := hr 0 (.str l) rfl
    obtain ⟨μ', h1'⟩ := hr 1 (.str m) rfl
    obtain ⟨a, rfl, rfl⟩ := rep_str (h0.resolve_right (by simp [isTup]))
    obtain ⟨b, rfl, rfl⟩ := rep_str (h1'.resolve_right (by simp [isTup]))
    obtain ⟨k, hk⟩ := hl.max.below hW
    refine (Any.strings_Split lays_Lays_n146 (by kernel_rfl) a b k w (by simpa using hn) hk (by simpa using h1)).mono ?_
    rintro e w' ⟨rfl, rfl⟩
    have e2 := Lib.splitB_data b 0 (Lib.countB a b) a
    have e3 : Lib.split a.data.toList b.data.toList = (Lib.splitB b 0 (Lib.countB a b) a).map (·.data.toList) := by rw [e2]; rfl
    refine ⟨by rw [hlen], ?_⟩
    congr 2
    rw [e3, List.map_map]
    apply congrArg
    apply List.map_congr_left
    intro x _
    rfl
  · cases e
noncomputable def cutPrefixT : List AV → List (List AV) → Option (AV × List (List AV))
  | [.str l, .str m], s => some (.tup [.str (Lib.trimPrefix l m), .bool (Lib.hasPrefix l m)], s)
  | _, _ => none
theorem cutPrefix_ok {W0 : World} {xs : List AV} {s : List (List AV)} {r : AV} {s' : List (List AV)} (e : cutPrefixT xs s = some (r, s')) : ACalls Tryz.prog W0.heap.size W0 75 xs s r s' := by
  unfold cutPrefixT at e
  split at e
  · simp only [Option.some.injEq, Prod.mk.injEq] at e
    obtain ⟨rfl, rfl⟩ := e
    refine ACalls_two fun w a b ha hb hW => ?_
    subst ha hb
    refine (Any.strings_CutPrefix lays_Lays_n103 a b w).mono ?_
    rintro e w' ⟨rfl, rfl⟩
    exact ⟨_, rfl, told_sb _ _, Below.refl _ _⟩
  · cases e
noncomputable def cutSuffixT : List AV → List (List AV) → Option (AV × List (List AV))
  | [.str l, .str m], s => need (l.length ≤ 9223372036854775807) (some (.tup [.str (Lib.trimSuffix l m), .bool (Lib.hasSuffix l m)], s))
  | _, _ => none
theorem cutSuffix_ok {W0 : World} {xs : List AV} {s : List (List AV)} {r : AV} {s' : List (List AV)} (e : cutSuffixT xs s = some (r, s')) : ACalls Tryz.prog W0.heap.size W0 61 xs s r s' := by
  unfold cutSuffixT at e
  split at e
  · obtain ⟨hn, e⟩ := need_eq e
    simp only [Option.some.injEq, Prod.mk.injEq] at e
    obtain ⟨rfl, rfl⟩ := e
    refine ACalls_two fun w a b ha hb hW => ?_
    subst ha hb
    refine (Any.strings_CutSuffix lays_Lays_n104 a b w (by simpa using hn)).mono ?_
    rintro e w' ⟨rfl, rfl⟩
    exact ⟨_, rfl, told_sb _ _, Below.refl _ _⟩
  · cases e
noncomputable def hasSuffixT : List AV → List (List AV) → Option (AV × List (List AV))
  | [.str l, .str m], s => need (l.length ≤ 9223372036854775807) (some (.bool (Lib.hasSuffix l m), s))
  | _, _ => none
theorem hasSuffix_ok {W0 : World} {xs : List AV} {s : List (List AV)} {r : AV} {s' : List (List AV)} (e : hasSuffixT xs s = some (r, s')) : ACalls Tryz.prog W0.heap.size W0 49 xs s r s' := by
  unfold hasSuffixT at e
  split at e
  · obtain ⟨hn, e⟩ := need_eq e
    simp only [Option.some.injEq, Prod.mk.injEq] at e
    obtain ⟨rfl, rfl⟩ := e
    refine ACalls_two fun w a b ha hb hW => ?_
    subst ha hb
    refine (Any.strings_HasSuffix lays_Lays_n100 a b w (by simpa using hn)).mono ?_
    rintro e w' ⟨rfl, rfl⟩
    exact ⟨_, rfl, AI.Told.bool _, Below.refl _ _⟩
  · cases e
noncomputable def trimRightT : List AV → List (List AV) → Option (AV × List (List AV))
  | [.str l, .str [c]], s => need (l.length ≤ 9223372036854775807 ∧ c.toNat < 128) (some (.str (Lib.trimRightB l c), s))
  | _, _ => none
theorem trimRight_ok {W0 : World} {xs : List AV} {s : List (List AV)} {r : AV} {s' : List (List AV)} (e : trimRightT xs s = some (r, s')) : ACalls Tryz.prog W0.heap.size W0 89 xs s r s' := by
  unfold trimRightT at e
  split at e
  · rename_i l c
    obtain ⟨⟨hn, hc⟩, e⟩ := need_eq e
    simp only [Option.some.injEq, Prod.mk.injEq] at e
    obtain ⟨rfl, rfl⟩ := e
    refine ACalls_two fun w a b ha hb hW => ?_
    subst ha
    obtain rfl : b = ⟨#[c]⟩ := by obtain ⟨⟨b⟩⟩ := b; simp at hb; subst hb; rfl
    refine (Any.strings_TrimRight_one lays_Lays_n162 a c hc w (by simpa using hn)).mono ?_
    rintro e w' ⟨rfl, rfl⟩
    exact ⟨_, rfl, AI.Told.str _, Below.refl _ _⟩
  · cases e
/-- what a predicate without captures says of a rune -/
noncomputable def predOf (H : FuncId → Hint) (g : FuncId) (x : Nat) : Option Bool :=
  match EV Tryz.prog H (fun _ => none) g [.int .i32 x] [] with
  | some (.bool b, _) => some b
  | _ => none
noncomputable def containsFuncT (H : FuncId → Hint) : List AV → List (List AV) → Option (AV × List (List AV))
  | [.str l, .fn g []], s => need (AI.base g = g ∧ ∀ x, x ≤ 1114111 → (predOf H g x).isSome = true) (some (.bool (decide (0 ≤ Lib.idxFunc (fun x => (predOf H g x).getD false) true ⟨l.toArray⟩)), s))
  | _, _ => none
theorem containsFunc_ok {W0 : World} {H : FuncId → Hint} {xs : List AV} {s : List (List AV)} {r : AV} {s' : List (List AV)} (e : containsFuncT H xs s = some (r, s')) : ACalls Tryz.prog W0.heap.size W0 50 xs s r s' := by
  unfold containsFuncT at e
  split at e
  · rename_i l g
    obtain ⟨⟨hb, hp⟩, e⟩ := need_eq e
    simp only [Option.some.injEq, Prod.mk.injEq] at e
    obtain ⟨rfl, rfl⟩ := e
    refine ACalls_ext fun w vs hsz hW hr => ?_
    obtain ⟨u, v, rfl⟩ := two_args (vs := vs) hsz
    obtain ⟨μ, h0⟩ := hr 0 (.str l) rfl
    obtain ⟨μ', h1⟩ := hr 1 (.fn g []) rfl
    obtain ⟨a, rfl, rfl⟩ := rep_str (h0.resolve_right (by simp [isTup]))
    have h1 := h1.resolve_right (by simp [isTup])
    have hv : (#[Value.string a, v] : Array Value).getD 1 undef = v := rfl
    rw [hv] at h1
    cases h1 with
    | fn _ vs _ hl _ _ =>
      have hvs : vs = #[] := by apply Array.eq_empty_of_size_eq_zero; simpa using hl
      subst hvs
      have hev : ∀ x : Nat, x ≤ 1114111 → ∃ b s', EV Tryz.prog H (fun _ => none) g [.int .i32 x] [] = some (.bool b, s') ∧ (predOf H g x).getD false = b := by
        intro x hx
        have := hp x hx
        unfold predOf at this ⊢
        cases hq : EV Tryz.prog H (fun _ => none) g [.int .i32 x] [] with
        | none => rw [hq] at this; cases this
        | some r =>
          obtain ⟨v, s'⟩ := r
          rw [hq] at this
          cases v with
          | bool b => exact ⟨b, s', rfl, rfl⟩
          | _ => cases this
      have hent : AI.Enters Tryz.prog g := by
        obtain ⟨b, s', h, _⟩ := hev 0 (by decide)
        have := (EV_sound (B := 0) (W0 := w) (P := Tryz.prog) (H := H) (T := fun _ => none) (fun _ _ h => by cases h) (fun _ _ => draw_sound (by kernel_rfl)) _ _ _ _ _ h).1
        rw [hb] at this; exact this
      refine (Any.strings_ContainsFunc_grows lays_LaysGw_n17 g #[] (fun args w => run_callFunc hent args w) (fun x => (predOf H g x).getD false) a w (fun W x hx hbel => ?_)).mono ?_
      · obtain ⟨b, s', h, hq⟩ := hev x hx
        show Calls _ _ _ _ fun e w' => e = .returned (.bool ((predOf H g x).getD false)) ∧ _
        rw [hq]
        refine (Go.AI.top (vs := #[.int .i32 x]) (by kernel_rfl) hb (T := fun _ => none) (fun _ _ h => by cases h) (by rfl) (fun j c hc => ?_) h).mono fun e w' hh => hh
        match j, hc with
        | 0, hc => simp at hc; subst hc; exact ⟨.int _ _, rfl, rfl⟩
        | j + 1, hc => simp at hc
      · rintro e w' ⟨rfl, hbw⟩
        exact ⟨_, rfl, AI.Told.bool _, hbw⟩
  · cases e
end Go.Proofs.Tryz.Ai
end
section
/- The table of this seat: the functions that are not evaluated by their own code. -/
namespace Go.Proofs.Tryz.Ai
open Go Go.AI Go.RowKit Go.Proofs
set_option linter.unusedVariables false

noncomputable def T : Table
  | 52 => some copyCheckT
  | 29 => some stringT
  | 105 => some indexT
  | 85 => some countT
  | 36 => some itoaT
  | 99 => some indexST
  | 62 => some lastIndexT
  | 76 => some cutT
  | 63 => some splitT
  | 75 => some cutPrefixT
  | 61 => some cutSuffixT
  | 49 => some hasSuffixT
  | 89 => some trimRightT
  | 50 => some (containsFuncT H)
  | _ => none

theorem enters_copyCheck : AI.Enters Tryz.prog 52 := ⟨_, Tryz.func52, by kernel_rfl, by kernel_rfl⟩
theorem enters_String : AI.Enters Tryz.prog 29 := ⟨_, Tryz.func29, by kernel_rfl, by kernel_rfl⟩
theorem enters_index : AI.Enters Tryz.prog 105 := ⟨_, Tryz.func105, by kernel_rfl, by kernel_rfl⟩
theorem enters_count : AI.Enters Tryz.prog 85 := ⟨_, Tryz.func85, by kernel_rfl, by kernel_rfl⟩
theorem enters_Itoa : AI.Enters Tryz.prog 36 := ⟨_, Tryz.func36, by kernel_rfl, by kernel_rfl⟩

theorem T_ok {W0 : World} (hl : LaidAll W0) : TableOk Tryz.prog W0.heap.size W0 T := by
  intro f p hf xs s r s' e
  unfold T at hf
  split at hf
  · injection hf with hf; subst hf; exact ⟨enters_copyCheck, copyCheck_ok e⟩
  · injection hf with hf; subst hf; exact ⟨enters_String, string_ok e⟩
  · injection hf with hf; subst hf; exact ⟨enters_index, index_ok e⟩
  · injection hf with hf; subst hf; exact ⟨enters_count, count_ok e⟩
  · injection hf with hf; subst hf; exact ⟨enters_Itoa, itoa_ok hl.tab e⟩
  · injection hf with hf; subst hf; exact ⟨⟨_, Tryz.func99, by kernel_rfl, by kernel_rfl⟩, indexS_ok hl e⟩
  · injection hf with hf; subst hf; exact ⟨⟨_, Tryz.func62, by kernel_rfl, by kernel_rfl⟩, lastIndex_ok e⟩
  · injection hf with hf; subst hf; exact ⟨⟨_, Tryz.func76, by kernel_rfl, by kernel_rfl⟩, cut_ok hl e⟩
  · injection hf with hf; subst hf; exact ⟨⟨_, Tryz.func63, by kernel_rfl, by kernel_rfl⟩, split_ok hl e⟩
  · injection hf with hf; subst hf; exact ⟨⟨_, Tryz.func75, by kernel_rfl, by kernel_rfl⟩, cutPrefix_ok e⟩
  · injection hf with hf; subst hf; exact ⟨⟨_, Tryz.func61, by kernel_rfl, by kernel_rfl⟩, cutSuffix_ok e⟩
  · injection hf with hf; subst hf; exact ⟨⟨_, Tryz.func49, by kernel_rfl, by kernel_rfl⟩, hasSuffix_ok e⟩
  · injection hf with hf; subst hf; exact ⟨⟨_, Tryz.func89, by kernel_rfl, by kernel_rfl⟩, trimRight_ok e⟩
  · injection hf with hf; subst hf; exact ⟨⟨_, Tryz.func50, by kernel_rfl, by kernel_rfl⟩, containsFunc_ok e⟩
  · cases hf

noncomputable abbrev ev : Oracle := EV Tryz.prog H T

theorem ev_copyCheck (xs : List AV) (s : List (List AV)) : ev 52 xs s = copyCheckT xs s := EV_table rfl xs s
theorem ev_String (xs : List AV) (s : List (List AV)) : ev 29 xs s = stringT xs s := EV_table rfl xs s
theorem ev_index (xs : List AV) (s : List (List AV)) : ev 105 xs s = indexT xs s := EV_table rfl xs s
theorem ev_count (xs : List AV) (s : List (List AV)) : ev 85 xs s = countT xs s := EV_table rfl xs s
theorem ev_Itoa (xs : List AV) (s : List (List AV)) : ev 36 xs s = itoaT xs s := EV_table rfl xs s
theorem ev_indexS (xs : List AV) (s : List (List AV)) : ev 99 xs s = indexST xs s := EV_table rfl xs s
theorem ev_LastIndex (xs : List AV) (s : List (List AV)) : ev 62 xs s = lastIndexT xs s := EV_table rfl xs s
theorem ev_Cut (xs : List AV) (s : List (List AV)) : ev 76 xs s = cutT xs s := EV_table rfl xs s
theorem ev_Split (xs : List AV) (s : List (List AV)) : ev 63 xs s = splitT xs s := EV_table rfl xs s
theorem ev_CutPrefix (xs : List AV) (s : List (List AV)) : ev 75 xs s = cutPrefixT xs s := EV_table rfl xs s
theorem ev_CutSuffix (xs : List AV) (s : List (List AV)) : ev 61 xs s = cutSuffixT xs s := EV_table rfl xs s
theorem ev_HasSuffix (xs : List AV) (s : List (List AV)) : ev 49 xs s = hasSuffixT xs s := EV_table rfl xs s
theorem ev_TrimRight (xs : List AV) (s : List (List AV)) : ev 89 xs s = trimRightT xs s := EV_table rfl xs s
theorem ev_ContainsFunc (xs : List AV) (s : List (List AV)) : ev 50 xs s = containsFuncT H xs s := EV_table rfl xs s
end Go.Proofs.Tryz.Ai
end
section
/- strings.Builder, walked over its table entries. -/
namespace Go.Proofs.Tryz.Ai
open Go Go.AI Go.Proofs
set_option maxHeartbeats 1000000
set_option linter.unusedVariables false

/-- a Builder's box: fresh, or with a text -/
def bc (b : Nat) : Option (List UInt8) → List AV
  | none => [.nilp, .sl .nil []]
  | some l => [.gp b 0 (some (SB, 2)), .sl (.ex U8 1) (l.map .u8)]
/-- after its text was taken -/
def bs (b : Nat) : Option (List UInt8) → List AV
  | none => [.nilp, .sl .nil []]
  | some l => [.gp b 0 (some (SB, 2)), .sl .sh (l.map .u8)]
def txt (o : Option (List UInt8)) : List UInt8 := o.getD []
@[simp] theorem txt_some (l : List UInt8) : txt (some l) = l := rfl
@[simp] theorem txt_none : txt none = [] := rfl
@[simp] theorem bc_lowL (b : Nat) (o : Option (List UInt8)) (n : Nat) : lowL n (bc b o) ↔ o = none ∨ b < n := by cases o <;> simp [bc]
@[simp] theorem bs_lowL (b : Nat) (o : Option (List UInt8)) (n : Nat) : lowL n (bs b o) ↔ o = none ∨ b < n := by cases o <;> simp [bs]

theorem one_most : 1 ≤ most := by unfold most; omega

theorem WriteByte_b (b : Nat) (σ : List (List AV)) (o : Option (List UInt8)) (hl : (txt o).length + 1 ≤ most) (c : UInt8) (hb : σ[b]? = some (bc b o)) :
    ev 53 [.gp b 0 (some (SB, 2)), .u8 c] σ = some (.nili, σ.set b (bc b (some (txt o ++ [c])))) := by
  have hlt : b < σ.length := (List.getElem?_eq_some_iff.1 hb).1
  have h1 := one_most
  refine EV_post rfl Tryz.func53 rfl (by simp [Tryz.ntmps53]) (by kernel_rfl) (by kernel_rfl) ?_
  cases o with
  | none =>
    simp only [bc] at hb ⊢
    simp (maxSteps := 4000000) (disch := omega) [dT, dF, wrap64, -getElem?_pos, List.getElem?_cons_zero, List.getElem?_cons_succ, List.getElem?_set, ev_copyCheck, copyCheckT, hb, hlt, Tryz.results53, h1, SB, U8]
  | some l =>
    simp only [bc, txt_some] at hb hl ⊢
    simp (maxSteps := 4000000) (disch := omega) [dT, dF, wrap64, -getElem?_pos, List.getElem?_cons_zero, List.getElem?_cons_succ, List.getElem?_set, ev_copyCheck, copyCheckT, hb, hlt, Tryz.results53, hl, SB, U8]
theorem WriteByte_eq (σ τ : List (List AV)) (o : Option (List UInt8)) (hl : (txt o).length + 1 ≤ most) (c : UInt8) :
    ev 53 [.gp σ.length 0 (some (SB, 2)), .u8 c] (σ ++ bc σ.length o :: τ) = some (.nili, σ ++ bc σ.length (some (txt o ++ [c])) :: τ) := by
  have := WriteByte_b σ.length (σ ++ bc σ.length o :: τ) o hl c (by simp)
  rw [this]; simp
theorem WriteString_b (b : Nat) (σ : List (List AV)) (o : Option (List UInt8)) (m : List UInt8) (hl : (txt o).length + m.length ≤ most) (hb : σ[b]? = some (bc b o)) :
    ev 27 [.gp b 0 (some (SB, 2)), .str m] σ = some (.tup [.int .i64 m.length, .nili], σ.set b (bc b (some (txt o ++ m)))) := by
  have hlt : b < σ.length := (List.getElem?_eq_some_iff.1 hb).1
  have h1 : m.length ≤ most := by omega
  refine EV_post rfl Tryz.func27 rfl (by simp [Tryz.ntmps27]) (by kernel_rfl) (by kernel_rfl) ?_
  cases o with
  | none =>
    simp only [bc, txt_none] at hb hl ⊢
    simp (maxSteps := 4000000) (disch := omega) [dT, dF, wrap64, -getElem?_pos, List.getElem?_cons_zero, List.getElem?_cons_succ, List.getElem?_set, ev_copyCheck, copyCheckT, hb, hlt, Tryz.results27, h1, SB, U8]
  | some l =>
    simp only [bc, txt_some] at hb hl ⊢
    simp (maxSteps := 4000000) (disch := omega) [dT, dF, wrap64, -getElem?_pos, List.getElem?_cons_zero, List.getElem?_cons_succ, List.getElem?_set, ev_copyCheck, copyCheckT, hb, hlt, Tryz.results27, hl, SB, U8]
theorem WriteString_eq (σ τ : List (List AV)) (o : Option (List UInt8)) (m : List UInt8) (hl : (txt o).length + m.length ≤ most) :
    ev 27 [.gp σ.length 0 (some (SB, 2)), .str m] (σ ++ bc σ.length o :: τ) = some (.tup [.int .i64 m.length, .nili], σ ++ bc σ.length (some (txt o ++ m)) :: τ) := by
  have := WriteString_b σ.length (σ ++ bc σ.length o :: τ) o m hl (by simp)
  rw [this]; simp
theorem bytesOf_map (l : List UInt8) : bytesOf (l.map .u8) = some l := by
  induction l with
  | nil => rfl
  | cons x r ih => simp only [List.map_cons, AV.u8] at ih ⊢; unfold bytesOf; simp [ih]
theorem String_b (b : Nat) (σ : List (List AV)) (o : Option (List UInt8)) (hb : σ[b]? = some (bc b o)) :
    ev 29 [.gp b 0 (some (SB, 2))] σ = some (.str (txt o), σ.set b (bs b o)) := by
  show ev 29 _ _ = _
  rw [ev_String]
  cases o with
  | none =>
    simp only [bc, bs, txt_none] at hb ⊢
    have : σ.set b [AV.nilp, .sl .nil []] = σ := by
      apply List.ext_getElem?; intro i; rw [List.getElem?_set]
      split
      · rename_i e; subst e; rw [hb]; simp [(List.getElem?_eq_some_iff.1 hb).1]
      · rfl
    rw [this]
    simp [-getElem?_pos, stringT, hb]
  | some l =>
    simp only [bc, bs, txt_some] at hb ⊢
    simp [-getElem?_pos, -AV.u8, stringT, hb, bytesOf_map, bnd]
theorem String_eq (σ τ : List (List AV)) (o : Option (List UInt8)) :
    ev 29 [.gp σ.length 0 (some (SB, 2))] (σ ++ bc σ.length o :: τ) = some (.str (txt o), σ ++ bs σ.length o :: τ) := by
  have := String_b σ.length (σ ++ bc σ.length o :: τ) o (by simp)
  rw [this]; simp
end Go.Proofs.Tryz.Ai
end
section
/- strconv.Itoa of small numbers; strings.Repeat of two zeros. -/
namespace Go.Proofs.Tryz.Ai
open Go Go.AI Go.Proofs
set_option maxHeartbeats 2000000
set_option linter.unusedVariables false

theorem digs : ∀ n : Nat, n < 10 → (List.take (n + 1) ([48, 49, 50, 51, 52, 53, 54, 55, 56, 57, 97, 98, 99, 100, 101, 102, 103, 104, 105, 106, 107, 108, 109, 110, 111, 112, 113, 114, 115, 116, 117, 118, 119, 120, 121, 122] : List UInt8)).drop n = [UInt8.ofNat (48 + n)] := by decide
theorem small_eq (n : Nat) (h : n < 10) (σ) : ev 79 [.int .i64 n] σ = some (.str [UInt8.ofNat (48 + n)], σ) := by
  refine EV_post rfl Tryz.func79 rfl (by simp [Tryz.ntmps79]) (by kernel_rfl) (by kernel_rfl) ?_
  have h1 : (n : Int) < 10 := by omega
  have h2 := digs n h
  dsimp only at h2
  have h6 : (0 : Int) ≤ (n : Int) + 1 := by omega
  have h3 : n ≤ 36 := by omega
  have h4 : n + 1 ≤ 36 := by omega
  have h5 : n < 36 := by omega
  simp (maxSteps := 4000000) (disch := omega) [dT, dF, wrap64, h1, h2, h3, h4, h5, h6, -List.take_succ_cons, Tryz.results79]
theorem Itoa_dig (n : Nat) (h : n < 10) (σ) : ev 36 [.int .i64 n] σ = some (.str [UInt8.ofNat (48 + n)], σ) := by
  rw [ev_Itoa]
  have : Lib.itoa (n : Int) = [UInt8.ofNat (48 + n)] := by unfold Lib.itoa; rw [if_neg (by omega), Int.toNat_natCast, Lib.decDigits_one h]
  simp only [itoaT]
  rw [need_of (by omega), this]
end Go.Proofs.Tryz.Ai
end
section
/- Comparisons of numbers with literals. -/
namespace Go.AI
@[simp] theorem cast_le_lit {n k : Nat} : ((n : Int) ≤ (no_index (OfNat.ofNat k) : Int)) ↔ n ≤ k := by
  show (n : Int) ≤ (k : Int) ↔ n ≤ k; omega
@[simp] theorem lit_le_cast {n k : Nat} : ((no_index (OfNat.ofNat k) : Int) ≤ (n : Int)) ↔ k ≤ n := by
  show (k : Int) ≤ (n : Int) ↔ k ≤ n; omega
@[simp] theorem cast_lt_lit {n k : Nat} : ((n : Int) < (no_index (OfNat.ofNat k) : Int)) ↔ n < k := by
  show (n : Int) < (k : Int) ↔ n < k; omega
@[simp] theorem lit_lt_cast {n k : Nat} : ((no_index (OfNat.ofNat k) : Int) < (n : Int)) ↔ k < n := by
  show (k : Int) < (n : Int) ↔ k < n; omega
@[simp] theorem cast_eq_lit {n k : Nat} : ((n : Int) = (no_index (OfNat.ofNat k) : Int)) ↔ n = k := by
  show (n : Int) = (k : Int) ↔ n = k; omega
@[simp] theorem lit_eq_cast {n k : Nat} : ((no_index (OfNat.ofNat k) : Int) = (n : Int)) ↔ k = n := by
  show (k : Int) = (n : Int) ↔ k = n; omega
@[simp] theorem nonneg_add_lit {n k : Nat} : (0 ≤ (n : Int) + (no_index (OfNat.ofNat k) : Int)) ↔ True := by
  show 0 ≤ (n : Int) + (k : Int) ↔ True; constructor; intro _; trivial; intro _; omega
@[simp] theorem nonneg_add_cast {n k : Nat} : (0 ≤ (n : Int) + (k : Int)) ↔ True := by constructor; intro _; trivial; intro _; omega
@[simp] theorem neg_add_lit {n k : Nat} : ((n : Int) + (no_index (OfNat.ofNat k) : Int) < 0) ↔ False := by
  show (n : Int) + (k : Int) < 0 ↔ False; constructor; intro _; omega; intro h; cases h
@[simp] theorem neg_add_cast {n k : Nat} : ((n : Int) + (k : Int) < 0) ↔ False := by constructor; intro _; omega; intro h; cases h
@[simp] theorem toNat_add_lit {n k : Nat} : ((n : Int) + (no_index (OfNat.ofNat k) : Int)).toNat = n + k := by
  show ((n : Int) + (k : Int)).toNat = n + k; omega
@[simp] theorem toNat_add_cast {n k : Nat} : ((n : Int) + (k : Int)).toNat = n + k := by omega
@[simp] theorem cast_inj' {n k : Nat} : ((n : Int) = (k : Int)) ↔ n = k := by omega
@[simp] theorem cast_lt' {n k : Nat} : ((n : Int) < (k : Int)) ↔ n < k := by omega
@[simp] theorem cast_le' {n k : Nat} : ((n : Int) ≤ (k : Int)) ↔ n ≤ k := by omega
@[simp] theorem u8_inj {n k : UInt8} : n.toNat = k.toNat ↔ n = k := UInt8.toNat_inj
@[simp] theorem u8_lit {a : UInt8} {k : Nat} (h : k < 256) : a.toNat = (no_index (OfNat.ofNat k)) ↔ a = UInt8.ofNat k := by
  show a.toNat = k ↔ _
  constructor
  · intro e; apply UInt8.toNat_inj.1; rw [e]; simp; omega
  · intro e; rw [e]; simp; omega
@[simp] theorem u8_beq {a b : UInt8} : (a == b) = decide (a = b) := by
  by_cases h : a = b <;> simp [h]
end Go.AI
end
section
/- tlog's numbers: places in the stored order. -/
namespace Go.Proofs.Tryz.Ai
open Go Go.AI Go.Proofs
set_option maxHeartbeats 400000

def stF : Nat → Nat → Nat
  | 0, _ => 0
  | f + 1, n => if n = 0 then 0 else n + stF f (n / 2)
def storedN (n : Nat) : Nat := stF 64 n
theorem stF_le (f n : Nat) : stF f n ≤ 2 * n := by
  induction f generalizing n with
  | zero => simp [stF]
  | succ f ih => rw [stF]; split; omega; have := ih (n / 2); omega
theorem stF_succ (f n : Nat) : stF (f + 1) n = if n = 0 then 0 else n + stF f (n / 2) := rfl
theorem stF_fuel (f n : Nat) (h : n < 2 ^ f) : stF (f + 1) n = stF f n := by
  induction f generalizing n with
  | zero => simp at h; subst h; rfl
  | succ f ih =>
    rw [stF_succ (f + 1) n, stF_succ f n]
    split
    · rfl
    · rw [ih (n / 2) (by rw [Nat.pow_succ] at h; omega)]
theorem storedN_le (n : Nat) : storedN n ≤ 2 * n := stF_le 64 n
theorem storedN_step (n : Nat) (h0 : n ≠ 0) (h : n < 2 ^ 60) : storedN n = n + storedN (n / 2) := by
  show stF 64 n = n + stF 64 (n / 2)
  rw [stF, if_neg h0, stF_fuel 63 (n / 2) (Nat.lt_of_le_of_lt (Nat.div_le_self n 2) (Nat.lt_trans h (by decide)))]
theorem storedN_zero : storedN 0 = 0 := rfl

theorem Num_eq (e : Int) (σ) : ev 13 [.int .i64 e] σ = some (.int .i64 e, σ) := by
  refine EV_post rfl Tryz.func13 rfl (by simp [Tryz.ntmps13]) (by kernel_rfl) (by kernel_rfl) ?_
  simp [Tryz.results13]
end Go.Proofs.Tryz.Ai
end
section
/- SHA-256: words turned; a block's numbers. -/
namespace Go.Proofs.Tryz.Ai
open Go Go.AI Go.Proofs
set_option maxHeartbeats 400000

def wor (a b : Int) : Int := bits .or .u32 a b
def wxor (a b : Int) : Int := bits .xor .u32 a b
def wand (a b : Int) : Int := bits .and .u32 a b
def wnot (a : Int) : Int := bits .xor .u32 4294967295 a
def wadd (a b : Int) : Int := IntKind.u32.wrap (a + b)
/-- a word turned to the right -/
def rotr (x : Int) (n : Nat) : Int := wor (IntKind.u32.wrap (x * 2 ^ (32 - n))) (x.fdiv (2 ^ n))
def byteI (b : List UInt8) (i : Nat) : Int := ((b.getD i 0).toNat : Int)
def wordAt (b : List UInt8) (i : Nat) : Int :=
  wor (wor (wor (IntKind.u32.wrap (byteI b (4 * i) * 16777216)) (IntKind.u32.wrap (byteI b (4 * i + 1) * 65536))) (IntKind.u32.wrap (byteI b (4 * i + 2) * 256))) (byteI b (4 * i + 3))
def sig0 (x : Int) : Int := wxor (wxor (rotr x 7) (rotr x 18)) (x.fdiv 8)
def sig1 (x : Int) : Int := wxor (wxor (rotr x 17) (rotr x 19)) (x.fdiv 1024)
def nextW (w : List Int) (n : Nat) : Int := wadd (wadd (wadd (w.getD (n - 16) 0) (sig0 (w.getD (n - 15) 0))) (w.getD (n - 7) 0)) (sig1 (w.getD (n - 2) 0))
/-- the first numbers of a block -/
def sched (b : List UInt8) : Nat → List Int
  | 0 => []
  | n + 1 => sched b n ++ [if n < 16 then wordAt b n else nextW (sched b n) n]
theorem sched_len (b : List UInt8) (n : Nat) : (sched b n).length = n := by
  induction n with
  | zero => rfl
  | succ n ih => simp [sched, ih]

theorem or_fold (a b : Int) : bits .or .u32 a b = wor a b := rfl
theorem xor_fold (a b : Int) : bits .xor .u32 a b = wxor a b := rfl
theorem and_fold (a b : Int) : bits .and .u32 a b = wand a b := rfl
theorem add_fold (a b : Int) : IntKind.u32.wrap (a + b) = wadd a b := rfl

theorem rotl_eq (x k : Int) (n : Nat) (hk : bits .and .u64 (IntKind.u64.wrap k) 31 = ((32 - n : Nat) : Int)) (hn : n ≤ 32) (σ) : ev 70 [.int .u32 x, .int .i64 k] σ = some (.int .u32 (rotr x n), σ) := by
  refine EV_post rfl Tryz.func70 rfl (by simp [Tryz.ntmps70]) (by kernel_rfl) (by kernel_rfl) ?_
  have h1 : ¬ ((32 - n : Nat) : Int) < 0 := by omega
  have h2 : IntKind.u64.wrap (32 - ((32 - n : Nat) : Int)) = (n : Int) := by rw [wrapU64 (by omega)]; omega
  have h3 : ¬ (n : Int) < 0 := by omega
  have h4 : min (32 - n) 32 = 32 - n := by omega
  have h5 : min n 32 = n := by omega
  clear hn
  simp [hk, h1, h2, h3, h4, h5, IntKind.bits, Tryz.results70, rotr, wor]

theorem right_eq (x : Int) (n : Nat) (hn : n = 2 ∨ n = 6 ∨ n = 7 ∨ n = 11 ∨ n = 13 ∨ n = 17 ∨ n = 18 ∨ n = 19 ∨ n = 22 ∨ n = 25) (σ) : ev 60 [.int .u32 x, .int .i64 n] σ = some (.int .u32 (rotr x n), σ) := by
  refine EV_post rfl Tryz.func60 rfl (by simp [Tryz.ntmps60]) (by kernel_rfl) (by kernel_rfl) ?_
  have h := rotl_eq x (IntKind.i64.wrap (0 - (n : Int))) n (by rcases hn with rfl | rfl | rfl | rfl | rfl | rfl | rfl | rfl | rfl | rfl <;> decide +kernel) (by omega) σ
  clear hn
  simp at h
  simp [h, Tryz.results60]
end Go.Proofs.Tryz.Ai
end
section
/- SHA-256: a block's numbers, walked. -/
namespace Go.Proofs.Tryz.Ai
open Go Go.AI Go.Proofs
set_option maxHeartbeats 1000000

/-- the array while it is filled -/
def cellsW (b : List UInt8) (n : Nat) : List AV := (sched b n).map (.int .u32) ++ List.replicate (64 - n) (.int .u32 0)
theorem cellsW_len (b : List UInt8) (n : Nat) (h : n ≤ 64) : (cellsW b n).length = 64 := by simp [cellsW, sched_len]; omega
theorem cellsW_get (b : List UInt8) (n j : Nat) (h : j < n) : (cellsW b n)[j]? = some (.int .u32 ((sched b n).getD j 0)) := by
  have hj : j < (sched b n).length := by rw [sched_len]; exact h
  unfold cellsW
  rw [List.getElem?_append_left (by simpa using hj), List.getElem?_map, List.getElem?_eq_getElem hj]
  simp [List.getD, hj]
theorem cellsW_set (b : List UInt8) (n : Nat) (v : Int) (h : n < 64) (hv : v = if n < 16 then wordAt b n else nextW (sched b n) n) : (cellsW b n).take n ++ .int .u32 v :: (cellsW b n).drop (n + 1) = cellsW b (n + 1) := by
  have e : 64 - n = (64 - (n + 1)) + 1 := by omega
  unfold cellsW
  rw [e, List.replicate_succ]
  rw [List.take_append_of_le_length (by simp [sched_len]), List.take_of_length_le (by simp [sched_len])]
  rw [List.drop_append, List.drop_eq_nil_of_le (by simp [sched_len])]
  simp only [List.length_map, sched_len, sched, hv]
  rw [show n + 1 - n = 1 by omega]
  simp

theorem schedule_eq (b : List UInt8) (hb : b.length = 64) (o : Own) (σ) : ev 59 [.sl o (b.map .u8)] σ = some (.agg ((sched b 64).map (.int .u32)), σ) := by
  refine EV_post rfl Tryz.func59 rfl (by simp [Tryz.ntmps59]) (by kernel_rfl) (by kernel_rfl) ?_
  simp
  refine Post_loop (I := fun n : Nat => ⟨[(0, .sl o (b.map .u8)), (2, .lp 2 0), (3, .lp 3 0), (10, .int .i64 n)], [(2, List.replicate 64 (.int .u32 0)), (3, cellsW b n)], σ⟩) (Pr := fun n => n ≤ 64) (μ := fun n => 64 - n) (a := 0) (by simp [cellsW, sched]) (by omega) ?_
  intro n hn
  have hlen := cellsW_len b n hn
  by_cases hc : n < 64
  · have w1 : IntKind.i64.wrap ((n : Int) + 1) = (n : Int) + 1 := wrap64 (by omega)
    have h63 : n ≤ 63 := by omega
    by_cases h16 : n < 16
    · have q1 : (n : Int) < 64 := by omega
      have q2 : (n : Int) < 16 := by omega
      obtain ⟨m, hm⟩ : ∃ m, 4 * n = m := ⟨_, rfl⟩
      have e4 : IntKind.i64.wrap (4 * (n : Int)) = (m : Int) := by rw [wrap64 (by omega)]; omega
      obtain ⟨x0, hx0⟩ : ∃ x, b[m]? = some x := ⟨_, List.getElem?_eq_getElem (by omega)⟩
      obtain ⟨x1, hx1⟩ : ∃ x, b[m + 1]? = some x := ⟨_, List.getElem?_eq_getElem (by omega)⟩
      obtain ⟨x2, hx2⟩ : ∃ x, b[m + 2]? = some x := ⟨_, List.getElem?_eq_getElem (by omega)⟩
      obtain ⟨x3, hx3⟩ : ∃ x, b[m + 3]? = some x := ⟨_, List.getElem?_eq_getElem (by omega)⟩
      have e5 : m ≤ 64 := by omega
      have hset := cellsW_set b n (wordAt b n) hc (by rw [if_pos h16])
      have hw : wordAt b n = wor (wor (wor (IntKind.u32.wrap ((x0.toNat : Int) * 16777216)) (IntKind.u32.wrap ((x1.toNat : Int) * 65536))) (IntKind.u32.wrap ((x2.toNat : Int) * 256))) (x3.toNat : Int) := by
        simp [wordAt, byteI, List.getD, hm, hx0, hx1, hx2, hx3]
      rw [hw] at hset
      clear hw hm
      simp (maxSteps := 4000000) [q1, q2, e4, e5, hb, hx0, hx1, hx2, hx3, wrapU32_byte, hlen, hc, h63, w1, or_fold, IntKind.bits, hset]
      exact ⟨n + 1, by omega, by omega, by simp, rfl⟩
    · have q1 : (n : Int) < 64 := by omega
      have q2 : ¬ (n : Int) < 16 := by omega
      obtain ⟨m1, h1⟩ : ∃ m, n - 15 = m := ⟨_, rfl⟩
      obtain ⟨m2, h2⟩ : ∃ m, n - 2 = m := ⟨_, rfl⟩
      obtain ⟨m3, h3⟩ : ∃ m, n - 16 = m := ⟨_, rfl⟩
      obtain ⟨m4, h4⟩ : ∃ m, n - 7 = m := ⟨_, rfl⟩
      have e1 : IntKind.i64.wrap ((n : Int) - 15) = (m1 : Int) := by rw [wrap64 (by omega)]; omega
      have e2 : IntKind.i64.wrap ((n : Int) - 2) = (m2 : Int) := by rw [wrap64 (by omega)]; omega
      have e3 : IntKind.i64.wrap ((n : Int) - 16) = (m3 : Int) := by rw [wrap64 (by omega)]; omega
      have e4 : IntKind.i64.wrap ((n : Int) - 7) = (m4 : Int) := by rw [wrap64 (by omega)]; omega
      have g1 := cellsW_get b n m1 (by omega)
      have g2 := cellsW_get b n m2 (by omega)
      have g3 := cellsW_get b n m3 (by omega)
      have g4 := cellsW_get b n m4 (by omega)
      have l1 : m1 < 64 := by omega
      have l2 : m2 < 64 := by omega
      have l3 : m3 < 64 := by omega
      have l4 : m4 < 64 := by omega
      have r1 : ∀ x, ev 60 [.int .u32 x, .int .i64 7] σ = some (.int .u32 (rotr x 7), σ) := fun x => right_eq x 7 (by omega) σ
      have r2 : ∀ x, ev 60 [.int .u32 x, .int .i64 18] σ = some (.int .u32 (rotr x 18), σ) := fun x => right_eq x 18 (by omega) σ
      have r3 : ∀ x, ev 60 [.int .u32 x, .int .i64 17] σ = some (.int .u32 (rotr x 17), σ) := fun x => right_eq x 17 (by omega) σ
      have r4 : ∀ x, ev 60 [.int .u32 x, .int .i64 19] σ = some (.int .u32 (rotr x 19), σ) := fun x => right_eq x 19 (by omega) σ
      have hset := cellsW_set b n (nextW (sched b n) n) hc (by rw [if_neg h16])
      unfold nextW sig0 sig1 at hset
      rw [h1, h2, h3, h4] at hset
      generalize (sched b n).getD m1 0 = y1 at *
      generalize (sched b n).getD m2 0 = y2 at *
      generalize (sched b n).getD m3 0 = y3 at *
      generalize (sched b n).getD m4 0 = y4 at *
      clear h1 h2 h3 h4
      simp (maxSteps := 4000000) [-getElem?_pos, q1, q2, e1, e2, e3, e4, g1, g2, g3, g4, l1, l2, l3, l4, r1, r2, r3, r4, hlen, hc, h63, w1, xor_fold, add_fold, IntKind.bits, hset]
      exact ⟨n + 1, by omega, by omega, by simp, rfl⟩
  · have hn64 : n = 64 := by omega
    subst hn64
    have e : cellsW b 64 = (sched b 64).map (.int .u32) := by simp [cellsW]
    rw [e] at hlen ⊢
    have hd : ((sched b 64).map (AV.int .u32)).take 64 = (sched b 64).map (.int .u32) := List.take_of_length_le (by simp [sched_len])
    simp (maxSteps := 4000000) [hlen, Tryz.results59, hd, sched_len]
end Go.Proofs.Tryz.Ai
end
section
/- SHA-256: a block, walked. -/
namespace Go.Proofs.Tryz.Ai
open Go Go.AI Go.Proofs
set_option maxHeartbeats 4000000

structure V8 where
  a : Int
  b : Int
  c : Int
  d : Int
  e : Int
  f : Int
  g : Int
  h : Int
def V8.l (x : V8) : List Int := [x.a, x.b, x.c, x.d, x.e, x.f, x.g, x.h]
def big1 (e : Int) : Int := wxor (wxor (rotr e 6) (rotr e 11)) (rotr e 25)
def big0 (a : Int) : Int := wxor (wxor (rotr a 2) (rotr a 13)) (rotr a 22)
def pick3 (e f g : Int) : Int := wxor (wand e f) (wand (wnot e) g)
def most3 (a b c : Int) : Int := wxor (wxor (wand a b) (wand a c)) (wand b c)
def tmp1 (x : V8) (k w : Int) : Int := wadd (wadd (wadd (wadd x.h (big1 x.e)) (pick3 x.e x.f x.g)) k) w
def roundV (x : V8) (k w : Int) : V8 :=
  ⟨wadd (wadd (tmp1 x k w) (big0 x.a)) (most3 x.a x.b x.c), x.a, x.b, x.c, wadd x.d (tmp1 x k w), x.e, x.f, x.g⟩
def roundsV (s : V8) (K W : List Int) : Nat → V8
  | 0 => s
  | n + 1 => roundV (roundsV s K W n) (K.getD n 0) (W.getD n 0)
def addV (x s : V8) : V8 := ⟨wadd x.a s.a, wadd x.b s.b, wadd x.c s.c, wadd x.d s.d, wadd x.e s.e, wadd x.f s.f, wadd x.g s.g, wadd x.h s.h⟩
def blockV (K : List Int) (s : V8) (b : List UInt8) : V8 := addV (roundsV s K (sched b 64) 64) s

/-- the cells while the sums are made -/
def addC (x s : V8) (i : Nat) : List AV := (((addV x s).l.take i) ++ (x.l.drop i)).map (.int .u32)
theorem addC_len (x s : V8) (i : Nat) : (addC x s i).length = 8 := by
  simp [addC, V8.l]; omega
theorem addC_zero (x s : V8) : addC x s 0 = x.l.map (.int .u32) := rfl
theorem addC_end (x s : V8) : addC x s 8 = (addV x s).l.map (.int .u32) := rfl
theorem addC_step (x s : V8) (i : Nat) (h : i < 8) : ∃ y z, (addC x s i)[i]? = some (.int .u32 y) ∧ (s.l.map (AV.int .u32))[i]? = some (.int .u32 z) ∧
    (addC x s i).take i ++ .int .u32 (wadd y z) :: (addC x s i).drop (i + 1) = addC x s (i + 1) := by
  match i, h with
  | 0, _ => exact ⟨x.a, s.a, rfl, rfl, rfl⟩
  | 1, _ => exact ⟨x.b, s.b, rfl, rfl, rfl⟩
  | 2, _ => exact ⟨x.c, s.c, rfl, rfl, rfl⟩
  | 3, _ => exact ⟨x.d, s.d, rfl, rfl, rfl⟩
  | 4, _ => exact ⟨x.e, s.e, rfl, rfl, rfl⟩
  | 5, _ => exact ⟨x.f, s.f, rfl, rfl, rfl⟩
  | 6, _ => exact ⟨x.g, s.g, rfl, rfl, rfl⟩
  | 7, _ => exact ⟨x.h, s.h, rfl, rfl, rfl⟩

theorem list_get (W : List Int) (n m : Nat) (hw : W.length = m) (h : n < m) : (W.map (AV.int .u32))[n]? = some (.int .u32 (W.getD n 0)) := by
  have hj : n < W.length := by omega
  rw [List.getElem?_map, List.getElem?_eq_getElem hj]
  simp [List.getD, hj]

/-- the cells of eight words -/
def V8.cs (x : V8) : List AV := [.int .u32 x.a, .int .u32 x.b, .int .u32 x.c, .int .u32 x.d, .int .u32 x.e, .int .u32 x.f, .int .u32 x.g, .int .u32 x.h]
theorem V8.cs_eq (x : V8) : x.l.map (.int .u32) = x.cs := rfl

theorem rights (σ : List (List AV)) (x : Int) : ev 60 [.int .u32 x, .int .i64 6] σ = some (.int .u32 (rotr x 6), σ) ∧ ev 60 [.int .u32 x, .int .i64 11] σ = some (.int .u32 (rotr x 11), σ) ∧
    ev 60 [.int .u32 x, .int .i64 25] σ = some (.int .u32 (rotr x 25), σ) ∧ ev 60 [.int .u32 x, .int .i64 2] σ = some (.int .u32 (rotr x 2), σ) ∧
    ev 60 [.int .u32 x, .int .i64 13] σ = some (.int .u32 (rotr x 13), σ) ∧ ev 60 [.int .u32 x, .int .i64 22] σ = some (.int .u32 (rotr x 22), σ) :=
  ⟨right_eq x 6 (by omega) σ, right_eq x 11 (by omega) σ, right_eq x 25 (by omega) σ, right_eq x 2 (by omega) σ, right_eq x 13 (by omega) σ, right_eq x 22 (by omega) σ⟩

theorem block_eq (s : V8) (b : List UInt8) (hb : b.length = 64) (o : Own) (K : List Int) (hK : K.length = 64) (c : Nat) (sh : Option (TypeId × Nat)) (σ) (hc : σ[c]? = some (K.map (.int .u32))) :
    ev 39 [.agg (s.l.map (.int .u32)), .sl o (b.map .u8), .gp c 0 sh] σ = some (.agg ((blockV K s b).l.map (.int .u32)), σ) := by
  refine EV_post rfl Tryz.func39 rfl (by simp [Tryz.ntmps39]) (by kernel_rfl) (by kernel_rfl) ?_
  have hs := schedule_eq b hb .sh σ
  obtain ⟨W, hW⟩ : ∃ W, sched b 64 = W := ⟨_, rfl⟩
  have hWl : W.length = 64 := by rw [← hW, sched_len]
  have hbv : blockV K s b = addV (roundsV s K W 64) s := by unfold blockV; rw [hW]
  rw [hW] at hs
  rw [hbv]
  have hs8 : (s.l.map (AV.int .u32)) = s.cs := rfl
  have hWc : (W.map (AV.int .u32)).length = 64 := by simpa using hWl
  obtain ⟨Wc, hWc2⟩ : ∃ Wc, W.map (AV.int .u32) = Wc := ⟨_, rfl⟩
  rw [hWc2] at hs hWc
  have hWn : ∀ n, n < 64 → Wc[n]? = some (.int .u32 (W.getD n 0)) := fun n hn => by rw [← hWc2]; exact list_get W n 64 hWl hn
  have hKn : ∀ n, n < 64 → (K.map (AV.int .u32))[n]? = some (.int .u32 (K.getD n 0)) := fun n hn => list_get K n 64 hK hn
  obtain ⟨Kc, hKc2⟩ : ∃ Kc, K.map (AV.int .u32) = Kc := ⟨_, rfl⟩
  rw [hKc2] at hc hKn
  have hdem : s.cs.map dem = s.cs := rfl
  have hcsl : s.cs.length = 8 := rfl
  have htk : s.cs.take 8 = s.cs := rfl
  have hdr : s.cs.drop 8 = [] := rfl
  have hWd : Wc.map dem = Wc := by rw [← hWc2]; exact map_dem_int
  have hWt : Wc.take 64 = Wc := List.take_of_length_le (by omega)
  clear hWc2 hKc2 hW hbv hWl
  rw [hs8]
  simp (maxSteps := 4000000) [hs, hdem, hcsl, htk, hdr, hWd, hWt, hWc]
  refine Post_loop (I := fun n : Nat => ⟨[(2, .gp c 0 sh), (3, .lp 3 0), (6, .lp 6 0), (7, .lp 7 0), (8, .lp 8 0), (19, .int .i64 n)], [(3, s.cs), (6, List.replicate 8 (.int .u32 0)), (7, Wc), (8, (roundsV s K W n).cs)], σ⟩) (Pr := fun n => n ≤ 64) (μ := fun n => 64 - n) (a := 0) (by simp [roundsV]) (by omega) ?_
  intro n hn
  obtain ⟨x, hx⟩ : ∃ x, roundsV s K W n = x := ⟨_, rfl⟩
  have hx1 : n < 64 → roundsV s K W (n + 1) = roundV x (K.getD n 0) (W.getD n 0) := fun _ => by rw [roundsV, hx]
  obtain ⟨k, hk⟩ : ∃ k, K.getD n 0 = k := ⟨_, rfl⟩
  obtain ⟨w, hw⟩ : ∃ w, W.getD n 0 = w := ⟨_, rfl⟩
  have hWn' := hWn n
  have hKn' := hKn n
  rw [hw] at hWn' hx1
  rw [hk] at hKn' hx1
  clear hWn hKn hk hw
  by_cases hlt : n < 64
  · have g1 := hWn' hlt
    have g2 := hKn' hlt
    have hstep := hx1 hlt
    clear hWn' hKn' hx1 hs
    have q1 : (n : Int) < 64 := by omega
    have q2 : n ≤ 63 := by omega
    have w1 : IntKind.i64.wrap ((n : Int) + 1) = (n : Int) + 1 := wrap64 (by omega)
    have r1 := fun x => (rights σ x).1
    have r2 := fun x => (rights σ x).2.1
    have r3 := fun x => (rights σ x).2.2.1
    have r4 := fun x => (rights σ x).2.2.2.1
    have r5 := fun x => (rights σ x).2.2.2.2.1
    have r6 := fun x => (rights σ x).2.2.2.2.2
    obtain ⟨Sc, hSc⟩ : ∃ Sc, s.cs = Sc := ⟨_, rfl⟩
    have hxc : (roundsV s K W n).cs = [.int .u32 x.a, .int .u32 x.b, .int .u32 x.c, .int .u32 x.d, .int .u32 x.e, .int .u32 x.f, .int .u32 x.g, .int .u32 x.h] := by rw [hx]; rfl
    have hmax : IntKind.u32.max = 4294967295 := rfl
    have hnot : ∀ a, bits .xor .u32 4294967295 a = wnot a := fun a => rfl
    have hsg : IntKind.u32.signed = false := rfl
    simp only [hxc, hSc]
    simp (maxSteps := 8000000) [-getElem?_pos, List.getElem?_cons_zero, q1, q2, hlt, g1, g2, hc, hWc, w1, r1, r2, r3, r4, r5, r6, hnot, hsg, hmax, xor_fold, and_fold, add_fold]
    exact ⟨n + 1, by omega, by omega, by simp, by rw [hstep]; rfl⟩
  · have hn64 : n = 64 := by omega
    subst hn64
    clear hWn' hKn' hx1 hs
    rw [hx]
    obtain ⟨Sc, hSc⟩ : ∃ Sc, s.cs = Sc := ⟨_, rfl⟩
    have hScl : Sc.length = 8 := by rw [← hSc]; rfl
    have hz := addC_zero x s
    rw [V8.cs_eq] at hz
    simp only [hSc]
    simp (maxSteps := 4000000)
    refine Post_loop (I := fun i : Nat => ⟨[(3, .lp 3 0), (6, .lp 6 0), (8, .lp 8 0), (112, .int .i64 i)], [(3, Sc), (6, List.replicate 8 (.int .u32 0)), (8, addC x s i)], σ⟩) (Pr := fun i => i ≤ 8) (μ := fun i => 8 - i) (a := 0) (by simp [hz]) (by omega) ?_
    intro i hi
    have hl8 := addC_len x s i
    by_cases hi8 : i < 8
    · obtain ⟨y, z, e1, e2, e3⟩ := addC_step x s i hi8
      rw [hs8, hSc] at e2
      have q1 : (i : Int) < 8 := by omega
      have q2 : i ≤ 7 := by omega
      have w1 : IntKind.i64.wrap ((i : Int) + 1) = (i : Int) + 1 := wrap64 (by omega)
      simp (maxSteps := 4000000) [-getElem?_pos, List.getElem?_cons_zero, q1, q2, hi8, e1, e2, hl8, hScl, w1, add_fold, e3]
      exact ⟨i + 1, by omega, by omega, by simp, rfl⟩
    · have hi8 : i = 8 := by omega
      subst hi8
      obtain ⟨R, hR⟩ : ∃ R, addC x s 8 = R := ⟨_, rfl⟩
      have hRe : (addV x s).l.map (AV.int .u32) = R := by rw [← addC_end, hR]
      have hRd : R.map dem = R := by rw [← hRe]; exact map_dem_int
      rw [hR] at hl8
      have hRt : R.take 8 = R := List.take_of_length_le (by omega)
      have hRdr : R.drop 8 = [] := List.drop_eq_nil_of_le (by omega)
      simp only [hR, hRe]
      simp (maxSteps := 4000000) [hl8, hRd, hRt, hRdr, Tryz.results39]
end Go.Proofs.Tryz.Ai
end
section
/- SHA-256, walked. -/
namespace Go.Proofs.Tryz.Ai
open Go Go.AI Go.Proofs
set_option maxHeartbeats 4000000

def kConst : List Int := [1116352408, 1899447441, 3049323471, 3921009573, 961987163, 1508970993, 2453635748, 2870763221,
  3624381080, 310598401, 607225278, 1426881987, 1925078388, 2162078206, 2614888103, 3248222580,
  3835390401, 4022224774, 264347078, 604807628, 770255983, 1249150122, 1555081692, 1996064986,
  2554220882, 2821834349, 2952996808, 3210313671, 3336571891, 3584528711, 113926993, 338241895,
  666307205, 773529912, 1294757372, 1396182291, 1695183700, 1986661051, 2177026350, 2456956037,
  2730485921, 2820302411, 3259730800, 3345764771, 3516065817, 3600352804, 4094571909, 275423344,
  430227734, 506948616, 659060556, 883997877, 958139571, 1322822218, 1537002063, 1747873779,
  1955562222, 2024104815, 2227730452, 2361852424, 2428436474, 2756734187, 3204031479, 3329325298]
def vInit : V8 := ⟨1779033703, 3144134277, 1013904242, 2773480762, 1359893119, 2600822924, 528734635, 1541459225⟩
def blocksV (s : V8) (b : List UInt8) : Nat → V8
  | 0 => s
  | n + 1 => blockV kConst (blocksV s b n) ((b.drop (64 * n)).take 64)
/-- how many zeros are laid behind a text of so many bytes and the one -/
def padN (n : Nat) : Nat := (119 - n % 64) % 64
def b8 (x : Int) : UInt8 := UInt8.ofNat (IntKind.u8.wrap x).toNat
def lenB (n k : Nat) : List UInt8 := (List.range k).map fun i => b8 (((8 * n : Nat) : Int).fdiv (2 ^ (56 - 8 * i)))
def tailB (b : List UInt8) : List UInt8 := b.drop (b.length / 64 * 64) ++ [128] ++ List.replicate (padN b.length) 0 ++ lenB b.length 8
def out4 (x : Int) : List UInt8 := [b8 (x.fdiv 16777216), b8 (x.fdiv 65536), b8 (x.fdiv 256), b8 x]
def sha256 (b : List UInt8) : List UInt8 := (blocksV (blocksV vInit b (b.length / 64)) (tailB b) ((tailB b).length / 64)).l.flatMap out4

theorem b8_wrap (x : Int) : IntKind.u8.wrap x = ((b8 x).toNat : Int) := by
  have : 0 ≤ IntKind.u8.wrap x ∧ IntKind.u8.wrap x < 256 := by simp only [IntKind.wrap, IntKind.signed, IntKind.bits]; simp; omega
  unfold b8
  rw [UInt8.toNat_ofNat']
  omega

theorem constants_eq (σ) : ev 37 [] σ = some (.agg (kConst.map (.int .u32)), σ) := by
  refine EV_post rfl Tryz.func37 rfl (by simp [Tryz.ntmps37]) (by kernel_rfl) (by kernel_rfl) ?_
  refine Post_seq (Post_reg (st1 := ⟨[(0, .lp 0 0)], [(0, List.replicate 64 (.int .u32 0))], σ⟩) (by kernel_rfl) ?_)
  refine Post_seq (Post_reg (st1 := ⟨[(0, .lp 0 0), (1, .agg (kConst.map (.int .u32)))], [(0, kConst.map (.int .u32))], σ⟩) (by kernel_rfl) ?_)
  obtain ⟨R, hR⟩ : ∃ R, kConst.map (AV.int .u32) = R := ⟨_, rfl⟩
  have hRd : R.map dem = R := by rw [← hR]; exact map_dem_int
  have hl : R.length = 64 := by rw [← hR]; rfl
  have hRt : R.take 64 = R := List.take_of_length_le (by omega)
  rw [hR]
  simp (maxSteps := 4000000) [Tryz.results37, hRd, hl, hRt]
theorem initial_eq (σ) : ev 38 [] σ = some (.agg (vInit.l.map (.int .u32)), σ) := by
  refine EV_post rfl Tryz.func38 rfl (by simp [Tryz.ntmps38]) (by kernel_rfl) (by kernel_rfl) ?_
  simp (maxSteps := 4000000) [Tryz.results38]
  rfl
theorem fresh_eq (o : Own) (l : List UInt8) (hl : l.length ≤ 1099511627776) (σ) : ev 40 [.sl o (l.map .u8)] σ = some (.sl (.ex 5 1) (l.map .u8), σ) := by
  refine EV_post rfl Tryz.func40 rfl (by simp [Tryz.ntmps40]) (by kernel_rfl) (by kernel_rfl) ?_
  have h0 : ¬ (l.length : Int) < 0 := by omega
  simp (maxSteps := 4000000) [Tryz.results40, most, hl]
end Go.Proofs.Tryz.Ai
end
section
/- SHA-256, walked. -/
namespace Go.Proofs.Tryz.Ai
open Go Go.AI Go.Proofs
set_option maxHeartbeats 4000000

theorem cs_facts (x : V8) : x.cs.length = 8 ∧ x.cs.map dem = x.cs ∧ x.cs.take 8 = x.cs ∧ x.cs.drop 8 = [] := ⟨rfl, rfl, rfl, rfl⟩

theorem block_cs (s : V8) (b : List UInt8) (hb : b.length = 64) (o : Own) (c : Nat) (sh : Option (TypeId × Nat)) (σ) (hc : σ[c]? = some (kConst.map (.int .u32))) :
    ev 39 [.agg s.cs, .sl o (b.map .u8), .gp c 0 sh] σ = some (.agg (blockV kConst s b).cs, σ) := block_eq s b hb o kConst rfl c sh σ hc

theorem lenB_succ (n i : Nat) : lenB n (i + 1) = lenB n i ++ [b8 (((8 * n : Nat) : Int).fdiv (2 ^ (56 - 8 * i)))] := by simp [lenB, List.range_succ]
theorem cs_get (x : V8) (j : Nat) (h : j < 8) : x.cs[j]? = some (.int .u32 (x.l.getD j 0)) := list_get x.l j 8 rfl h
theorem out_succ (x : V8) (j : Nat) (h : j < 8) : (x.l.take (j + 1)).flatMap out4 = (x.l.take j).flatMap out4 ++ out4 (x.l.getD j 0) := by
  have hl : j < x.l.length := h
  rw [List.take_succ_eq_append_getElem hl, List.flatMap_append]
  simp [List.getD, hl]
theorem padN_eq (n k : Nat) (h : k ≤ padN n) : (n % 64 + 1 + k) % 64 = 56 ↔ k = padN n := by unfold padN at *; omega
theorem tailB_len (b : List UInt8) : (tailB b).length % 64 = 0 ∧ (tailB b).length ≤ 128 := by
  have h1 : (tailB b).length = (b.length - b.length / 64 * 64) + 1 + padN b.length + 8 := by simp [tailB, lenB]; omega
  rw [h1]; unfold padN; omega

theorem SHA256_eq (o : Own) (b : List UInt8) (hl : b.length ≤ 1073741824) (σ) : ev 16 [.sl o (b.map .u8)] σ = some (.sl (.ex 5 1) ((sha256 b).map .u8), σ) := by
  refine EV_post rfl Tryz.func16 rfl (by simp [Tryz.ntmps16]) (by kernel_rfl) (by kernel_rfl) ?_
  have hk := constants_eq σ
  have hi : ev 38 [] (σ ++ [kConst.map (.int .u32)]) = some (.agg vInit.cs, σ ++ [kConst.map (.int .u32)]) := initial_eq _
  have hblk := fun (s : V8) (b : List UInt8) (hb : b.length = 64) => block_cs s b hb .sh σ.length (some (76, 64)) (σ ++ [kConst.map (.int .u32)]) (by simp)
  obtain ⟨K, hK⟩ : ∃ K, kConst.map (AV.int .u32) = K := ⟨_, rfl⟩
  have hKd : K.map dem = K := by rw [← hK]; exact map_dem_int
  have hKl : K.length = 64 := by rw [← hK]; rfl
  have hKt : K.take 64 = K := List.take_of_length_le (by omega)
  have hKdr : K.drop 64 = [] := List.drop_eq_nil_of_le (by omega)
  have hKq : lowL σ.length K := by rw [← hK]; simp
  rw [hK] at hk hi hblk
  clear hK
  obtain ⟨i1, i2, i3, i4⟩ := cs_facts vInit
  obtain ⟨W, hW⟩ : ∃ W, b.length / 64 = W := ⟨_, rfl⟩
  have e1 : IntKind.i64.wrap ((b.length : Int) / 64) = (W : Int) := by rw [wrap64 (by omega)]; omega
  obtain ⟨W6, hW6⟩ : ∃ W6, W * 64 = W6 := ⟨_, rfl⟩
  have e2 : IntKind.i64.wrap ((W : Int) * 64) = (W6 : Int) := by rw [wrap64 (by omega)]; omega
  simp (maxSteps := 4000000) [hk, hi, hKd, hKl, hKt, hKdr, i1, i2, i3, i4, e1, e2]
  clear hk hi i1 i2 i3 i4 e1 e2
  -- the whole blocks
  refine Post_loop (I := fun p : Nat × Nat => ⟨[(0, .sl o (b.map .u8)), (3, .gp σ.length 0 (some (76, 64))), (4, .lp 4 0), (5, .int .i64 W6), (6, .int .i64 p.2)], [(4, (blocksV vInit b p.1).cs)], σ ++ [K]⟩)
    (Pr := fun p => p.2 = 64 * p.1 ∧ p.1 ≤ W) (μ := fun p => W - p.1) (a := (0, 0)) (by simp [blocksV]) (by simp) ?_
  rintro ⟨n, m⟩ ⟨hm, hn⟩
  simp only at hm hn ⊢
  obtain ⟨x, hx⟩ : ∃ x, blocksV vInit b n = x := ⟨_, rfl⟩
  obtain ⟨i1, i2, i3, i4⟩ := cs_facts x
  rw [hx]
  by_cases hc : m < W6
  · have q1 : (m : Int) < W6 := by omega
    have q2 : m + 64 ≤ b.length := by omega
    have w1 : IntKind.i64.wrap ((m : Int) + 64) = ((m + 64 : Nat) : Int) := by rw [wrap64 (by omega)]; omega
    have hb := hblk x ((b.drop m).take 64) (by simp; omega)
    obtain ⟨y, hy⟩ : ∃ y, blockV kConst x ((b.drop m).take 64) = y := ⟨_, rfl⟩
    rw [hy] at hb
    obtain ⟨j1, j2, j3, j4⟩ := cs_facts y
    obtain ⟨m2, hm2⟩ : ∃ m2, m + 64 = m2 := ⟨_, rfl⟩
    have hsl : ((b.map AV.u8).take m2).drop m = (((b.drop m).take 64).map AV.u8) := by
      rw [← hm2, List.drop_take, show m + 64 - m = 64 by omega, List.map_take, List.map_drop]
    have q3 : m ≤ m2 := by omega
    rw [hm2] at q2 w1
    have hfin : blocksV vInit b (n + 1) = y := by rw [blocksV, hx, ← hy, hm]
    clear hblk
    simp (maxSteps := 4000000) [-List.map_take, -List.map_drop, q1, q2, q3, w1, hb, i1, i2, i3, i4, j1, j2, j3, j4, hKl, hsl]
    exact ⟨n + 1, m2, ⟨by omega, by omega⟩, by omega, rfl, by rw [hfin]⟩
  have hnW : n = W := by omega
  subst hnW
  obtain rfl : m = W6 := by omega
  have c1 : ¬ (m : Int) < m := by omega
  have hdl : (b.drop m).length = b.length - m := by simp
  have hfr := fresh_eq .sh (b.drop m) (by omega) (σ ++ [K])
  have hsl : (b.map AV.u8).drop m = (b.drop m).map AV.u8 := by rw [List.map_drop]
  have q1 : m ≤ b.length := by omega
  obtain ⟨D, hD⟩ : ∃ D, b.drop m = D := ⟨_, rfl⟩
  rw [hD] at hfr hsl hdl
  have q2 : D.length + 1 ≤ most := by unfold most; omega
  have q3 : D.length + 1 = b.length % 64 + 1 := by omega
  simp (maxSteps := 4000000) [-List.map_take, -List.map_drop, c1, hsl, hfr, q1, q2]
  clear hfr hsl c1
  -- zeros
  refine Post_loop (I := fun k : Nat => ⟨[(0, .sl o (b.map .u8)), (3, .gp σ.length 0 (some (76, 64))), (4, .lp 4 0), (7, .sl (.ex 5 1) ((D ++ [128] ++ List.replicate k 0).map .u8))], [(4, x.cs)], σ ++ [K]⟩)
    (Pr := fun k => k ≤ padN b.length) (μ := fun k => padN b.length - k) (a := 0) (by simp) (by omega) ?_
  intro k hk
  have hp64 : padN b.length < 64 := Nat.mod_lt _ (by omega)
  have hpe := padN_eq b.length k hk
  obtain ⟨L, hL⟩ : ∃ L, D ++ [128] ++ List.replicate k 0 = L := ⟨_, rfl⟩
  have hLl : L.length = b.length % 64 + 1 + k := by rw [← hL]; simp; omega
  simp only [hL]
  by_cases hc : k = padN b.length
  rotate_left
  · have c1 : ¬ ((L.length : Int).tmod 64 = 56) := by rw [Int.tmod_eq_emod_of_nonneg (by omega), hLl]; omega
    have q4 : L.length + 1 ≤ most := by unfold most; omega
    simp (maxSteps := 4000000) [c1, q4]
    refine ⟨k + 1, by omega, by omega, ?_⟩
    rw [← hL, List.replicate_succ']; simp
  have c1 : ((L.length : Int).tmod 64 = 56) := by rw [Int.tmod_eq_emod_of_nonneg (by omega), hLl]; omega
  simp (maxSteps := 4000000) [c1]
  clear c1
  -- the length
  refine Post_loop (I := fun i : Nat => ⟨[(0, .sl o (b.map .u8)), (3, .gp σ.length 0 (some (76, 64))), (4, .lp 4 0), (7, .sl (.ex 5 1) ((L ++ lenB b.length i).map .u8)), (44, .int .i64 i)], [(4, x.cs)], σ ++ [K]⟩)
    (Pr := fun i => i ≤ 8) (μ := fun i => 8 - i) (a := 0) (by simp [lenB]) (by omega) ?_
  intro i hi
  obtain ⟨M, hM⟩ : ∃ M, L ++ lenB b.length i = M := ⟨_, rfl⟩
  have hMl : M.length = L.length + i := by rw [← hM]; simp [lenB]
  simp only [hM]
  by_cases hi8 : i < 8
  · have q4 : (i : Int) < 8 := by omega
    obtain ⟨j, hj⟩ : ∃ j, 56 - 8 * i = j := ⟨_, rfl⟩
    have e1 : IntKind.i64.wrap (56 - 8 * (i : Int)) = (j : Int) := by rw [wrap64 (by omega)]; omega
    have e2 : IntKind.i64.wrap (8 * (i : Int)) = 8 * (i : Int) := wrap64 (by omega)
    have e3 : IntKind.i64.wrap (8 * (b.length : Int)) = 8 * (b.length : Int) := wrap64 (by omega)
    have e4 : IntKind.i64.wrap ((i : Int) + 1) = (i : Int) + 1 := wrap64 (by omega)
    have q5 : ¬ (j : Int) < 0 := by omega
    have q6 : min j 64 = j := by omega
    have q7 : M.length + 1 ≤ most := by unfold most; omega
    have hfin := lenB_succ b.length i
    rw [hj] at hfin
    clear hblk
    simp (maxSteps := 4000000) [q4, e1, e2, e3, e4, q5, q6, q7, IntKind.bits]
    refine ⟨i + 1, by omega, by omega, ?_, by omega⟩
    rw [hfin, ← hM]
    simp [b8_wrap]
  have hi8' : i = 8 := by omega
  subst hi8'
  have c1 : ¬ ((8 : Nat) : Int) < 8 := by omega
  have hT : tailB b = M := by
    rw [← hM, ← hL, ← hD, ← hW6, ← hW, hc]; rfl
  have hTl := tailB_len b
  rw [hT] at hTl
  simp (maxSteps := 4000000)
  -- the last blocks
  obtain ⟨V, hV⟩ : ∃ V, M.length / 64 = V := ⟨_, rfl⟩
  refine Post_loop (I := fun p : Nat × Nat => ⟨[(3, .gp σ.length 0 (some (76, 64))), (4, .lp 4 0), (7, .sl (.ex 5 1) (M.map .u8)), (9, .int .i64 p.2)], [(4, (blocksV x M p.1).cs)], σ ++ [K]⟩)
    (Pr := fun p => p.2 = 64 * p.1 ∧ p.1 ≤ V) (μ := fun p => V - p.1) (a := (0, 0)) (by simp [blocksV]) (by simp) ?_
  rintro ⟨n2, m3⟩ ⟨hm3, hn2⟩
  simp only at hm3 hn2 ⊢
  obtain ⟨z, hz⟩ : ∃ z, blocksV x M n2 = z := ⟨_, rfl⟩
  obtain ⟨i1, i2, i3, i4⟩ := cs_facts z
  rw [hz]
  by_cases hc2 : m3 < M.length
  · have q1 : (m3 : Int) < M.length := by omega
    have q2 : m3 + 64 ≤ M.length := by omega
    have w1 : IntKind.i64.wrap ((m3 : Int) + 64) = ((m3 + 64 : Nat) : Int) := by rw [wrap64 (by omega)]; omega
    have hb := hblk z ((M.drop m3).take 64) (by simp; omega)
    obtain ⟨y, hy⟩ : ∃ y, blockV kConst z ((M.drop m3).take 64) = y := ⟨_, rfl⟩
    rw [hy] at hb
    obtain ⟨j1, j2, j3, j4⟩ := cs_facts y
    obtain ⟨m2, hm2⟩ : ∃ m2, m3 + 64 = m2 := ⟨_, rfl⟩
    have hsl : ((M.map AV.u8).take m2).drop m3 = (((M.drop m3).take 64).map AV.u8) := by
      rw [← hm2, List.drop_take, show m3 + 64 - m3 = 64 by omega, List.map_take, List.map_drop]
    have q3 : m3 ≤ m2 := by omega
    rw [hm2] at q2 w1
    have hfin : blocksV x M (n2 + 1) = y := by rw [blocksV, hz, ← hy, hm3]
    clear hblk
    simp (maxSteps := 4000000) [-List.map_take, -List.map_drop, hc2, q1, q2, q3, w1, hb, i1, i2, i3, i4, j1, j2, j3, j4, hKl, hsl]
    exact ⟨n2 + 1, m2, ⟨by omega, by omega⟩, by omega, rfl, by rw [hfin]⟩
  have hm3M : m3 = M.length := by omega
  have hn2V : n2 = V := by omega
  subst hm3M; subst hn2V
  have c2 : ¬ (M.length : Int) < M.length := by omega
  clear hblk
  simp (maxSteps := 4000000) [c2, i1, i2, i3, i4]
  -- what is handed back
  refine Post_loop (I := fun j : Nat => ⟨[(10, .sl (.ex 5 1) (((z.l.take j).flatMap out4).map .u8)), (72, .agg z.cs), (73, .int .i64 j)], [], σ ++ [K]⟩)
    (Pr := fun j => j ≤ 8) (μ := fun j => 8 - j) (a := 0) (by simp) (by omega) ?_
  intro j hj
  obtain ⟨R, hR⟩ : ∃ R, (z.l.take j).flatMap out4 = R := ⟨_, rfl⟩
  have hRl : R.length ≤ 32 := by
    rw [← hR]
    have : ∀ l : List Int, (l.flatMap out4).length = 4 * l.length := by
      intro l
      induction l with
      | nil => rfl
      | cons a r ih => rw [List.flatMap_cons, List.length_append, ih]; simp [out4]; omega
    rw [this]; simp [V8.l]; omega
  simp only [hR]
  by_cases hj8 : j < 8
  · have q1 : (j : Int) < 8 := by omega
    have q2 : j ≤ 7 := by omega
    have g := cs_get z j hj8
    obtain ⟨v, hv⟩ : ∃ v, z.l.getD j 0 = v := ⟨_, rfl⟩
    have hfin := out_succ z j hj8
    rw [hv] at g hfin
    have e4 : IntKind.i64.wrap ((j : Int) + 1) = (j : Int) + 1 := wrap64 (by omega)
    have q7 : R.length + 4 ≤ most := by unfold most; omega
    simp (maxSteps := 4000000) [-getElem?_pos, List.getElem?_cons_zero, q1, q2, hj8, g, e4, i1, q7, IntKind.bits]
    refine ⟨j + 1, by omega, by omega, ?_, by omega⟩
    rw [hfin, hR]
    simp [out4, b8_wrap]
  have hj8' : j = 8 := by omega
  subst hj8'
  have hfin : sha256 b = R := by
    rw [← hR]
    unfold sha256
    rw [hW, hx, hT, hV, hz]
    rfl
  rw [hfin]
  simp (maxSteps := 4000000) [Tryz.results16]

theorem sha256_len (b : List UInt8) : (sha256 b).length = 32 := rfl
end Go.Proofs.Tryz.Ai
end
section
/- The document's SHA-256: words turned, constants. -/
namespace Go.Proofs.Tryz.Ai
open Go Go.AI Go.Proofs
set_option maxHeartbeats 1000000
set_option linter.unusedVariables false

theorem wor_comm (a b : Int) : wor a b = wor b a := by
  unfold wor; simp only [bits, BitVec.or_comm]
theorem wadd_comm (a b : Int) : wadd a b = wadd b a := by unfold wadd; rw [Int.add_comm]
theorem turn_eq (x : Int) (n : Nat) (hn : n ≤ 32) (σ) : ev 56 [.int .u32 x, .int .i64 n] σ = some (.int .u32 (rotr x n), σ) := by
  refine EV_post rfl Tryz.func56 rfl (by simp [Tryz.ntmps56]) (by kernel_rfl) (by kernel_rfl) ?_
  have h1 : ¬ (n : Int) < 0 := by omega
  have h2 : IntKind.i64.wrap (32 - (n : Int)) = ((32 - n : Nat) : Int) := by rw [wrap64 (by omega)]; omega
  have h4 : min (32 - n) 32 = 32 - n := by omega
  have h5 : min n 32 = n := by omega
  obtain ⟨k, hk⟩ : ∃ k, 32 - n = k := ⟨_, rfl⟩
  have hr : rotr x n = bits .or .u32 (x.fdiv (2 ^ n)) (IntKind.u32.wrap (x * 2 ^ k)) := by unfold rotr; rw [wor_comm, hk]; rfl
  rw [hk] at h2 h4
  clear hn hk
  simp (maxSteps := 4000000) [List.getElem?_cons_zero, List.getElem?_cons_succ, h1, h2, h4, h5, IntKind.bits, Tryz.results56, hr]
theorem rconstants_eq (σ) : ev 55 [] σ = some (.sl (.ex 59 1) (kConst.map (.int .u32)), σ) := by
  refine EV_post rfl Tryz.func55 rfl (by simp [Tryz.ntmps55]) (by kernel_rfl) (by kernel_rfl) ?_
  refine Post_seq (Post_reg (st1 := ⟨[(0, .sl (.ex 59 1) [])], [], σ⟩) (by kernel_rfl) ?_)
  refine Post_seq (Post_reg (st1 := ⟨[(0, .sl (.ex 59 1) (kConst.map (.int .u32))), (1, .sl .sh (kConst.map (.int .u32)))], [], σ⟩) (by kernel_rfl) ?_)
  obtain ⟨R, hR⟩ : ∃ R, kConst.map (AV.int .u32) = R := ⟨_, rfl⟩
  rw [hR]
  simp (maxSteps := 4000000) [List.getElem?_cons_zero, List.getElem?_cons_succ, Tryz.results55]
theorem Bytes_eq (o : Own) (l : List UInt8) (hl : l.length ≤ 2 ^ 39) (σ) : ev 45 [.sl o (l.map .u8)] σ = some (.sl (.ex 5 1) (l.map .u8), σ) := by
  refine EV_post rfl Tryz.func45 rfl (by simp [Tryz.ntmps45]) (by kernel_rfl) (by kernel_rfl) ?_
  have h1 : l.length ≤ most := by unfold most; omega
  simp (maxSteps := 4000000) [List.getElem?_cons_zero, List.getElem?_cons_succ, h1, Tryz.results45]
/-- blocks, one behind the other -/
theorem blocksV_app (x y : List UInt8) (n : Nat) (hx : x.length = 64 * n) (s : V8) : (∀ k, k ≤ n → blocksV s (x ++ y) k = blocksV s x k) ∧ ∀ m, blocksV s (x ++ y) (n + m) = blocksV (blocksV s x n) y m := by
  have h1 : ∀ k, k ≤ n → blocksV s (x ++ y) k = blocksV s x k := by
    intro k
    induction k with
    | zero => intro _; rfl
    | succ k ih =>
      intro hk
      rw [blocksV, blocksV, ih (by omega)]
      congr 1
      rw [List.drop_append_of_le_length (by omega), List.take_append_of_le_length (by simp; omega)]
  refine ⟨h1, fun m => ?_⟩
  induction m with
  | zero => exact h1 n (Nat.le_refl _)
  | succ m ih =>
    rw [← Nat.add_assoc, blocksV, blocksV, ih]
    congr 1
    rw [List.drop_append, List.drop_of_length_le (by omega), List.nil_append, hx, show 64 * (n + m) - 64 * n = 64 * m by omega]
/-- a text, laid out to whole blocks -/
def laidB (b : List UInt8) : List UInt8 := b ++ [128] ++ List.replicate (padN b.length) 0 ++ lenB b.length 8
theorem blocksV_take (s : V8) (x : List UInt8) (n : Nat) : ∀ k, k ≤ n → blocksV s (x.take (64 * n)) k = blocksV s x k := by
  intro k
  induction k with
  | zero => intro _; rfl
  | succ k ih =>
    intro hk
    rw [blocksV, blocksV, ih (by omega)]
    congr 1
    rw [List.drop_take, List.take_take]
    congr 1
    omega
theorem sha256_laid (b : List UInt8) : sha256 b = (blocksV vInit (laidB b) ((laidB b).length / 64)).l.flatMap out4 := by
  have hs : laidB b = b.take (b.length / 64 * 64) ++ tailB b := by
    unfold laidB tailB
    simp only [← List.append_assoc, List.take_append_drop]
  have hl : (b.take (b.length / 64 * 64)).length = 64 * (b.length / 64) := by simp; omega
  have h1 := (blocksV_app _ (tailB b) (b.length / 64) hl vInit).2 ((tailB b).length / 64)
  have h2 : (laidB b).length / 64 = b.length / 64 + (tailB b).length / 64 := by rw [hs, List.length_append, hl]; omega
  have h3 := blocksV_take vInit b (b.length / 64) (b.length / 64) (Nat.le_refl _)
  rw [Nat.mul_comm] at h3
  rw [h2, hs, h1, h3]
  rfl
theorem laidB_len (b : List UInt8) : (laidB b).length % 64 = 0 ∧ (laidB b).length ≤ b.length + 80 := by
  have h1 : (laidB b).length = b.length + 1 + padN b.length + 8 := by simp [laidB, lenB]; omega
  rw [h1]; unfold padN; omega
end Go.Proofs.Tryz.Ai
end
section
/- The document's SHA-256, walked. -/
namespace Go.Proofs.Tryz.Ai
open Go Go.AI Go.Proofs
set_option maxHeartbeats 4000000
set_option linter.unusedVariables false

def wc (B : List UInt8) (l : List Int) (n : Nat) : List AV := (sched B n).map (.int .u32) ++ (l.drop n).map (.int .u32)
theorem wc_len (B : List UInt8) (l : List Int) (n : Nat) (h : n ≤ 64) (hl : l.length = 64) : (wc B l n).length = 64 := by simp [wc, sched_len]; omega
theorem wc_get (B : List UInt8) (l : List Int) (n j : Nat) (h : j < n) : (wc B l n)[j]? = some (.int .u32 ((sched B n).getD j 0)) := by
  have hj : j < (sched B n).length := by rw [sched_len]; exact h
  unfold wc
  rw [List.getElem?_append_left (by simpa using hj), List.getElem?_map, List.getElem?_eq_getElem hj]
  simp [List.getD, hj]
theorem wc_set (B : List UInt8) (l : List Int) (n : Nat) (v : Int) (h : n < 64) (hl : l.length = 64) (hv : v = if n < 16 then wordAt B n else nextW (sched B n) n) : (wc B l n).take n ++ .int .u32 v :: (wc B l n).drop (n + 1) = wc B l (n + 1) := by
  unfold wc
  rw [List.take_append_of_le_length (by simp [sched_len]), List.take_of_length_le (by simp [sched_len])]
  rw [List.drop_append, List.drop_eq_nil_of_le (by simp [sched_len])]
  simp only [List.length_map, sched_len, sched, hv]
  rw [show n + 1 - n = 1 by omega, ← List.map_drop, List.drop_drop]
  simp
theorem addV_comm (x s : V8) : addV x s = addV s x := by unfold addV; simp only [wadd_comm]
theorem turns (σ : List (List AV)) (x : Int) : ev 56 [.int .u32 x, .int .i64 6] σ = some (.int .u32 (rotr x 6), σ) ∧ ev 56 [.int .u32 x, .int .i64 11] σ = some (.int .u32 (rotr x 11), σ) ∧
    ev 56 [.int .u32 x, .int .i64 25] σ = some (.int .u32 (rotr x 25), σ) ∧ ev 56 [.int .u32 x, .int .i64 2] σ = some (.int .u32 (rotr x 2), σ) ∧
    ev 56 [.int .u32 x, .int .i64 13] σ = some (.int .u32 (rotr x 13), σ) ∧ ev 56 [.int .u32 x, .int .i64 22] σ = some (.int .u32 (rotr x 22), σ) :=
  ⟨turn_eq x 6 (by omega) σ, turn_eq x 11 (by omega) σ, turn_eq x 25 (by omega) σ, turn_eq x 2 (by omega) σ, turn_eq x 13 (by omega) σ, turn_eq x 22 (by omega) σ⟩
theorem turns4 (σ : List (List AV)) (x : Int) : ev 56 [.int .u32 x, .int .i64 7] σ = some (.int .u32 (rotr x 7), σ) ∧ ev 56 [.int .u32 x, .int .i64 18] σ = some (.int .u32 (rotr x 18), σ) ∧
    ev 56 [.int .u32 x, .int .i64 17] σ = some (.int .u32 (rotr x 17), σ) ∧ ev 56 [.int .u32 x, .int .i64 19] σ = some (.int .u32 (rotr x 19), σ) :=
  ⟨turn_eq x 7 (by omega) σ, turn_eq x 18 (by omega) σ, turn_eq x 17 (by omega) σ, turn_eq x 19 (by omega) σ⟩

theorem rSHA256_eq (o : Own) (b : List UInt8) (hl : b.length ≤ 1073741824) (σ) : ev 33 [.sl o (b.map .u8)] σ = some (.sl (.ex 5 1) ((sha256 b).map .u8), σ) := by
  have hK := rconstants_eq σ
  have hB := Bytes_eq .sh b (by omega) (σ ++ [vInit.cs])
  have hcs : vInit.cs = [.int .u32 1779033703, .int .u32 3144134277, .int .u32 1013904242, .int .u32 2773480762, .int .u32 1359893119, .int .u32 2600822924, .int .u32 528734635, .int .u32 1541459225] := rfl
  rw [hcs] at hB
  obtain ⟨K, hKK⟩ : ∃ K, kConst.map (AV.int .u32) = K := ⟨_, rfl⟩
  rw [hKK] at hK
  have q0 : b.length + 1 ≤ most := by unfold most; omega
  refine EV_post rfl Tryz.func33 rfl (by simp [Tryz.ntmps33]) (by kernel_rfl) (by kernel_rfl) ?_
  simp (maxSteps := 4000000) [List.getElem?_cons_zero, List.getElem?_cons_succ, hK, hB, q0]
  -- zeros
  refine Post_loop (I := fun k : Nat => ⟨[(0, .sl o (b.map .u8)), (3, .sl (.ex 59 1) K), (4, .ms 59 1 σ.length 0 8), (5, .sl (.ex 5 1) ((b ++ [128] ++ List.replicate k 0).map .u8))], [], σ ++ [vInit.cs]⟩)
    (Pr := fun k => k ≤ padN b.length) (μ := fun k => padN b.length - k) (a := 0) (by simp [hcs]) (by omega) ?_
  intro k hk
  have hp64 : padN b.length < 64 := Nat.mod_lt _ (by omega)
  have hpe := padN_eq b.length k hk
  obtain ⟨L, hL⟩ : ∃ L, b ++ [128] ++ List.replicate k 0 = L := ⟨_, rfl⟩
  have hLl : L.length = b.length + 1 + k := by rw [← hL]; simp; omega
  simp only [hL]
  by_cases hc : k = padN b.length
  rotate_left
  · have c1 : ¬ ((L.length : Int).tmod 64 = 56) := by rw [Int.tmod_eq_emod_of_nonneg (by omega), hLl]; omega
    have q4 : L.length + 1 ≤ most := by unfold most; omega
    simp (maxSteps := 4000000) [List.getElem?_cons_zero, List.getElem?_cons_succ, c1, q4]
    refine ⟨k + 1, by omega, by omega, ?_⟩
    rw [← hL, List.replicate_succ']; simp
  have c1 : ((L.length : Int).tmod 64 = 56) := by rw [Int.tmod_eq_emod_of_nonneg (by omega), hLl]; omega
  have u1 : IntKind.u64.wrap (b.length : Int) = b.length := wrapU64 (by omega)
  have u2 : IntKind.u64.wrap ((b.length : Int) * 8) = ((8 * b.length : Nat) : Int) := by rw [wrapU64 (by omega)]; omega
  obtain ⟨n8, hn8⟩ : ∃ n8, 8 * b.length = n8 := ⟨_, rfl⟩
  rw [hn8] at u2
  simp (maxSteps := 4000000) [List.getElem?_cons_zero, List.getElem?_cons_succ, c1, u1, u2]
  clear c1
  -- the length
  refine Post_loop (I := fun i : Nat => ⟨[(3, .sl (.ex 59 1) K), (4, .ms 59 1 σ.length 0 8), (5, .sl (.ex 5 1) ((L ++ lenB b.length i).map .u8)), (6, .int .u64 n8), (7, .int .i64 (7 - (i : Int)))], [], σ ++ [vInit.cs]⟩)
    (Pr := fun i => i ≤ 8) (μ := fun i => 8 - i) (a := 0) (by simp [lenB]) (by omega) ?_
  intro i hi
  obtain ⟨M, hM⟩ : ∃ M, L ++ lenB b.length i = M := ⟨_, rfl⟩
  have hMl : M.length = L.length + i := by rw [← hM]; simp [lenB]
  simp only [hM]
  by_cases hi8 : i < 8
  · obtain ⟨t, ht⟩ : ∃ t : Int, 7 - (i : Int) = t := ⟨_, rfl⟩
    have q4 : 0 ≤ t := by omega
    obtain ⟨j, hj⟩ : ∃ j, 56 - 8 * i = j := ⟨_, rfl⟩
    have e1 : IntKind.i64.wrap (8 * t) = (j : Int) := by rw [wrap64 (by omega)]; omega
    have e4 : IntKind.i64.wrap (t - 1) = t - 1 := wrap64 (by omega)
    have q5 : ¬ (j : Int) < 0 := by omega
    have q6 : min j 64 = j := by omega
    have q7 : M.length + 1 ≤ most := by unfold most; omega
    have hfin := lenB_succ b.length i
    rw [hj, hn8] at hfin
    simp only [ht]
    simp (maxSteps := 4000000) [List.getElem?_cons_zero, List.getElem?_cons_succ, q4, e1, e4, q5, q6, q7, IntKind.bits]
    refine ⟨i + 1, by omega, by omega, ?_, by omega⟩
    rw [hfin, ← hM]
    simp [b8_wrap]
  have hi8' : i = 8 := by omega
  subst hi8'
  have hT : laidB b = M := by rw [← hM, ← hL, hc]; rfl
  have hTl := laidB_len b
  rw [hT] at hTl
  have hv64 : (64 : Nat) ≤ most := by unfold most; omega
  simp (maxSteps := 4000000) [List.getElem?_cons_zero, List.getElem?_cons_succ, hv64]
  obtain ⟨N, hN⟩ : ∃ N, M.length / 64 = N := ⟨_, rfl⟩
  have hMN : M.length = 64 * N := by omega
  clear hpe hp64 hi hMl hM
  -- the blocks
  refine Post_loop (I := fun p : Nat × List Int => ⟨[(3, .sl (.ex 59 1) K), (4, .ms 59 1 σ.length 0 8), (5, .sl (.ex 5 1) (M.map .u8)), (8, .ms 59 1 (σ.length + 1) 0 64), (9, .int .i64 ((64 * p.1 : Nat) : Int))], [], σ ++ [(blocksV vInit M p.1).cs, p.2.map (.int .u32)]⟩)
    (Pr := fun p => p.1 ≤ N ∧ p.2.length = 64) (μ := fun p => N - p.1) (a := (0, List.replicate 64 0)) (by simp [blocksV]) (by simp) ?_
  rintro ⟨n, l⟩ ⟨hn, hll⟩
  simp only at hn hll ⊢
  obtain ⟨X, hX⟩ : ∃ X, blocksV vInit M n = X := ⟨_, rfl⟩
  obtain ⟨i1, i2, i3, i4⟩ := cs_facts X
  obtain ⟨m, hm⟩ : ∃ m, 64 * n = m := ⟨_, rfl⟩
  simp only [hX, hm]
  by_cases hc2 : n < N
  · have q1 : m < M.length := by omega
    obtain ⟨B, hB2⟩ : ∃ B, (M.drop m).take 64 = B := ⟨_, rfl⟩
    have hBl : B.length = 64 := by rw [← hB2]; simp; omega
    have hBg : ∀ j, j < 64 → M[m + j]? = B[j]? := by
      intro j hj
      rw [← hB2, List.getElem?_take, if_pos hj, List.getElem?_drop]
    have hstep : blocksV vInit M (n + 1) = blockV kConst X B := by rw [blocksV, hX, hm, hB2]
    simp (maxSteps := 4000000) [List.getElem?_cons_zero, List.getElem?_cons_succ, q1]
    -- sixteen words of the block
    refine Post_loop (I := fun j : Nat => ⟨[(3, .sl (.ex 59 1) K), (4, .ms 59 1 σ.length 0 8), (5, .sl (.ex 5 1) (M.map .u8)), (8, .ms 59 1 (σ.length + 1) 0 64), (9, .int .i64 m), (10, .int .i64 j)], [], σ ++ [X.cs, wc B l j]⟩)
      (Pr := fun j => j ≤ 16) (μ := fun j => 16 - j) (a := 0) (by simp [wc, sched]) (by omega) ?_
    intro j hj
    have hlen := wc_len B l j (by omega) hll
    have w1 : IntKind.i64.wrap ((j : Int) + 1) = (j : Int) + 1 := wrap64 (by omega)
    by_cases h16 : j < 16
    · obtain ⟨m4, hm4⟩ : ∃ m4, m + 4 * j = m4 := ⟨_, rfl⟩
      have e4 : IntKind.i64.wrap (4 * (j : Int)) = 4 * (j : Int) := wrap64 (by omega)
      have e5 : IntKind.i64.wrap ((m : Int) + 4 * (j : Int)) = (m4 : Int) := by rw [wrap64 (by omega)]; omega
      have e6 : IntKind.i64.wrap ((m4 : Int) + 1) = ((m4 + 1 : Nat) : Int) := by rw [wrap64 (by omega)]; omega
      have e7 : IntKind.i64.wrap ((m4 : Int) + 2) = ((m4 + 2 : Nat) : Int) := by rw [wrap64 (by omega)]; omega
      have e8 : IntKind.i64.wrap ((m4 : Int) + 3) = ((m4 + 3 : Nat) : Int) := by rw [wrap64 (by omega)]; omega
      obtain ⟨x0, hx0⟩ : ∃ x, M[m4]? = some x := ⟨_, List.getElem?_eq_getElem (by omega)⟩
      obtain ⟨x1, hx1⟩ : ∃ x, M[m4 + 1]? = some x := ⟨_, List.getElem?_eq_getElem (by omega)⟩
      obtain ⟨x2, hx2⟩ : ∃ x, M[m4 + 2]? = some x := ⟨_, List.getElem?_eq_getElem (by omega)⟩
      obtain ⟨x3, hx3⟩ : ∃ x, M[m4 + 3]? = some x := ⟨_, List.getElem?_eq_getElem (by omega)⟩
      have b0 := hBg (4 * j) (by omega)
      have b1 := hBg (4 * j + 1) (by omega)
      have b2 := hBg (4 * j + 2) (by omega)
      have b3 := hBg (4 * j + 3) (by omega)
      rw [hm4, hx0] at b0
      rw [← Nat.add_assoc, hm4, hx1] at b1
      rw [← Nat.add_assoc, hm4, hx2] at b2
      rw [← Nat.add_assoc, hm4, hx3] at b3
      have hset := wc_set B l j (wordAt B j) (by omega) hll (by rw [if_pos h16])
      have hw : wordAt B j = wor (wor (wor (IntKind.u32.wrap ((x0.toNat : Int) * 16777216)) (IntKind.u32.wrap ((x1.toNat : Int) * 65536))) (IntKind.u32.wrap ((x2.toNat : Int) * 256))) (x3.toNat : Int) := by
        simp [wordAt, byteI, List.getD, ← b0, ← b1, ← b2, ← b3]
      rw [hw] at hset
      have h63 : j ≤ 63 := by omega
      have h64 : j < 64 := by omega
      clear hw hBg b0 b1 b2 b3 hm4
      simp (maxSteps := 4000000) [List.getElem?_cons_zero, List.getElem?_cons_succ, -getElem?_pos, h16, h63, h64, e4, e5, e6, e7, e8, hx0, hx1, hx2, hx3, wrapU32_byte, hlen, w1, or_fold, IntKind.bits, hset]
      exact ⟨j + 1, by omega, by omega, by simp, rfl⟩
    have hj16 : j = 16 := by omega
    subst hj16
    clear hBg w1
    simp (maxSteps := 4000000) [List.getElem?_cons_zero, List.getElem?_cons_succ, List.getElem?_cons_zero]
    -- the words behind
    refine Post_loop (I := fun k : Nat => ⟨[(3, .sl (.ex 59 1) K), (4, .ms 59 1 σ.length 0 8), (5, .sl (.ex 5 1) (M.map .u8)), (8, .ms 59 1 (σ.length + 1) 0 64), (9, .int .i64 m), (12, .int .i64 k)], [], σ ++ [X.cs, wc B l k]⟩)
      (Pr := fun k => 16 ≤ k ∧ k ≤ 64) (μ := fun k => 64 - k) (a := 16) (by simp) (by omega) ?_
    rintro k ⟨hk1, hk2⟩
    have hlen2 := wc_len B l k (by omega) hll
    have w1 : IntKind.i64.wrap ((k : Int) + 1) = (k : Int) + 1 := wrap64 (by omega)
    by_cases h64 : k < 64
    · obtain ⟨m1, h1⟩ : ∃ m, k - 15 = m := ⟨_, rfl⟩
      obtain ⟨m2, h2⟩ : ∃ m, k - 2 = m := ⟨_, rfl⟩
      obtain ⟨m3, h3⟩ : ∃ m, k - 16 = m := ⟨_, rfl⟩
      obtain ⟨m4, h4⟩ : ∃ m, k - 7 = m := ⟨_, rfl⟩
      have e1 : IntKind.i64.wrap ((k : Int) - 15) = (m1 : Int) := by rw [wrap64 (by omega)]; omega
      have e2 : IntKind.i64.wrap ((k : Int) - 2) = (m2 : Int) := by rw [wrap64 (by omega)]; omega
      have e3 : IntKind.i64.wrap ((k : Int) - 16) = (m3 : Int) := by rw [wrap64 (by omega)]; omega
      have e4 : IntKind.i64.wrap ((k : Int) - 7) = (m4 : Int) := by rw [wrap64 (by omega)]; omega
      have g1 := wc_get B l k m1 (by omega)
      have g2 := wc_get B l k m2 (by omega)
      have g3 := wc_get B l k m3 (by omega)
      have g4 := wc_get B l k m4 (by omega)
      have l1 : m1 < 64 := by omega
      have l2 : m2 < 64 := by omega
      have l3 : m3 < 64 := by omega
      have l4 : m4 < 64 := by omega
      have r1 := fun σ x => (turns4 σ x).1
      have r2 := fun σ x => (turns4 σ x).2.1
      have r3 := fun σ x => (turns4 σ x).2.2.1
      have r4 := fun σ x => (turns4 σ x).2.2.2
      have hset := wc_set B l k (nextW (sched B k) k) h64 hll (by rw [if_neg (by omega)])
      unfold nextW sig0 sig1 at hset
      rw [h1, h2, h3, h4] at hset
      have h63 : k ≤ 63 := by omega
      generalize (sched B k).getD m1 0 = y1 at *
      generalize (sched B k).getD m2 0 = y2 at *
      generalize (sched B k).getD m3 0 = y3 at *
      generalize (sched B k).getD m4 0 = y4 at *
      clear h1 h2 h3 h4 hlen
      simp (maxSteps := 4000000) [List.getElem?_cons_zero, List.getElem?_cons_succ, -getElem?_pos, h64, h63, e1, e2, e3, e4, g1, g2, g3, g4, l1, l2, l3, l4, r1, r2, r3, r4, hlen2, w1, xor_fold, add_fold, IntKind.bits, hset]
      exact ⟨k + 1, ⟨by omega, by omega⟩, by omega, by simp, rfl⟩
    have hk64 : k = 64 := by omega
    subst hk64
    clear hlen hlen2 w1
    obtain ⟨W, hW⟩ : ∃ W, sched B 64 = W := ⟨_, rfl⟩
    have hWl : W.length = 64 := by rw [← hW, sched_len]
    have hwc : wc B l 64 = W.map (.int .u32) := by unfold wc; rw [hW, List.drop_of_length_le (by omega)]; simp
    rw [hwc]
    obtain ⟨Wc, hWc2⟩ : ∃ Wc, W.map (AV.int .u32) = Wc := ⟨_, rfl⟩
    rw [hWc2]
    have h8 : (8 : Nat) ≤ most := by unfold most; omega
    have hpl : allCells 1 X.cs := by
      intro c hc; simp [V8.cs] at hc; rcases hc with rfl | rfl | rfl | rfl | rfl | rfl | rfl | rfl <;> exact ⟨rfl, fun c h => by simp [AV.cells] at h; subst h; rfl⟩
    simp (maxSteps := 4000000) [List.getElem?_cons_zero, List.getElem?_cons_succ, i1, i2, i3, i4, h8, hpl]
    have hWn : ∀ n, n < 64 → Wc[n]? = some (.int .u32 (W.getD n 0)) := fun n hn => by rw [← hWc2]; exact list_get W n 64 hWl hn
    have hKn : ∀ n, n < 64 → K[n]? = some (.int .u32 (kConst.getD n 0)) := fun n hn => by rw [← hKK]; exact list_get kConst n 64 rfl hn
    have hWcl : Wc.length = 64 := by rw [← hWc2]; simpa using hWl
    have hbv : blockV kConst X B = addV (roundsV X kConst W 64) X := by unfold blockV; rw [hW]
    rw [hbv] at hstep
    -- the rounds
    refine Post_loop (I := fun k : Nat => ⟨[(3, .sl (.ex 59 1) K), (4, .ms 59 1 σ.length 0 8), (5, .sl (.ex 5 1) (M.map .u8)), (8, .ms 59 1 (σ.length + 1) 0 64), (9, .int .i64 m), (15, .sl (.ex 59 1) (roundsV X kConst W k).cs), (16, .int .i64 k)], [], σ ++ [X.cs, Wc]⟩)
      (Pr := fun k => k ≤ 64) (μ := fun k => 64 - k) (a := 0) (by simp [roundsV]) (by omega) ?_
    intro k hk
    obtain ⟨x, hx⟩ : ∃ x, roundsV X kConst W k = x := ⟨_, rfl⟩
    have hxc : x.cs = [.int .u32 x.a, .int .u32 x.b, .int .u32 x.c, .int .u32 x.d, .int .u32 x.e, .int .u32 x.f, .int .u32 x.g, .int .u32 x.h] := rfl
    by_cases hlt : k < 64
    · have g1 := hWn k hlt
      have g2 := hKn k hlt
      have hs1 : roundsV X kConst W (k + 1) = roundV x (kConst.getD k 0) (W.getD k 0) := by rw [roundsV, hx]
      obtain ⟨kk, hkk⟩ : ∃ kk, kConst.getD k 0 = kk := ⟨_, rfl⟩
      obtain ⟨w, hw⟩ : ∃ w, W.getD k 0 = w := ⟨_, rfl⟩
      rw [hw] at g1 hs1
      rw [hkk] at g2 hs1
      clear hWn hKn hkk hw hbv hstep hpl
      have q2 : k ≤ 63 := by omega
      have w1 : IntKind.i64.wrap ((k : Int) + 1) = (k : Int) + 1 := wrap64 (by omega)
      have r1 := fun σ x => (turns σ x).1
      have r2 := fun σ x => (turns σ x).2.1
      have r3 := fun σ x => (turns σ x).2.2.1
      have r4 := fun σ x => (turns σ x).2.2.2.1
      have r5 := fun σ x => (turns σ x).2.2.2.2.1
      have r6 := fun σ x => (turns σ x).2.2.2.2.2
      obtain ⟨Xc, hXc⟩ : ∃ Xc, X.cs = Xc := ⟨_, rfl⟩
      have hmax : IntKind.u32.max = 4294967295 := rfl
      have hnot : ∀ a, bits .xor .u32 4294967295 a = wnot a := fun a => rfl
      have hsg : IntKind.u32.signed = false := rfl
      simp only [hx, hxc, hXc]
      simp (maxSteps := 4000000) [List.getElem?_cons_zero, List.getElem?_cons_succ, -getElem?_pos, hlt, q2, g1, g2, hWcl, w1, r1, r2, r3, r4, r5, r6, hnot, hsg, hmax, xor_fold, and_fold, add_fold]
      exact ⟨k + 1, by omega, by omega, by rw [hs1]; rfl, by simp⟩
    have hk64 : k = 64 := by omega
    subst hk64
    rw [hx] at hstep
    simp only [hx]
    have hst2 : blocksV vInit M (n + 1) = addV X x := by rw [hstep, addV_comm]
    clear hWn hKn hbv hstep
    have hz := addC_zero X x
    rw [V8.cs_eq] at hz
    obtain ⟨xc, hxc2⟩ : ∃ xc, x.cs = xc := ⟨_, rfl⟩
    have hxs : (x.l.map (AV.int .u32)) = xc := hxc2
    have hxcl : xc.length = 8 := by rw [← hxc2]; rfl
    simp only [hxc2]
    simp (maxSteps := 4000000) [List.getElem?_cons_zero, List.getElem?_cons_succ, hWcl]
    -- the sums
    refine Post_loop (I := fun j : Nat => ⟨[(3, .sl (.ex 59 1) K), (4, .ms 59 1 σ.length 0 8), (5, .sl (.ex 5 1) (M.map .u8)), (8, .ms 59 1 (σ.length + 1) 0 64), (9, .int .i64 m), (15, .sl (.ex 59 1) xc), (22, .int .i64 j)], [], σ ++ [addC X x j, Wc]⟩)
      (Pr := fun j => j ≤ 8) (μ := fun j => 8 - j) (a := 0) (by simp [hz]) (by omega) ?_
    intro j hj
    have hl8 := addC_len X x j
    by_cases hj8 : j < 8
    · obtain ⟨y, z, e1, e2, e3⟩ := addC_step X x j hj8
      rw [hxs] at e2
      have q2 : j ≤ 7 := by omega
      have w1 : IntKind.i64.wrap ((j : Int) + 1) = (j : Int) + 1 := wrap64 (by omega)
      simp (maxSteps := 4000000) [List.getElem?_cons_zero, List.getElem?_cons_succ, -getElem?_pos, q2, hj8, e1, e2, hl8, hxcl, w1, add_fold, e3]
      exact ⟨j + 1, by omega, by omega, by simp, rfl⟩
    have hj8' : j = 8 := by omega
    subst hj8'
    have w1 : IntKind.i64.wrap ((m : Int) + 64) = (m : Int) + 64 := wrap64 (by omega)
    have hce := addC_end X x
    rw [V8.cs_eq, ← hst2] at hce
    simp only [hce]
    simp (maxSteps := 4000000) [List.getElem?_cons_zero, List.getElem?_cons_succ, w1]
    refine ⟨n + 1, W, ⟨by omega, hWl⟩, by omega, by omega, by simp, hWc2.symm⟩
  · have hnN : n = N := by omega
    subst hnN
    have q1 : ¬ m < M.length := by omega
    simp (maxSteps := 4000000) [List.getElem?_cons_zero, List.getElem?_cons_succ, q1]
    -- what is handed back
    refine Post_loop (I := fun j : Nat => ⟨[(4, .ms 59 1 σ.length 0 8), (23, .sl (.ex 5 1) (((X.l.take j).flatMap out4).map .u8)), (24, .int .i64 j)], [], σ ++ [X.cs, l.map (.int .u32)]⟩)
      (Pr := fun j => j ≤ 8) (μ := fun j => 8 - j) (a := 0) (by simp) (by omega) ?_
    intro j hj
    obtain ⟨R, hR⟩ : ∃ R, (X.l.take j).flatMap out4 = R := ⟨_, rfl⟩
    have hRl : R.length ≤ 32 := by
      rw [← hR]
      have : ∀ l : List Int, (l.flatMap out4).length = 4 * l.length := by
        intro l
        induction l with
        | nil => rfl
        | cons a r ih => rw [List.flatMap_cons, List.length_append, ih]; simp [out4]; omega
      rw [this]; simp [V8.l]; omega
    simp only [hR]
    by_cases hj8 : j < 8
    · have q2 : j ≤ 7 := by omega
      have g := cs_get X j hj8
      obtain ⟨v, hv⟩ : ∃ v, X.l.getD j 0 = v := ⟨_, rfl⟩
      have hfin := out_succ X j hj8
      rw [hv] at g hfin
      have e4 : IntKind.i64.wrap ((j : Int) + 1) = (j : Int) + 1 := wrap64 (by omega)
      have q7 : R.length + 4 ≤ most := by unfold most; omega
      simp (maxSteps := 4000000) [List.getElem?_cons_zero, List.getElem?_cons_succ, -getElem?_pos, q2, hj8, g, e4, i1, q7, IntKind.bits]
      refine ⟨j + 1, by omega, by omega, ?_, by omega⟩
      rw [hfin, hR]
      simp [out4, b8_wrap]
    have hj8' : j = 8 := by omega
    subst hj8'
    have hfin : sha256 b = R := by
      rw [sha256_laid, hT, hN, hX, ← hR]
      rfl
    rw [hfin]
    simp (maxSteps := 4000000) [List.getElem?_cons_zero, List.getElem?_cons_succ, Tryz.results33]
end Go.Proofs.Tryz.Ai
end
section
/- mewsref's small functions. -/
namespace Go.Proofs.Tryz.Ai
open Go Go.AI Go.Proofs
set_option maxHeartbeats 2000000
set_option linter.unusedVariables false

theorem Equal_eq (o o' : Own) (a b : List UInt8) (σ) : ev 34 [.sl o (a.map .u8), .sl o' (b.map .u8)] σ = some (.bool (a == b), σ) := by
  have hb := bytesOf_map
  refine EV_post rfl Tryz.func34 rfl (by simp [Tryz.ntmps34]) (by kernel_rfl) (by kernel_rfl) ?_
  simp (maxSteps := 4000000) [List.getElem?_cons_zero, List.getElem?_cons_succ, -AV.u8, hb, Tryz.results34]
theorem SameBytes_eq (o o' : Own) (a b : List UInt8) (ha : a.length ≤ 2 ^ 40) (σ) : ev 10 [.sl o (a.map .u8), .sl o' (b.map .u8)] σ = some (.bool (a == b), σ) := by
  refine EV_post rfl Tryz.func10 rfl (by simp [Tryz.ntmps10]) (by kernel_rfl) (by kernel_rfl) ?_
  by_cases hl : a.length = b.length
  · simp (maxSteps := 4000000) [List.getElem?_cons_zero, List.getElem?_cons_succ, hl]
    refine Post_loop (I := fun i : Nat => ⟨[(0, .sl o (a.map .u8)), (1, .sl o' (b.map .u8)), (5, .int .i64 i)], [], σ⟩) (Pr := fun i => i ≤ a.length ∧ a.take i = b.take i) (μ := fun i => a.length - i) (a := 0) (by simp) (by simp) ?_
    rintro i ⟨hi, he⟩
    by_cases hc : i < b.length
    · obtain ⟨x, hx⟩ : ∃ x, a[i]? = some x := ⟨_, List.getElem?_eq_getElem (by omega)⟩
      obtain ⟨y, hy⟩ : ∃ y, b[i]? = some y := ⟨_, List.getElem?_eq_getElem (by omega)⟩
      have w1 : IntKind.i64.wrap ((i : Int) + 1) = (i : Int) + 1 := wrap64 (by omega)
      by_cases hxy : x = y
      · subst hxy
        simp (maxSteps := 4000000) [List.getElem?_cons_zero, List.getElem?_cons_succ, -getElem?_pos, hl, hc, hx, hy, w1]
        refine ⟨i + 1, ⟨by omega, ?_⟩, by omega, by simp⟩
        rw [List.take_add_one, List.take_add_one, he, hx, hy]
      · have hne : (a == b) = false := by
          rw [beq_eq_false_iff_ne]; intro e; rw [e, hy] at hx; injection hx with hx; exact hxy hx.symm
        simp (maxSteps := 4000000) [List.getElem?_cons_zero, List.getElem?_cons_succ, -getElem?_pos, hl, hc, hx, hy, hxy, hne, Tryz.results10]
    · have h1 : a = b := by
        rw [← List.take_of_length_le (show a.length ≤ i by omega), ← List.take_of_length_le (show b.length ≤ i by omega), he]
      have h2 : (a == b) = true := by simpa using h1
      simp (maxSteps := 4000000) [List.getElem?_cons_zero, List.getElem?_cons_succ, hl, hc, h2, Tryz.results10]
  · have h2 : (a == b) = false := by rw [beq_eq_false_iff_ne]; intro e; exact hl (by rw [e])
    simp (maxSteps := 4000000) [List.getElem?_cons_zero, List.getElem?_cons_succ, hl, h2, Tryz.results10]
theorem suffix_drop {a b : List UInt8} (h : b.length ≤ a.length) : (a.drop (a.length - b.length) == b) = decide (b <:+ a) := by
  rw [Bool.eq_iff_iff, beq_iff_eq, decide_eq_true_iff, List.suffix_iff_eq_drop]
  exact ⟨fun h => h.symm, fun h => h.symm⟩
theorem Ends_eq (a b : List UInt8) (ha : a.length ≤ 2 ^ 40) (hb : b.length ≤ 2 ^ 40) (σ) : ev 54 [.str a, .str b] σ = some (.bool (decide (b <:+ a)), σ) := by
  refine EV_post rfl Tryz.func54 rfl (by simp [Tryz.ntmps54]) (by kernel_rfl) (by kernel_rfl) ?_
  by_cases hc : b.length ≤ a.length
  · obtain ⟨k, hk⟩ : ∃ k, a.length - b.length = k := ⟨_, rfl⟩
    have c1 : (b.length : Int) ≤ a.length := by omega
    have w1 : IntKind.i64.wrap ((a.length : Int) - b.length) = (k : Int) := by rw [wrap64 (by omega)]; omega
    have c2 : k ≤ a.length := by omega
    have e := suffix_drop hc
    rw [hk] at e
    simp (maxSteps := 4000000) [List.getElem?_cons_zero, List.getElem?_cons_succ, c1, hc, w1, c2, e, Tryz.results54]
  · have c1 : ¬ (b.length : Int) ≤ a.length := by omega
    have e : ¬ b <:+ a := fun h => hc h.length_le
    simp (maxSteps := 4000000) [List.getElem?_cons_zero, List.getElem?_cons_succ, c1, hc, e, Tryz.results54]
theorem BytesM_eq (o : Own) (x : UInt8) (l : List UInt8) (hl : l.length ≤ 2 ^ 39) (σ) : ev (100000 + 45) [.sl o ((x :: l).map .u8)] σ = some (.ms 5 1 σ.length 0 (l.length + 1), σ ++ [(x :: l).map .u8]) := by
  refine EV_post rfl Tryz.func45 rfl (by simp [Tryz.ntmps45]) (by kernel_rfl) (by kernel_rfl) ?_
  simp (maxSteps := 4000000) [List.getElem?_cons_zero, List.getElem?_cons_succ, Tryz.results45]
  repeat (rw [need_of]; rotate_left; (· (try unfold most); omega); simp (maxSteps := 4000000) [List.getElem?_cons_zero, List.getElem?_cons_succ, Tryz.results45])
theorem BytesM_nil (o : Own) (σ) : ev (100000 + 45) [.sl o []] σ = some (.sl (.ex 5 1) [], σ) := by
  refine EV_post rfl Tryz.func45 rfl (by simp [Tryz.ntmps45]) (by kernel_rfl) (by kernel_rfl) ?_
  simp (maxSteps := 4000000) [List.getElem?_cons_zero, List.getElem?_cons_succ, Tryz.results45]
  repeat (rw [need_of]; rotate_left; (· (try unfold most); omega); simp (maxSteps := 4000000) [List.getElem?_cons_zero, List.getElem?_cons_succ, Tryz.results45])
theorem Lent_eq (l : List UInt8) (hl : l.length ≤ 2 ^ 38) (σ : List (List AV)) : ∃ b j, ev 18 [.sl .sh (l.map .u8)] σ = some (.ms 5 1 b 0 l.length, σ ++ j) ∧ (σ ++ j)[b]? = some ((l ++ [201]).map .u8) ∧ σ.length ≤ b := by
  cases l with
  | nil =>
    have h := BytesM_nil .sh
    refine ⟨σ.length, [[.u8 201]], ?_, by simp, Nat.le_refl _⟩
    refine EV_post rfl Tryz.func18 rfl (by simp [Tryz.ntmps18]) (by kernel_rfl) (by kernel_rfl) ?_
    simp (maxSteps := 4000000) [List.getElem?_cons_zero, List.getElem?_cons_succ, h, Tryz.results18]
    repeat (rw [need_of]; rotate_left; (· (try unfold most); omega); simp (maxSteps := 4000000) [List.getElem?_cons_zero, List.getElem?_cons_succ, h, Tryz.results18])
  | cons x l =>
    have h := BytesM_eq .sh x l (by simp at hl; omega)
    refine ⟨σ.length + 1, [[], (x :: (l ++ [201])).map .u8], ?_, by simp, by omega⟩
    simp at h hl
    refine EV_post rfl Tryz.func18 rfl (by simp [Tryz.ntmps18]) (by kernel_rfl) (by kernel_rfl) ?_
    simp (maxSteps := 4000000) [List.getElem?_cons_zero, List.getElem?_cons_succ, h, Tryz.results18]
    repeat (rw [need_of]; rotate_left; (· (try unfold most); omega); simp (maxSteps := 4000000) [List.getElem?_cons_zero, List.getElem?_cons_succ, h, Tryz.results18])
theorem SameBytesM_eq (b : Nat) (k : Nat) (c : List UInt8) (l : List UInt8) (hl : l.length ≤ 2 ^ 39) (σ : List (List AV)) (hb : σ[b]? = some (c.map .u8)) (hk : k ≤ c.length) :
    ev 10 [.ms 5 1 b 0 k, .sl .sh (l.map .u8)] σ = some (.bool (c.take k == l), σ) := by
  refine EV_post rfl Tryz.func10 rfl (by simp [Tryz.ntmps10]) (by kernel_rfl) (by kernel_rfl) ?_
  by_cases hkl : k = l.length
  · subst hkl
    simp (maxSteps := 4000000) [List.getElem?_cons_zero, List.getElem?_cons_succ, ]
    refine Post_loop (I := fun i : Nat => ⟨[(0, .ms 5 1 b 0 l.length), (1, .sl .sh (l.map .u8)), (5, .int .i64 i)], [], σ⟩) (Pr := fun i => i ≤ l.length ∧ c.take i = l.take i) (μ := fun i => l.length - i) (a := 0) (by simp) (by simp) ?_
    rintro i ⟨hi, hn⟩
    by_cases hc : i < l.length
    · obtain ⟨x, hx⟩ : ∃ x, l[i]? = some x := ⟨_, List.getElem?_eq_getElem hc⟩
      obtain ⟨y, hy⟩ : ∃ x, c[i]? = some x := ⟨_, List.getElem?_eq_getElem (by omega)⟩
      have w1 : IntKind.i64.wrap ((i : Int) + 1) = (i : Int) + 1 := wrap64 (by omega)
      by_cases hxy : y = x
      · subst hxy
        simp (maxSteps := 4000000) [List.getElem?_cons_zero, List.getElem?_cons_succ, -getElem?_pos, hc, hb, hx, hy, w1]
        exact ⟨i + 1, ⟨by omega, by rw [List.take_add_one, List.take_add_one, hx, hy, hn]⟩, by omega, by simp⟩
      · have hne : ¬ List.take l.length c = l := by
          intro e
          rw [← e, List.getElem?_take, if_pos hc, hy] at hx
          exact hxy (by simpa using hx)
        simp (maxSteps := 4000000) [List.getElem?_cons_zero, List.getElem?_cons_succ, -getElem?_pos, hc, hb, hx, hy, hxy, hne, Tryz.results10]
    · have he : List.take l.length c = l := by
        have : i = l.length := by omega
        subst this
        rw [hn]; simp
      simp (maxSteps := 4000000) [List.getElem?_cons_zero, List.getElem?_cons_succ, hc, he, Tryz.results10]
  · have hne : (c.take k == l) = false := by
      rw [beq_eq_false_iff_ne]; intro e
      rw [← e] at hkl; simp at hkl; omega
    simp (maxSteps := 4000000) [List.getElem?_cons_zero, List.getElem?_cons_succ, hkl, hne, Tryz.results10]
theorem Kept_eq (b : Nat) (l : List UInt8) (n : Nat) (hn : l.length = n) (hl : n ≤ 2 ^ 38) (σ : List (List AV)) (hb : σ[b]? = some ((l ++ [201]).map .u8)) : ev 19 [.ms 5 1 b 0 n, .sl .sh (l.map .u8)] σ = some (.bool true, σ) := by
  have h := SameBytesM_eq b n (l ++ [201]) l (by omega) σ hb (by simp; omega)
  have e : ((l ++ [201]).take n == l) = true := by subst hn; simp
  rw [e] at h
  have w1 : IntKind.i64.wrap ((n : Int) + 1) = ((n + 1 : Nat) : Int) := by rw [wrap64 (by omega)]; omega
  have hlen : n + 1 ≤ ((l ++ [201]).map AV.u8).length := by simp; omega
  have hlast : ((l ++ [201]).map AV.u8)[n]? = some (.u8 201) := by subst hn; simp
  obtain ⟨C, hC⟩ : ∃ C, (l ++ [201]).map AV.u8 = C := ⟨_, rfl⟩
  rw [hC] at hb hlen hlast
  obtain ⟨m, hm⟩ : ∃ m, n + 1 = m := ⟨_, rfl⟩
  have q1 : n < m := by omega
  rw [hm] at w1 hlen
  refine EV_post rfl Tryz.func19 rfl (by simp [Tryz.ntmps19]) (by kernel_rfl) (by kernel_rfl) ?_
  simp (maxSteps := 4000000) [List.getElem?_cons_zero, List.getElem?_cons_succ, -getElem?_pos, h, w1, hb, hlen, hlast, hn, q1, Tryz.results19]
end Go.Proofs.Tryz.Ai
end
