/- Part 8 of a proof: Go functions are evaluated on abstract values; no conditions beyond those of each theorem. -/
import Derived.Test.YtjkkcelnfokplaaGreatDoorFi7
set_option linter.all false
set_option maxHeartbeats 16000000
set_option maxRecDepth 4000
section
namespace Go.Proofs.Tryz.Ai
open Go Go.AI Go.Proofs
end Go.Proofs.Tryz.Ai
end
section
namespace Go.Proofs.Tryz.Ai
open Go Go.AI Go.Proofs
abbrev Rq:=List UInt8×List UInt8×Bool
abbrev Rp:=(List UInt8×List UInt8)×(List UInt8×List UInt8)
abbrev Rt:=List UInt8×List UInt8
end Go.Proofs.Tryz.Ai
end
