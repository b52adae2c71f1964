/- Part 8 of a proof: a Go function is evaluated on abstract values (texts So6 .. D0); no conditions beyond those of each theorem. -/
import Derived.Test.YtjkkcelnfokplaaGreatDoorAi7
set_option linter.all false
set_option linter.unusedVariables false
set_option linter.unusedSimpArgs false
set_option linter.unnecessarySimpa false
section
namespace Go.Proofs.Tryz.Ai
open Go Go.AI Go.Proofs
set_option maxHeartbeats 2000000
set_option linter.unusedVariables false
end Go.Proofs.Tryz.Ai
end
section
namespace Go.Proofs.Tryz.Ai
open Go Go.AI Go.Proofs
abbrev Rq:=List UInt8×List UInt8×Bool
abbrev Rp:=(List UInt8×List UInt8)×(List UInt8×List UInt8)
abbrev Rt:=List UInt8×List UInt8
end Go.Proofs.Tryz.Ai
end
