/- linkboynum: a copy with marked room behind, and whether list and room stand as they stood. -/
import Derived.Test.YtmcgkknpkocgoaaGreatDoorProg
import Derived.Test.YtmcgkknpkocgoaaGreatDoorMem
import Derived.Handy
import Derived.LoopTactic
import Derived.KernelRfl
import Derived.Outline
import Derived.BigQuiet
import Derived.Deep.QuietTactic
namespace Go.Proofs.YtmcgkknpkocgoaaGreatDoor.Num
open Go.RowKit Go.Proofs.YtmcgkknpkocgoaaGreatDoor.Mem
set_option linter.unusedVariables false
set_option linter.unusedSimpArgs false

theorem infoU8 : (Tryz.prog.info? 5).map (fun i => (i.zero, i.size, i.bytes)) = some (some (.int .u8 0), 1, 1) := by kernel_rfl
end Go.Proofs.YtmcgkknpkocgoaaGreatDoor.Num
