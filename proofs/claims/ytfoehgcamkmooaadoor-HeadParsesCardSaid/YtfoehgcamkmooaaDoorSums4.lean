/- The laws SumsCheck, SumsChange. -/
import Derived.Test.YtfoehgcamkmooaaDoorSums3
import Derived.BigQuiet
import Derived.Deep.QuietTactic
namespace Go.Proofs.YtfoehgcamkmooaaDoor.Sums
open Go.RowKit Go.Proofs.YtfoehgcamkmooaaDoor.Mem Go.Proofs.YtfoehgcamkmooaaDoor.Num Go.Proofs.YtfoehgcamkmooaaDoor.SumsP
set_option linter.unusedVariables false
set_option linter.unusedSimpArgs false
end Go.Proofs.YtfoehgcamkmooaaDoor.Sums
