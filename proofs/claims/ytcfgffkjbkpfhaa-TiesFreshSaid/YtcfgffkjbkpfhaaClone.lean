/- bytes.Clone. -/
import Derived.Test.YtcfgffkjbkpfhaaNum
import Derived.Lib.Hide
import Derived.Lib.LazyBuf
import Derived.Handy
namespace Go.Proofs.Ytcfgffkjbkpfhaa.Clone
open Go.RowKit Go.Proofs.Ytcfgffkjbkpfhaa.Mem Go.Proofs.Ytcfgffkjbkpfhaa.Num
set_option linter.unusedVariables false
set_option linter.unusedSimpArgs false
set_option maxRecDepth 100000
/-! A copy of bytes. -/
end Go.Proofs.Ytcfgffkjbkpfhaa.Clone
