import Derived.Test.YtgefdmkmobaefaaT19
set_option linter.unusedSimpArgs false
set_option linter.unusedVariables false
namespace Go.Proofs.Ytgefdmkmobaefaa
open Go.Am Go.Am.Nm Go.Lib Go.Cr
end Go.Proofs.Ytgefdmkmobaefaa
