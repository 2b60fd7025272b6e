/- The plain law of FnExactConstants: what the printed functions compute, and that it answers true: for every input that the statement lets in. -/
import Derived.Test.YtdceajeldlnkkaaPFnExactConstantsx
import Derived.Test.YtdceajeldlnkkaaThA
namespace Go.Proofs.Ytdceajeldlnkkaa.Pure
open Go Go.RowKit Go.Proofs.Ytdceajeldlnkkaa.PFnExactConstants Go.Proofs.YtdceajeldlnkkaaW.PrintWords Go.Proofs.YtdceajeldlnkkaaW.PrintLast Go.Proofs.Ytdceajeldlnkkaa
set_option linter.unusedVariables false
set_option linter.unusedSimpArgs false
set_option maxRecDepth 10000
theorem FnExactConstants : laws_FnExactConstants.Pure := by
  unfold laws_FnExactConstants.Pure laws_FnExactConstants.f
  rfl

end Go.Proofs.Ytdceajeldlnkkaa.Pure
