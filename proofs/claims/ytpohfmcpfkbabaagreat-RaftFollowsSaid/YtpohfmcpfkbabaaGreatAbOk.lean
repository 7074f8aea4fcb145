/- A part of the evaluator. Conditions: none. -/
import Derived.Test.YtpohfmcpfkbabaaGreatAbEnv
import Derived.KernelRfl
set_option linter.unusedSimpArgs false
set_option linter.unusedVariables false
set_option maxRecDepth 100000
namespace Go.Ab.R
open Go Go.Proofs
theorem all_ok : ((List.range 273).all fun f => match entry env.P f with | some (fn, c) => (env.prim f).isSome || okCode env f fn.ntmps c | none => true) = true := by kernel_rfl
theorem n_funcs : env.P.funcs.size = 273 := by kernel_rfl
end Go.Ab.R
