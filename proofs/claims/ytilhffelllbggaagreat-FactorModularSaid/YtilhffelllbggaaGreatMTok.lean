/-
  The tables of this program hold.
-/
import Derived.Test.YtilhffelllbggaaGreatMTd
import Derived.Test.YtilhffelllbggaaGreatMG
set_option linter.unusedVariables false
set_option linter.unusedSimpArgs false
set_option maxRecDepth 100000
namespace Go.Proofs
open Go.Sh
theorem roots_ok:AllG roots:=⟨Tb.t572,trivial⟩
theorem cfgT_ok:CfgOk Tryz.prog cT:=cfg_of mixd allFn (fun f args v h=>by
 obtain⟨x,hx,rfl,rfl,rfl⟩:=lookE_ok h
 exact allG roots_ok x hx) tyL_tr fnL_tr
end Go.Proofs
