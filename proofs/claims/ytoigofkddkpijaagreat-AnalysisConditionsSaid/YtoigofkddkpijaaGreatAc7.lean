/-
  The law without parameters runs to true; no conditions.
-/
import Derived.Test.YtoigofkddkpijaaGreatAc6
namespace Go.Vm
noncomputable section
theorem runLaw : callL G T6 400 3 [] s00 = some (.lit (.bool true), s00) := by kernel_rfl
theorem law3 (s : St) : Runs G 3 [] s (.lit (.bool true)) s := Runs.alone rfl (Tab.runs T6_ok runLaw) s
end
end Go.Vm
