/-
  Calls that the machine runs, one by one; no conditions.
-/
import Derived.Test.YtoigofkddkpijaaGreatAx3
namespace Go.Vm
noncomputable section
def A7 : List AV := [.agg [.lit (.int .i64 5), .lit (.int .i64 1), .lit (.int .i64 1), .lit (.int .i64 0)], .sl .ro [.agg [.lit (.int .i64 0), .lit (.int .i64 3)]], .sl .ro [.lit (.int .i64 4)]]
def R7 : AV := .lit (.bool true)
theorem run7 : callL G T6 400 16 A7 s00 = some (R7, s00) := by kernel_rfl
def T7 : Tab := T6.add 16 A7 R7
theorem T7_ok : TabOk G T7 2807 := T6_ok.add rfl run7
end
end Go.Vm
