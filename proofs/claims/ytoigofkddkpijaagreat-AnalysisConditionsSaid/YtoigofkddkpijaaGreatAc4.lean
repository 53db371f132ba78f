/-
  Calls that the machine runs, one by one; no conditions.
-/
import Derived.Test.YtoigofkddkpijaaGreatAc3
namespace Go.Vm
noncomputable section
def A4 : List AV := [.sl .ro [.agg [.lit (.int .i64 26), .lit (.int .i64 0), .sl .ro []], .agg [.lit (.int .i64 1), .lit (.int .i64 0), .sl .ro []], .agg [.lit (.int .i64 1), .lit (.int .i64 9), .sl .ro []], .agg [.lit (.int .i64 17), .lit (.int .i64 0), .sl .ro [.lit (.int .i64 1), .lit (.int .i64 2)]], .agg [.lit (.int .i64 3), .lit (.int .i64 0), .sl .ro []], .agg [.lit (.int .i64 3), .lit (.int .i64 1), .sl .ro []], .agg [.lit (.int .i64 1), .lit (.int .i64 1), .sl .ro []], .agg [.lit (.int .i64 4), .lit (.int .i64 0), .sl .ro [.lit (.int .i64 5), .lit (.int .i64 6)]], .agg [.lit (.int .i64 17), .lit (.int .i64 0), .sl .ro [.lit (.int .i64 7), .lit (.int .i64 2)]], .agg [.lit (.int .i64 31), .lit (.int .i64 0), .sl .ro [.lit (.int .i64 0), .lit (.int .i64 1), .lit (.int .i64 8), .lit (.int .i64 4), .lit (.int .i64 7)]], .agg [.lit (.int .i64 25), .lit (.int .i64 0), .sl .ro [.lit (.int .i64 9)]], .agg [.lit (.int .i64 22), .lit (.int .i64 0), .sl .ro [.lit (.int .i64 3), .lit (.int .i64 10), .lit (.int .i64 0)]], .agg [.lit (.int .i64 25), .lit (.int .i64 1), .sl .ro [.lit (.int .i64 9)]], .agg [.lit (.int .i64 22), .lit (.int .i64 0), .sl .ro [.lit (.int .i64 3), .lit (.int .i64 12), .lit (.int .i64 1)]]]]
def R4 : AV := .sl .ro [.lit (.int .i64 2), .lit (.int .i64 1), .lit (.int .i64 1), .lit (.int .i64 1), .lit (.int .i64 2), .lit (.int .i64 1), .lit (.int .i64 1), .lit (.int .i64 1), .lit (.int .i64 1), .lit (.int .i64 3), .lit (.int .i64 2), .lit (.int .i64 2), .lit (.int .i64 1), .lit (.int .i64 1)]
theorem run4 : callL G T3 400 45 A4 s00 = some (R4, s00) := by kernel_rfl
def T4 : Tab := T3.add 45 A4 R4
theorem T4_ok : TabOk G T4 1604 := T3_ok.add rfl run4
end
end Go.Vm
