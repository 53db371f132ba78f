/-
  Calls that the machine runs, one by one; no conditions.
-/
import Derived.Test.YtoigofkddkpijaaGreatAc5
namespace Go.Vm
noncomputable section
def A6 : List AV := [.agg [.str [102], .lit (.int .i64 0), .sl .ro [.agg [.lit (.int .i64 26), .lit (.int .i64 0), .sl .ro []], .agg [.lit (.int .i64 1), .lit (.int .i64 0), .sl .ro []], .agg [.lit (.int .i64 1), .lit (.int .i64 9), .sl .ro []], .agg [.lit (.int .i64 17), .lit (.int .i64 0), .sl .ro [.lit (.int .i64 1), .lit (.int .i64 2)]], .agg [.lit (.int .i64 3), .lit (.int .i64 0), .sl .ro []], .agg [.lit (.int .i64 3), .lit (.int .i64 1), .sl .ro []], .agg [.lit (.int .i64 1), .lit (.int .i64 1), .sl .ro []], .agg [.lit (.int .i64 4), .lit (.int .i64 0), .sl .ro [.lit (.int .i64 5), .lit (.int .i64 6)]], .agg [.lit (.int .i64 17), .lit (.int .i64 0), .sl .ro [.lit (.int .i64 7), .lit (.int .i64 2)]], .agg [.lit (.int .i64 31), .lit (.int .i64 0), .sl .ro [.lit (.int .i64 0), .lit (.int .i64 1), .lit (.int .i64 8), .lit (.int .i64 4), .lit (.int .i64 7)]], .agg [.lit (.int .i64 25), .lit (.int .i64 0), .sl .ro [.lit (.int .i64 9)]], .agg [.lit (.int .i64 22), .lit (.int .i64 0), .sl .ro [.lit (.int .i64 3), .lit (.int .i64 10), .lit (.int .i64 0)]], .agg [.lit (.int .i64 25), .lit (.int .i64 1), .sl .ro [.lit (.int .i64 9)]], .agg [.lit (.int .i64 22), .lit (.int .i64 0), .sl .ro [.lit (.int .i64 3), .lit (.int .i64 12), .lit (.int .i64 1)]]], .lit (.int .i64 13), .lit (.int .i64 11)], .sl .ro [.agg [.lit (.int .i64 1), .lit (.int .i64 0), .lit (.int .i64 8)]]]
def R6 : AV := .lit (.bool true)
theorem run6 : callL G T5 400 15 A6 s00 = some (R6, s00) := by kernel_rfl
def T6 : Tab := T5.add 15 A6 R6
theorem T6_ok : TabOk G T6 2406 := T5_ok.add rfl run6
end
end Go.Vm
