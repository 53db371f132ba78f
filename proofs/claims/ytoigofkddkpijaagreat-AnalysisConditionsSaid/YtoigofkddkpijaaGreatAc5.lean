/-
  Calls that the machine runs, one by one; no conditions.
-/
import Derived.Test.YtoigofkddkpijaaGreatAc4
namespace Go.Vm
noncomputable section
def A5 : List AV := [.agg [.str [102], .lit (.int .i64 0), .sl .ro [.agg [.lit (.int .i64 26), .lit (.int .i64 0), .sl .ro []], .agg [.lit (.int .i64 1), .lit (.int .i64 0), .sl .ro []], .agg [.lit (.int .i64 1), .lit (.int .i64 9), .sl .ro []], .agg [.lit (.int .i64 17), .lit (.int .i64 0), .sl .ro [.lit (.int .i64 1), .lit (.int .i64 2)]], .agg [.lit (.int .i64 3), .lit (.int .i64 0), .sl .ro []], .agg [.lit (.int .i64 3), .lit (.int .i64 1), .sl .ro []], .agg [.lit (.int .i64 1), .lit (.int .i64 1), .sl .ro []], .agg [.lit (.int .i64 4), .lit (.int .i64 0), .sl .ro [.lit (.int .i64 5), .lit (.int .i64 6)]], .agg [.lit (.int .i64 17), .lit (.int .i64 0), .sl .ro [.lit (.int .i64 7), .lit (.int .i64 2)]], .agg [.lit (.int .i64 31), .lit (.int .i64 0), .sl .ro [.lit (.int .i64 0), .lit (.int .i64 1), .lit (.int .i64 8), .lit (.int .i64 4), .lit (.int .i64 7)]], .agg [.lit (.int .i64 25), .lit (.int .i64 0), .sl .ro [.lit (.int .i64 9)]], .agg [.lit (.int .i64 22), .lit (.int .i64 0), .sl .ro [.lit (.int .i64 3), .lit (.int .i64 10), .lit (.int .i64 0)]], .agg [.lit (.int .i64 25), .lit (.int .i64 1), .sl .ro [.lit (.int .i64 9)]], .agg [.lit (.int .i64 22), .lit (.int .i64 0), .sl .ro [.lit (.int .i64 3), .lit (.int .i64 12), .lit (.int .i64 1)]]], .lit (.int .i64 13), .lit (.int .i64 11)]]
def R5 : AV := .sl .ro [.agg [.lit (.int .i64 1), .lit (.int .i64 0), .lit (.int .i64 8)]]
theorem run5 : callL G T4 400 14 A5 s00 = some (R5, s00) := by kernel_rfl
def T5 : Tab := T4.add 14 A5 R5
theorem T5_ok : TabOk G T5 2005 := T4_ok.add rfl run5
end
end Go.Vm
