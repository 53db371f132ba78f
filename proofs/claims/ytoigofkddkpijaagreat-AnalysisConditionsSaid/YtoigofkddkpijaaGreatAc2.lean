/-
  Calls that the machine runs, one by one; no conditions.
-/
import Derived.Test.YtoigofkddkpijaaGreatAc1
namespace Go.Vm
noncomputable section
def A2 : List AV := [.str [102, 117, 110, 99, 32, 102, 40, 41, 32, 118, 97, 114, 32, 105, 32, 123, 32, 119, 104, 105, 108, 101, 32, 40, 105, 32, 60, 32, 57, 41, 32, 123, 32, 105, 32, 61, 32, 105, 32, 43, 32, 49, 59, 32, 125, 32, 114, 101, 116, 117, 114, 110, 32, 105, 59, 32, 125]]
def R2 : AV := .tup [.agg [.sl .ro [], .sl .ro [.agg [.str [102], .sl .ro [], .sl .ro [.str [105]], .sl .ro [.agg [.lit (.int .i64 4), .str [], .str [], .lit (.int .i64 0), .lit (.int .i64 0), .lit (.int .i64 0), .str [], .lit (.int .i64 0), .sl .ro [], .lit (.int .i64 4), .lit (.int .i64 0), .str [], .lit (.int .i64 17), .sl .ro [.agg [.lit (.int .i64 2), .lit (.int .i64 0), .str [105], .lit (.int .i64 0), .sl .ro []], .agg [.lit (.int .i64 1), .lit (.int .i64 9), .str [], .lit (.int .i64 0), .sl .ro []]], .sl .ro [], .sl .ro [.agg [.lit (.int .i64 1), .str [105], .str [], .lit (.int .i64 0), .lit (.int .i64 0), .lit (.int .i64 0), .str [], .lit (.int .i64 0), .sl .ro [], .lit (.int .i64 4), .lit (.int .i64 0), .str [], .lit (.int .i64 4), .sl .ro [.agg [.lit (.int .i64 2), .lit (.int .i64 0), .str [105], .lit (.int .i64 0), .sl .ro []], .agg [.lit (.int .i64 1), .lit (.int .i64 1), .str [], .lit (.int .i64 0), .sl .ro []]], .sl .ro [], .sl .ro [], .sl .ro []]], .sl .ro []]], .lit (.int .i64 2), .lit (.int .i64 0), .str [105], .lit (.int .i64 0), .sl .ro []]]], .agg [.lit (.int .i64 0), .lit (.int .i64 0)]]
theorem run2 : callL G T1 400 12 A2 s00 = some (R2, s00) := by kernel_rfl
def T2 : Tab := T1.add 12 A2 R2
theorem T2_ok : TabOk G T2 802 := T1_ok.add rfl run2
end
end Go.Vm
