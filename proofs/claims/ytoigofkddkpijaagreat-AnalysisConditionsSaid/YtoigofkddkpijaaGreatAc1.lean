/-
  Calls that the machine runs, one by one; no conditions.
-/
import Derived.Test.YtoigofkddkpijaaGreatAc0
namespace Go.Vm
noncomputable section
def A1 : List AV := [.str [102, 117, 110, 99, 32, 102, 40, 41, 32, 118, 97, 114, 32, 105, 32, 123, 32, 119, 104, 105, 108, 101, 32, 40, 105, 32, 60, 32, 57, 41, 32, 123, 32, 105, 32, 61, 32, 105, 32, 43, 32, 49, 59, 32, 125, 32, 114, 101, 116, 117, 114, 110, 32, 105, 59, 32, 125]]
def R1 : AV := .tup [.sl .ro [.agg [.lit (.int .i64 1), .str [102, 117, 110, 99], .lit (.int .i64 0)], .agg [.lit (.int .i64 1), .str [102], .lit (.int .i64 5)], .agg [.lit (.int .i64 3), .str [40], .lit (.int .i64 6)], .agg [.lit (.int .i64 3), .str [41], .lit (.int .i64 7)], .agg [.lit (.int .i64 1), .str [118, 97, 114], .lit (.int .i64 9)], .agg [.lit (.int .i64 1), .str [105], .lit (.int .i64 13)], .agg [.lit (.int .i64 3), .str [123], .lit (.int .i64 15)], .agg [.lit (.int .i64 1), .str [119, 104, 105, 108, 101], .lit (.int .i64 17)], .agg [.lit (.int .i64 3), .str [40], .lit (.int .i64 23)], .agg [.lit (.int .i64 1), .str [105], .lit (.int .i64 24)], .agg [.lit (.int .i64 3), .str [60], .lit (.int .i64 26)], .agg [.lit (.int .i64 2), .str [57], .lit (.int .i64 28)], .agg [.lit (.int .i64 3), .str [41], .lit (.int .i64 29)], .agg [.lit (.int .i64 3), .str [123], .lit (.int .i64 31)], .agg [.lit (.int .i64 1), .str [105], .lit (.int .i64 33)], .agg [.lit (.int .i64 3), .str [61], .lit (.int .i64 35)], .agg [.lit (.int .i64 1), .str [105], .lit (.int .i64 37)], .agg [.lit (.int .i64 3), .str [43], .lit (.int .i64 39)], .agg [.lit (.int .i64 2), .str [49], .lit (.int .i64 41)], .agg [.lit (.int .i64 3), .str [59], .lit (.int .i64 42)], .agg [.lit (.int .i64 3), .str [125], .lit (.int .i64 44)], .agg [.lit (.int .i64 1), .str [114, 101, 116, 117, 114, 110], .lit (.int .i64 46)], .agg [.lit (.int .i64 1), .str [105], .lit (.int .i64 53)], .agg [.lit (.int .i64 3), .str [59], .lit (.int .i64 54)], .agg [.lit (.int .i64 3), .str [125], .lit (.int .i64 56)]], .agg [.lit (.int .i64 0), .lit (.int .i64 0)]]
theorem run1 : callL G T0 400 34 A1 s00 = some (R1, s00) := by kernel_rfl
def T1 : Tab := T0.add 34 A1 R1
theorem T1_ok : TabOk G T1 401 := T0_ok.add rfl run1
end
end Go.Vm
