/-
  Calls that the machine runs, one by one; no conditions.
-/
import Derived.Test.YtkjghdlaeibaiaaGreatRx0
namespace Go.Vm
noncomputable section
def A1 : List AV := [.str [114, 117, 108, 101, 32, 116, 117, 114, 110, 58, 32, 40, 97, 100, 100, 32, 63, 97, 32, 63, 98, 41, 32, 61, 62, 32, 40, 97, 100, 100, 32, 63, 98, 32, 63, 97, 41, 59, 32, 114, 117, 108, 101, 32, 111, 110, 101, 58, 32, 40, 110, 101, 32, 63, 97, 32, 48, 41, 32, 61, 62, 32, 49, 32, 105, 102, 32, 110, 111, 110, 122, 101, 114, 111, 32, 63, 97, 59]]
def R1 : AV := .tup [.sl .ro [.agg [.str [114, 117, 108, 101], .lit (.int .i64 0)], .agg [.str [116, 117, 114, 110], .lit (.int .i64 5)], .agg [.str [58], .lit (.int .i64 9)], .agg [.str [40], .lit (.int .i64 11)], .agg [.str [97, 100, 100], .lit (.int .i64 12)], .agg [.str [63, 97], .lit (.int .i64 16)], .agg [.str [63, 98], .lit (.int .i64 19)], .agg [.str [41], .lit (.int .i64 21)], .agg [.str [61, 62], .lit (.int .i64 23)], .agg [.str [40], .lit (.int .i64 26)], .agg [.str [97, 100, 100], .lit (.int .i64 27)], .agg [.str [63, 98], .lit (.int .i64 31)], .agg [.str [63, 97], .lit (.int .i64 34)], .agg [.str [41], .lit (.int .i64 36)], .agg [.str [59], .lit (.int .i64 37)], .agg [.str [114, 117, 108, 101], .lit (.int .i64 39)], .agg [.str [111, 110, 101], .lit (.int .i64 44)], .agg [.str [58], .lit (.int .i64 47)], .agg [.str [40], .lit (.int .i64 49)], .agg [.str [110, 101], .lit (.int .i64 50)], .agg [.str [63, 97], .lit (.int .i64 53)], .agg [.str [48], .lit (.int .i64 56)], .agg [.str [41], .lit (.int .i64 57)], .agg [.str [61, 62], .lit (.int .i64 59)], .agg [.str [49], .lit (.int .i64 62)], .agg [.str [105, 102], .lit (.int .i64 64)], .agg [.str [110, 111, 110, 122, 101, 114, 111], .lit (.int .i64 67)], .agg [.str [63, 97], .lit (.int .i64 75)], .agg [.str [59], .lit (.int .i64 77)]], .lit (.int .i64 (-1))]
theorem run1 : callL G T0 400 95 A1 s00 = some (R1, s00) := by kernel_rfl
def T1 : Tab := T0.add 95 A1 R1
theorem T1_ok : TabOk G T1 401 := T0_ok.add rfl run1
def A2 : List AV := [.agg [.str [116, 117, 114, 110], .lit (.int .i64 0), .lit (.int .i64 4), .lit (.int .i64 0), .lit (.int .i64 0), .sl .ro [.agg [.lit (.int .i64 1), .lit (.int .i64 0), .lit (.int .i64 0), .lit (.int .i64 0), .sl .ro []], .agg [.lit (.int .i64 2), .lit (.int .i64 0), .lit (.int .i64 0), .lit (.int .i64 0), .sl .ro []]], .lit (.int .i64 0), .lit (.int .i64 4), .lit (.int .i64 0), .lit (.int .i64 0), .sl .ro [.agg [.lit (.int .i64 2), .lit (.int .i64 0), .lit (.int .i64 0), .lit (.int .i64 0), .sl .ro []], .agg [.lit (.int .i64 1), .lit (.int .i64 0), .lit (.int .i64 0), .lit (.int .i64 0), .sl .ro []]], .sl .ro [], .lit (.int .i64 2), .lit (.int .i64 0)]]
def R2 : AV := .lit (.bool true)
theorem run2 : callL G T1 400 104 A2 s00 = some (R2, s00) := by kernel_rfl
def T2 : Tab := T1.add 104 A2 R2
theorem T2_ok : TabOk G T2 802 := T1_ok.add rfl run2
def A3 : List AV := [.agg [.str [111, 110, 101], .lit (.int .i64 0), .lit (.int .i64 16), .lit (.int .i64 0), .lit (.int .i64 0), .sl .ro [.agg [.lit (.int .i64 1), .lit (.int .i64 0), .lit (.int .i64 0), .lit (.int .i64 0), .sl .ro []], .agg [.lit (.int .i64 0), .lit (.int .i64 1), .lit (.int .i64 0), .lit (.int .i64 0), .sl .ro []]], .lit (.int .i64 0), .lit (.int .i64 1), .lit (.int .i64 1), .lit (.int .i64 0), .sl .ro [], .sl .ro [.agg [.lit (.int .i64 1), .lit (.int .i64 1), .lit (.int .i64 0), .lit (.int .i64 0)]], .lit (.int .i64 1), .lit (.int .i64 0)]]
def R3 : AV := .lit (.bool true)
theorem run3 : callL G T2 400 104 A3 s00 = some (R3, s00) := by kernel_rfl
def T3 : Tab := T2.add 104 A3 R3
theorem T3_ok : TabOk G T3 1203 := T2_ok.add rfl run3
end
end Go.Vm
