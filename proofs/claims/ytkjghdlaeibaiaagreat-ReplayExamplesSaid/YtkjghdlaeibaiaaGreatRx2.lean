/-
  Calls that the machine runs, one by one; no conditions.
-/
import Derived.Test.YtkjghdlaeibaiaaGreatRx1
namespace Go.Vm
noncomputable section
def A4 : List AV := [.str [114, 117, 108, 101, 32, 116, 117, 114, 110, 58, 32, 40, 97, 100, 100, 32, 63, 97, 32, 63, 98, 41, 32, 61, 62, 32, 40, 97, 100, 100, 32, 63, 98, 32, 63, 97, 41, 59, 32, 114, 117, 108, 101, 32, 111, 110, 101, 58, 32, 40, 110, 101, 32, 63, 97, 32, 48, 41, 32, 61, 62, 32, 49, 32, 105, 102, 32, 110, 111, 110, 122, 101, 114, 111, 32, 63, 97, 59]]
def R4 : AV := .tup [.sl .ro [.agg [.str [116, 117, 114, 110], .lit (.int .i64 0), .lit (.int .i64 4), .lit (.int .i64 0), .lit (.int .i64 0), .sl .ro [.agg [.lit (.int .i64 1), .lit (.int .i64 0), .lit (.int .i64 0), .lit (.int .i64 0), .sl .ro []], .agg [.lit (.int .i64 2), .lit (.int .i64 0), .lit (.int .i64 0), .lit (.int .i64 0), .sl .ro []]], .lit (.int .i64 0), .lit (.int .i64 4), .lit (.int .i64 0), .lit (.int .i64 0), .sl .ro [.agg [.lit (.int .i64 2), .lit (.int .i64 0), .lit (.int .i64 0), .lit (.int .i64 0), .sl .ro []], .agg [.lit (.int .i64 1), .lit (.int .i64 0), .lit (.int .i64 0), .lit (.int .i64 0), .sl .ro []]], .sl .ro [], .lit (.int .i64 2), .lit (.int .i64 0)], .agg [.str [111, 110, 101], .lit (.int .i64 0), .lit (.int .i64 16), .lit (.int .i64 0), .lit (.int .i64 0), .sl .ro [.agg [.lit (.int .i64 1), .lit (.int .i64 0), .lit (.int .i64 0), .lit (.int .i64 0), .sl .ro []], .agg [.lit (.int .i64 0), .lit (.int .i64 1), .lit (.int .i64 0), .lit (.int .i64 0), .sl .ro []]], .lit (.int .i64 0), .lit (.int .i64 1), .lit (.int .i64 1), .lit (.int .i64 0), .sl .ro [], .sl .ro [.agg [.lit (.int .i64 1), .lit (.int .i64 1), .lit (.int .i64 0), .lit (.int .i64 0)]], .lit (.int .i64 1), .lit (.int .i64 0)]], .agg [.lit (.int .i64 0), .lit (.int .i64 0)]]
theorem run4 : callL G T3 400 24 A4 s00 = some (R4, s00) := by kernel_rfl
def T4 : Tab := T3.add 24 A4 R4
theorem T4_ok : TabOk G T4 1604 := T3_ok.add rfl run4
def A5 : List AV := [.sl .ro [.agg [.lit (.int .i64 2), .lit (.int .i64 0), .sl .ro []], .agg [.lit (.int .i64 1), .lit (.int .i64 5), .sl .ro []], .agg [.lit (.int .i64 4), .lit (.int .i64 0), .sl .ro [.lit (.int .i64 0), .lit (.int .i64 1)]], .agg [.lit (.int .i64 4), .lit (.int .i64 0), .sl .ro [.lit (.int .i64 1), .lit (.int .i64 0)]], .agg [.lit (.int .i64 1), .lit (.int .i64 0), .sl .ro []], .agg [.lit (.int .i64 16), .lit (.int .i64 0), .sl .ro [.lit (.int .i64 1), .lit (.int .i64 4)]], .agg [.lit (.int .i64 1), .lit (.int .i64 1), .sl .ro []], .agg [.lit (.int .i64 16), .lit (.int .i64 0), .sl .ro [.lit (.int .i64 0), .lit (.int .i64 4)]]], .lit (.int .i64 0)]
def R5 : AV := .lit (.int .i64 1)
theorem run5 : callL G T4 400 48 A5 s00 = some (R5, s00) := by kernel_rfl
def T5 : Tab := T4.add 48 A5 R5
theorem T5_ok : TabOk G T5 2005 := T4_ok.add rfl run5
def A6 : List AV := [.sl .ro [.agg [.lit (.int .i64 2), .lit (.int .i64 0), .sl .ro []], .agg [.lit (.int .i64 1), .lit (.int .i64 5), .sl .ro []], .agg [.lit (.int .i64 4), .lit (.int .i64 0), .sl .ro [.lit (.int .i64 0), .lit (.int .i64 1)]], .agg [.lit (.int .i64 4), .lit (.int .i64 0), .sl .ro [.lit (.int .i64 1), .lit (.int .i64 0)]], .agg [.lit (.int .i64 1), .lit (.int .i64 0), .sl .ro []], .agg [.lit (.int .i64 16), .lit (.int .i64 0), .sl .ro [.lit (.int .i64 1), .lit (.int .i64 4)]], .agg [.lit (.int .i64 1), .lit (.int .i64 1), .sl .ro []], .agg [.lit (.int .i64 16), .lit (.int .i64 0), .sl .ro [.lit (.int .i64 0), .lit (.int .i64 4)]]], .lit (.int .i64 1)]
def R6 : AV := .lit (.int .i64 1)
theorem run6 : callL G T5 400 48 A6 s00 = some (R6, s00) := by kernel_rfl
def T6 : Tab := T5.add 48 A6 R6
theorem T6_ok : TabOk G T6 2406 := T5_ok.add rfl run6
def A7 : List AV := [.sl .ro [.agg [.lit (.int .i64 2), .lit (.int .i64 0), .sl .ro []], .agg [.lit (.int .i64 1), .lit (.int .i64 5), .sl .ro []], .agg [.lit (.int .i64 4), .lit (.int .i64 0), .sl .ro [.lit (.int .i64 0), .lit (.int .i64 1)]], .agg [.lit (.int .i64 4), .lit (.int .i64 0), .sl .ro [.lit (.int .i64 1), .lit (.int .i64 0)]], .agg [.lit (.int .i64 1), .lit (.int .i64 0), .sl .ro []], .agg [.lit (.int .i64 16), .lit (.int .i64 0), .sl .ro [.lit (.int .i64 1), .lit (.int .i64 4)]], .agg [.lit (.int .i64 1), .lit (.int .i64 1), .sl .ro []], .agg [.lit (.int .i64 16), .lit (.int .i64 0), .sl .ro [.lit (.int .i64 0), .lit (.int .i64 4)]]], .lit (.int .i64 2)]
def R7 : AV := .lit (.int .i64 1)
theorem run7 : callL G T6 400 48 A7 s00 = some (R7, s00) := by kernel_rfl
def T7 : Tab := T6.add 48 A7 R7
theorem T7_ok : TabOk G T7 2807 := T6_ok.add rfl run7
def A8 : List AV := [.sl .ro [.agg [.lit (.int .i64 2), .lit (.int .i64 0), .sl .ro []], .agg [.lit (.int .i64 1), .lit (.int .i64 5), .sl .ro []], .agg [.lit (.int .i64 4), .lit (.int .i64 0), .sl .ro [.lit (.int .i64 0), .lit (.int .i64 1)]], .agg [.lit (.int .i64 4), .lit (.int .i64 0), .sl .ro [.lit (.int .i64 1), .lit (.int .i64 0)]], .agg [.lit (.int .i64 1), .lit (.int .i64 0), .sl .ro []], .agg [.lit (.int .i64 16), .lit (.int .i64 0), .sl .ro [.lit (.int .i64 1), .lit (.int .i64 4)]], .agg [.lit (.int .i64 1), .lit (.int .i64 1), .sl .ro []], .agg [.lit (.int .i64 16), .lit (.int .i64 0), .sl .ro [.lit (.int .i64 0), .lit (.int .i64 4)]]], .lit (.int .i64 3)]
def R8 : AV := .lit (.int .i64 1)
theorem run8 : callL G T7 400 48 A8 s00 = some (R8, s00) := by kernel_rfl
def T8 : Tab := T7.add 48 A8 R8
theorem T8_ok : TabOk G T8 3208 := T7_ok.add rfl run8
def A9 : List AV := [.sl .ro [.agg [.lit (.int .i64 2), .lit (.int .i64 0), .sl .ro []], .agg [.lit (.int .i64 1), .lit (.int .i64 5), .sl .ro []], .agg [.lit (.int .i64 4), .lit (.int .i64 0), .sl .ro [.lit (.int .i64 0), .lit (.int .i64 1)]], .agg [.lit (.int .i64 4), .lit (.int .i64 0), .sl .ro [.lit (.int .i64 1), .lit (.int .i64 0)]], .agg [.lit (.int .i64 1), .lit (.int .i64 0), .sl .ro []], .agg [.lit (.int .i64 16), .lit (.int .i64 0), .sl .ro [.lit (.int .i64 1), .lit (.int .i64 4)]], .agg [.lit (.int .i64 1), .lit (.int .i64 1), .sl .ro []], .agg [.lit (.int .i64 16), .lit (.int .i64 0), .sl .ro [.lit (.int .i64 0), .lit (.int .i64 4)]]], .lit (.int .i64 4)]
def R9 : AV := .lit (.int .i64 1)
theorem run9 : callL G T8 400 48 A9 s00 = some (R9, s00) := by kernel_rfl
def T9 : Tab := T8.add 48 A9 R9
theorem T9_ok : TabOk G T9 3609 := T8_ok.add rfl run9
def A10 : List AV := [.sl .ro [.agg [.lit (.int .i64 2), .lit (.int .i64 0), .sl .ro []], .agg [.lit (.int .i64 1), .lit (.int .i64 5), .sl .ro []], .agg [.lit (.int .i64 4), .lit (.int .i64 0), .sl .ro [.lit (.int .i64 0), .lit (.int .i64 1)]], .agg [.lit (.int .i64 4), .lit (.int .i64 0), .sl .ro [.lit (.int .i64 1), .lit (.int .i64 0)]], .agg [.lit (.int .i64 1), .lit (.int .i64 0), .sl .ro []], .agg [.lit (.int .i64 16), .lit (.int .i64 0), .sl .ro [.lit (.int .i64 1), .lit (.int .i64 4)]], .agg [.lit (.int .i64 1), .lit (.int .i64 1), .sl .ro []], .agg [.lit (.int .i64 16), .lit (.int .i64 0), .sl .ro [.lit (.int .i64 0), .lit (.int .i64 4)]]], .lit (.int .i64 5)]
def R10 : AV := .lit (.int .i64 1)
theorem run10 : callL G T9 400 48 A10 s00 = some (R10, s00) := by kernel_rfl
def T10 : Tab := T9.add 48 A10 R10
theorem T10_ok : TabOk G T10 4010 := T9_ok.add rfl run10
end
end Go.Vm
