/-
  Calls that the machine runs, one by one; no conditions.
-/
import Derived.Test.YtkjghdlaeibaiaaGreatRx2
namespace Go.Vm
noncomputable section
def A11 : List AV := [.sl .ro [.agg [.lit (.int .i64 2), .lit (.int .i64 0), .sl .ro []], .agg [.lit (.int .i64 1), .lit (.int .i64 5), .sl .ro []], .agg [.lit (.int .i64 4), .lit (.int .i64 0), .sl .ro [.lit (.int .i64 0), .lit (.int .i64 1)]], .agg [.lit (.int .i64 4), .lit (.int .i64 0), .sl .ro [.lit (.int .i64 1), .lit (.int .i64 0)]], .agg [.lit (.int .i64 1), .lit (.int .i64 0), .sl .ro []], .agg [.lit (.int .i64 16), .lit (.int .i64 0), .sl .ro [.lit (.int .i64 1), .lit (.int .i64 4)]], .agg [.lit (.int .i64 1), .lit (.int .i64 1), .sl .ro []], .agg [.lit (.int .i64 16), .lit (.int .i64 0), .sl .ro [.lit (.int .i64 0), .lit (.int .i64 4)]]], .lit (.int .i64 6)]
def R11 : AV := .lit (.int .i64 1)
theorem run11 : callL G T10 400 48 A11 s00 = some (R11, s00) := by kernel_rfl
def T11 : Tab := T10.add 48 A11 R11
theorem T11_ok : TabOk G T11 4411 := T10_ok.add rfl run11
def A12 : List AV := [.sl .ro [.agg [.lit (.int .i64 2), .lit (.int .i64 0), .sl .ro []], .agg [.lit (.int .i64 1), .lit (.int .i64 5), .sl .ro []], .agg [.lit (.int .i64 4), .lit (.int .i64 0), .sl .ro [.lit (.int .i64 0), .lit (.int .i64 1)]], .agg [.lit (.int .i64 4), .lit (.int .i64 0), .sl .ro [.lit (.int .i64 1), .lit (.int .i64 0)]], .agg [.lit (.int .i64 1), .lit (.int .i64 0), .sl .ro []], .agg [.lit (.int .i64 16), .lit (.int .i64 0), .sl .ro [.lit (.int .i64 1), .lit (.int .i64 4)]], .agg [.lit (.int .i64 1), .lit (.int .i64 1), .sl .ro []], .agg [.lit (.int .i64 16), .lit (.int .i64 0), .sl .ro [.lit (.int .i64 0), .lit (.int .i64 4)]]], .lit (.int .i64 7)]
def R12 : AV := .lit (.int .i64 1)
theorem run12 : callL G T11 400 48 A12 s00 = some (R12, s00) := by kernel_rfl
def T12 : Tab := T11.add 48 A12 R12
theorem T12_ok : TabOk G T12 4812 := T11_ok.add rfl run12
def A13 : List AV := [.sl .ro [.agg [.lit (.int .i64 2), .lit (.int .i64 0), .sl .ro []]], .lit (.int .i64 0)]
def R13 : AV := .lit (.int .i64 1)
theorem run13 : callL G T12 400 48 A13 s00 = some (R13, s00) := by kernel_rfl
def T13 : Tab := T12.add 48 A13 R13
theorem T13_ok : TabOk G T13 5213 := T12_ok.add rfl run13
def A14 : List AV := [.sl .ro [.agg [.lit (.int .i64 1), .lit (.int .i64 5), .sl .ro []]], .lit (.int .i64 0)]
def R14 : AV := .lit (.int .i64 1)
theorem run14 : callL G T13 400 48 A14 s00 = some (R14, s00) := by kernel_rfl
def T14 : Tab := T13.add 48 A14 R14
theorem T14_ok : TabOk G T14 5614 := T13_ok.add rfl run14
def A15 : List AV := [.sl .ro [.agg [.lit (.int .i64 1), .lit (.int .i64 0), .sl .ro []], .agg [.lit (.int .i64 1), .lit (.int .i64 0), .sl .ro []], .agg [.lit (.int .i64 4), .lit (.int .i64 0), .sl .ro [.lit (.int .i64 0), .lit (.int .i64 1)]]], .lit (.int .i64 2)]
def R15 : AV := .lit (.int .i64 1)
theorem run15 : callL G T14 400 48 A15 s00 = some (R15, s00) := by kernel_rfl
def T15 : Tab := T14.add 48 A15 R15
theorem T15_ok : TabOk G T15 6015 := T14_ok.add rfl run15
def A16 : List AV := [.sl .ro [.agg [.lit (.int .i64 1), .lit (.int .i64 0), .sl .ro []]], .lit (.int .i64 0)]
def R16 : AV := .lit (.int .i64 1)
theorem run16 : callL G T15 400 48 A16 s00 = some (R16, s00) := by kernel_rfl
def T16 : Tab := T15.add 48 A16 R16
theorem T16_ok : TabOk G T16 6416 := T15_ok.add rfl run16
def A17 : List AV := [.sl .ro [.agg [.lit (.int .i64 1), .lit (.int .i64 0), .sl .ro []], .agg [.lit (.int .i64 1), .lit (.int .i64 0), .sl .ro []], .agg [.lit (.int .i64 16), .lit (.int .i64 0), .sl .ro [.lit (.int .i64 0), .lit (.int .i64 1)]]], .lit (.int .i64 2)]
def R17 : AV := .lit (.int .i64 1)
theorem run17 : callL G T16 400 48 A17 s00 = some (R17, s00) := by kernel_rfl
def T17 : Tab := T16.add 48 A17 R17
theorem T17_ok : TabOk G T17 6817 := T16_ok.add rfl run17
def A18 : List AV := [.sl .ro [.agg [.lit (.int .i64 1), .lit (.int .i64 1), .sl .ro []]], .lit (.int .i64 0)]
def R18 : AV := .lit (.int .i64 1)
theorem run18 : callL G T17 400 48 A18 s00 = some (R18, s00) := by kernel_rfl
def T18 : Tab := T17.add 48 A18 R18
theorem T18_ok : TabOk G T18 7218 := T17_ok.add rfl run18
def A19 : List AV := [.sl .ro [.agg [.lit (.int .i64 2), .lit (.int .i64 0), .sl .ro []], .agg [.lit (.int .i64 1), .lit (.int .i64 5), .sl .ro []], .agg [.lit (.int .i64 4), .lit (.int .i64 0), .sl .ro [.lit (.int .i64 0), .lit (.int .i64 1)]], .agg [.lit (.int .i64 4), .lit (.int .i64 0), .sl .ro [.lit (.int .i64 1), .lit (.int .i64 0)]], .agg [.lit (.int .i64 1), .lit (.int .i64 0), .sl .ro []], .agg [.lit (.int .i64 16), .lit (.int .i64 0), .sl .ro [.lit (.int .i64 1), .lit (.int .i64 4)]], .agg [.lit (.int .i64 1), .lit (.int .i64 1), .sl .ro []], .agg [.lit (.int .i64 16), .lit (.int .i64 0), .sl .ro [.lit (.int .i64 0), .lit (.int .i64 4)]]], .sl .ro []]
def R19 : AV := .sl .ro [.agg [.lit (.int .i64 (-9223372036854775808)), .lit (.int .i64 9223372036854775807)], .agg [.lit (.int .i64 5), .lit (.int .i64 5)], .agg [.lit (.int .i64 (-9223372036854775808)), .lit (.int .i64 9223372036854775807)], .agg [.lit (.int .i64 (-9223372036854775808)), .lit (.int .i64 9223372036854775807)], .agg [.lit (.int .i64 0), .lit (.int .i64 0)], .agg [.lit (.int .i64 1), .lit (.int .i64 1)], .agg [.lit (.int .i64 1), .lit (.int .i64 1)], .agg [.lit (.int .i64 0), .lit (.int .i64 1)]]
theorem run19 : callL G T18 400 49 A19 s00 = some (R19, s00) := by kernel_rfl
def T19 : Tab := T18.add 49 A19 R19
theorem T19_ok : TabOk G T19 7619 := T18_ok.add rfl run19
def A20 : List AV := [.agg [.str [116, 117, 114, 110], .lit (.int .i64 0), .lit (.int .i64 4), .lit (.int .i64 0), .lit (.int .i64 0), .sl .ro [.agg [.lit (.int .i64 1), .lit (.int .i64 0), .lit (.int .i64 0), .lit (.int .i64 0), .sl .ro []], .agg [.lit (.int .i64 2), .lit (.int .i64 0), .lit (.int .i64 0), .lit (.int .i64 0), .sl .ro []]], .lit (.int .i64 0), .lit (.int .i64 4), .lit (.int .i64 0), .lit (.int .i64 0), .sl .ro [.agg [.lit (.int .i64 2), .lit (.int .i64 0), .lit (.int .i64 0), .lit (.int .i64 0), .sl .ro []], .agg [.lit (.int .i64 1), .lit (.int .i64 0), .lit (.int .i64 0), .lit (.int .i64 0), .sl .ro []]], .sl .ro [], .lit (.int .i64 2), .lit (.int .i64 0)]]
def R20 : AV := .lit (.bool true)
theorem run20 : callL G T19 400 92 A20 s00 = some (R20, s00) := by kernel_rfl
def T20 : Tab := T19.add 92 A20 R20
theorem T20_ok : TabOk G T20 8020 := T19_ok.add rfl run20
def A21 : List AV := [.agg [.lit (.int .i64 2), .lit (.int .i64 0), .sl .ro []]]
def R21 : AV := .str [2, 0, 0, 0, 0, 0, 0, 0, 0, 0, 0, 0, 0, 0, 0, 0]
theorem run21 : callL G T20 400 151 A21 s00 = some (R21, s00) := by kernel_rfl
def T21 : Tab := T20.add 151 A21 R21
theorem T21_ok : TabOk G T21 8421 := T20_ok.add rfl run21
def A22 : List AV := [.agg [.lit (.int .i64 1), .lit (.int .i64 5), .sl .ro []]]
def R22 : AV := .str [1, 0, 0, 0, 0, 0, 0, 0, 5, 0, 0, 0, 0, 0, 0, 0]
theorem run22 : callL G T21 400 151 A22 s00 = some (R22, s00) := by kernel_rfl
def T22 : Tab := T21.add 151 A22 R22
theorem T22_ok : TabOk G T22 8822 := T21_ok.add rfl run22
end
end Go.Vm
