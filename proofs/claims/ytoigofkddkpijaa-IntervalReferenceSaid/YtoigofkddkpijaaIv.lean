/-
  Functions of the program, told by plain words and proved; no conditions but those that the tables name.
-/
import Derived.Test.YtoigofkddkpijaaVmd
import Derived.Test.YtoigofkddkpijaaProg
import Derived.KernelRfl
namespace Go.Vm
def how : Vm.How := { keepA := fun _ => false, keepR := fun _ => false, scope := fun _ => true, hard := fun _ _ => false, live := fun _ _ => none }
noncomputable def G : Vm.Ctx := Vm.ctxOf Go.Proofs.Try.prog how
theorem G_ok : G.Ok Go.Proofs.Try.prog := Vm.ctxOf_ok how (by kernel_rfl) (by kernel_rfl)
def sp22 : CallT := table []
theorem sp22_ok : SpecOk Go.Vm.G sp22 := SpecOk.nil
/-! "fulling/fullingkeep.Pick" -/
def F22r0 (x0 : Int) (x1 : Int) : Int := (bif decide (Int.tmod x0 x1 < 0) then IntKind.wrap IntKind.i64 (Int.tmod x0 x1 + x1) else Int.tmod x0 x1)
def S22 : Spec
  | [.lit (.int .i64 x0), .lit (.int .i64 x1)], s => gate (!(x1 == 0)) (some (.lit (.int .i64 (F22r0 x0 x1)), s))
  | _, _ => none
theorem tree22 (x0 : Int) (x1 : Int) (Q : AV → St → Prop) : funP Go.Vm.G sp22 22 [.lit (.int .i64 x0), .lit (.int .i64 x1)] St.nil (Hint.got 1 2 (AV.lit (Value.int IntKind.i64 (Int.tmod x0 x1))) none (Hint.ite Hint.done Hint.done)) Q = (bin G BinOp.rem 3 (AV.lit (Value.int IntKind.i64 x0)) (AV.lit (Value.int IntKind.i64 x1)) = some (AV.lit (Value.int IntKind.i64 (Int.tmod x0 x1))) ∧ (decide (Int.tmod x0 x1 < 0) = true → Q (AV.lit (Value.int IntKind.i64 (IntKind.wrap IntKind.i64 (Int.tmod x0 x1 + x1)))) St.nil) ∧ (decide (Int.tmod x0 x1 < 0) = false → Q (AV.lit (Value.int IntKind.i64 (Int.tmod x0 x1))) St.nil)) := by kernel_rfl
theorem ok22 : Ok Go.Vm.G 22 S22 := by
  intro args s v s' h
  unfold S22 at h
  split at h
  · skip
    rename_i x0 x1
    obtain ⟨hpre, h⟩ := gate_some h
    injection h with h; injection h with h1 h2; subst h1; subst h2
    refine runs_of_alone sp22_ok rfl (args' := [.lit (.int .i64 x0), .lit (.int .i64 x1)]) (by kernel_rfl) (h := Hint.got 1 2 (AV.lit (Value.int IntKind.i64 (Int.tmod x0 x1))) none (Hint.ite Hint.done Hint.done)) ?_
    rw [tree22]
    exact ⟨(bin_rem (by simpa using hpre)), ⟨fun h0 => (by simp only [F22r0, h0, cond_true]; kernel_rfl), fun h0 => (by simp only [F22r0, h0, cond_false]; kernel_rfl)⟩⟩
  · cases h

theorem F22_eq {n m : Int} (h0 : 0 < m) (h1 : m < 4611686018427387904) : F22r0 n m = n % m := by
  unfold F22r0
  have h2 := Int.emod_nonneg n (by omega : m ≠ 0)
  have h3 := Int.emod_lt_of_pos n h0
  have h4 : n.tmod m = if 0 ≤ n ∨ n % m = 0 then n % m else n % m - m := by
    rw [Int.tmod_eq_emod]
    by_cases h : 0 ≤ n ∨ m ∣ n
    · rw [if_pos h, if_pos (h.imp_right Int.emod_eq_zero_of_dvd)]; omega
    · rw [if_neg h, if_neg (fun e => h (e.imp_right Int.dvd_of_emod_eq_zero))]; omega
  by_cases h : n.tmod m < 0
  · simp only [h, decide_true, cond_true]
    split at h4
    · omega
    · rw [h4, Int.sub_add_cancel]; exact wrap_i64_id (by omega) (by omega)
  · simp only [h, decide_false, cond_false]
    split at h4 <;> omega

def sp35 : CallT := table []
theorem sp35_ok : SpecOk Go.Vm.G sp35 := SpecOk.nil
/-! "fulling/interval.Valid" -/
def F35r0 (x0 : Int) (x1 : Int) : Bool := decide (x0 ≤ x1)
def S35 : Spec
  | [.agg [.lit (.int .i64 x0), .lit (.int .i64 x1)]], s => some (.lit (.bool (F35r0 x0 x1)), s)
  | _, _ => none
theorem tree35 (x0 : Int) (x1 : Int) (Q : AV → St → Prop) : funP Go.Vm.G sp35 35 [.agg [.lit (.int .i64 x0), .lit (.int .i64 x1)]] St.nil (Hint.done) Q = (Q (AV.lit (Value.bool (decide (x0 ≤ x1)))) (St.mk 0 0 Tr.nil)) := by kernel_rfl
theorem ok35 : Ok Go.Vm.G 35 S35 := by
  intro args s v s' h
  unfold S35 at h
  split at h
  · skip
    rename_i x0 x1
    injection h with h; injection h with h1 h2; subst h1; subst h2
    refine runs_of_alone sp35_ok rfl (args' := [.agg [.lit (.int .i64 x0), .lit (.int .i64 x1)]]) (by kernel_rfl) (h := Hint.done) ?_
    rw [tree35]
    exact (by kernel_rfl)
  · cases h

def sp40 : CallT := table []
theorem sp40_ok : SpecOk Go.Vm.G sp40 := SpecOk.nil
/-! "fulling/interval.Full" -/
def F40r0 : Int := -9223372036854775808
def F40r1 : Int := 9223372036854775807
def S40 : Spec
  | [], s => some (.agg [.lit (.int .i64 (F40r0 )), .lit (.int .i64 (F40r1 ))], s)
  | _, _ => none
theorem tree40 (Q : AV → St → Prop) : funP Go.Vm.G sp40 40 [] St.nil (Hint.done) Q = (Q (AV.agg [AV.lit (Value.int IntKind.i64 (-9223372036854775808)), AV.lit (Value.int IntKind.i64 9223372036854775807)]) (St.mk 0 0 Tr.nil)) := by kernel_rfl
theorem ok40 : Ok Go.Vm.G 40 S40 := by
  intro args s v s' h
  unfold S40 at h
  split at h
  · skip
    injection h with h; injection h with h1 h2; subst h1; subst h2
    refine runs_of_alone sp40_ok rfl (args' := []) (by kernel_rfl) (h := Hint.done) ?_
    rw [tree40]
    exact (by kernel_rfl)
  · cases h

def sp70 : CallT := table []
theorem sp70_ok : SpecOk Go.Vm.G sp70 := SpecOk.nil
/-! "fulling/interval.isSingle" -/
def F70r0 (x0 : Int) (x1 : Int) : Bool := x0 == x1
def S70 : Spec
  | [.agg [.lit (.int .i64 x0), .lit (.int .i64 x1)]], s => some (.lit (.bool (F70r0 x0 x1)), s)
  | _, _ => none
theorem tree70 (x0 : Int) (x1 : Int) (Q : AV → St → Prop) : funP Go.Vm.G sp70 70 [.agg [.lit (.int .i64 x0), .lit (.int .i64 x1)]] St.nil (Hint.done) Q = (Q (AV.lit (Value.bool (x0 == x1))) (St.mk 0 0 Tr.nil)) := by kernel_rfl
theorem ok70 : Ok Go.Vm.G 70 S70 := by
  intro args s v s' h
  unfold S70 at h
  split at h
  · skip
    rename_i x0 x1
    injection h with h; injection h with h1 h2; subst h1; subst h2
    refine runs_of_alone sp70_ok rfl (args' := [.agg [.lit (.int .i64 x0), .lit (.int .i64 x1)]]) (by kernel_rfl) (h := Hint.done) ?_
    rw [tree70]
    exact (by kernel_rfl)
  · cases h

def sp71 : CallT := table []
theorem sp71_ok : SpecOk Go.Vm.G sp71 := SpecOk.nil
/-! "fulling/interval.single" -/
def F71r0 (x0 : Int) : Int := x0
def F71r1 (x0 : Int) : Int := x0
def S71 : Spec
  | [.lit (.int .i64 x0)], s => some (.agg [.lit (.int .i64 (F71r0 x0)), .lit (.int .i64 (F71r1 x0))], s)
  | _, _ => none
theorem tree71 (x0 : Int) (Q : AV → St → Prop) : funP Go.Vm.G sp71 71 [.lit (.int .i64 x0)] St.nil (Hint.done) Q = (Q (AV.agg [AV.lit (Value.int IntKind.i64 x0), AV.lit (Value.int IntKind.i64 x0)]) (St.mk 0 0 Tr.nil)) := by kernel_rfl
theorem ok71 : Ok Go.Vm.G 71 S71 := by
  intro args s v s' h
  unfold S71 at h
  split at h
  · skip
    rename_i x0
    injection h with h; injection h with h1 h2; subst h1; subst h2
    refine runs_of_alone sp71_ok rfl (args' := [.lit (.int .i64 x0)]) (by kernel_rfl) (h := Hint.done) ?_
    rw [tree71]
    exact (by kernel_rfl)
  · cases h

def sp34 : CallT := table []
theorem sp34_ok : SpecOk Go.Vm.G sp34 := SpecOk.nil
/-! "fulling/interval.Contains" -/
def F34r0 (x0 : Int) (x1 : Int) (x2 : Int) : Bool := (bif decide (x2 ≥ x0) then decide (x2 ≤ x1) else false)
def S34 : Spec
  | [.agg [.lit (.int .i64 x0), .lit (.int .i64 x1)], .lit (.int .i64 x2)], s => some (.lit (.bool (F34r0 x0 x1 x2)), s)
  | _, _ => none
theorem tree34 (x0 : Int) (x1 : Int) (x2 : Int) (Q : AV → St → Prop) : funP Go.Vm.G sp34 34 [.agg [.lit (.int .i64 x0), .lit (.int .i64 x1)], .lit (.int .i64 x2)] St.nil (Hint.ite (Hint.go (Hint.go (Hint.go (Hint.go Hint.done)))) (Hint.go (Hint.go (Hint.go (Hint.go Hint.done))))) Q = ((decide (x2 ≥ x0) = true → Q (AV.lit (Value.bool (decide (x2 ≤ x1)))) (St.mk 0 0 Tr.nil)) ∧ (decide (x2 ≥ x0) = false → Q (AV.lit (Value.bool false)) (St.mk 0 0 Tr.nil))) := by kernel_rfl
theorem ok34 : Ok Go.Vm.G 34 S34 := by
  intro args s v s' h
  unfold S34 at h
  split at h
  · skip
    rename_i x0 x1 x2
    injection h with h; injection h with h1 h2; subst h1; subst h2
    refine runs_of_alone sp34_ok rfl (args' := [.agg [.lit (.int .i64 x0), .lit (.int .i64 x1)], .lit (.int .i64 x2)]) (by kernel_rfl) (h := Hint.ite (Hint.go (Hint.go (Hint.go (Hint.go Hint.done)))) (Hint.go (Hint.go (Hint.go (Hint.go Hint.done))))) ?_
    rw [tree34]
    exact ⟨fun h0 => (by simp only [F34r0, h0, cond_true]; kernel_rfl), fun h0 => (by simp only [F34r0, h0, cond_false]; kernel_rfl)⟩
  · cases h

def sp37 : CallT := table []
theorem sp37_ok : SpecOk Go.Vm.G sp37 := SpecOk.nil
/-! "fulling/interval.Join" -/
def F37r0 (x0 : Int) (_x1 : Int) (x2 : Int) (_x3 : Int) : Int := if x2 < x0 then x2 else x0
def F37r1 (_x0 : Int) (x1 : Int) (_x2 : Int) (x3 : Int) : Int := if x3 > x1 then x3 else x1
def S37 : Spec
  | [.agg [.lit (.int .i64 x0), .lit (.int .i64 x1)], .agg [.lit (.int .i64 x2), .lit (.int .i64 x3)]], s => some (.agg [.lit (.int .i64 (F37r0 x0 x1 x2 x3)), .lit (.int .i64 (F37r1 x0 x1 x2 x3))], s)
  | _, _ => none
theorem tree37 (x0 : Int) (x1 : Int) (x2 : Int) (x3 : Int) (Q : AV → St → Prop) : funP Go.Vm.G sp37 37 [.agg [.lit (.int .i64 x0), .lit (.int .i64 x1)], .agg [.lit (.int .i64 x2), .lit (.int .i64 x3)]] St.nil (Hint.done) Q = (Q (AV.agg [AV.lit (Value.int IntKind.i64 (if x2 < x0 then x2 else x0)), AV.lit (Value.int IntKind.i64 (if x3 > x1 then x3 else x1))]) (St.mk 0 0 Tr.nil)) := by kernel_rfl
theorem ok37 : Ok Go.Vm.G 37 S37 := by
  intro args s v s' h
  unfold S37 at h
  split at h
  · skip
    rename_i x0 x1 x2 x3
    injection h with h; injection h with h1 h2; subst h1; subst h2
    refine runs_of_alone sp37_ok rfl (args' := [.agg [.lit (.int .i64 x0), .lit (.int .i64 x1)], .agg [.lit (.int .i64 x2), .lit (.int .i64 x3)]]) (by kernel_rfl) (h := Hint.done) ?_
    rw [tree37]
    exact (by kernel_rfl)
  · cases h

def sp32 : CallT := table [(35, S35)]
theorem sp32_ok : SpecOk Go.Vm.G sp32 := SpecOk.cons ok35 (SpecOk.nil)
/-! "fulling/interval.Intersect" -/
def F32r0 (x0 : Int) (x1 : Int) (x2 : Int) (x3 : Int) : Int := (bif !F35r0 (if x2 > x0 then x2 else x0) (if x3 < x1 then x3 else x1) then 0 else if x2 > x0 then x2 else x0)
def F32r1 (x0 : Int) (x1 : Int) (x2 : Int) (x3 : Int) : Int := (bif !F35r0 (if x2 > x0 then x2 else x0) (if x3 < x1 then x3 else x1) then 0 else if x3 < x1 then x3 else x1)
def F32r2 (x0 : Int) (x1 : Int) (x2 : Int) (x3 : Int) : Bool := (bif !F35r0 (if x2 > x0 then x2 else x0) (if x3 < x1 then x3 else x1) then false else true)
def S32 : Spec
  | [.agg [.lit (.int .i64 x0), .lit (.int .i64 x1)], .agg [.lit (.int .i64 x2), .lit (.int .i64 x3)]], s => some (.tup [.agg [.lit (.int .i64 (F32r0 x0 x1 x2 x3)), .lit (.int .i64 (F32r1 x0 x1 x2 x3))], .lit (.bool (F32r2 x0 x1 x2 x3))], s)
  | _, _ => none
theorem tree32 (x0 : Int) (x1 : Int) (x2 : Int) (x3 : Int) (Q : AV → St → Prop) : funP Go.Vm.G sp32 32 [.agg [.lit (.int .i64 x0), .lit (.int .i64 x1)], .agg [.lit (.int .i64 x2), .lit (.int .i64 x3)]] St.nil (Hint.ite Hint.done Hint.done) Q = (((!F35r0 (if x2 > x0 then x2 else x0) (if x3 < x1 then x3 else x1)) = true → Q (AV.tup [AV.agg [AV.lit (Value.int IntKind.i64 0), AV.lit (Value.int IntKind.i64 0)], AV.lit (Value.bool false)]) (St.mk 0 0 Tr.nil)) ∧ ((!F35r0 (if x2 > x0 then x2 else x0) (if x3 < x1 then x3 else x1)) = false → Q (AV.tup [AV.agg [AV.lit (Value.int IntKind.i64 (if x2 > x0 then x2 else x0)), AV.lit (Value.int IntKind.i64 (if x3 < x1 then x3 else x1))], AV.lit (Value.bool true)]) (St.mk 0 0 Tr.nil))) := by kernel_rfl
theorem ok32 : Ok Go.Vm.G 32 S32 := by
  intro args s v s' h
  unfold S32 at h
  split at h
  · skip
    rename_i x0 x1 x2 x3
    injection h with h; injection h with h1 h2; subst h1; subst h2
    refine runs_of_alone sp32_ok rfl (args' := [.agg [.lit (.int .i64 x0), .lit (.int .i64 x1)], .agg [.lit (.int .i64 x2), .lit (.int .i64 x3)]]) (by kernel_rfl) (h := Hint.ite Hint.done Hint.done) ?_
    rw [tree32]
    exact ⟨fun h0 => (by simp only [F32r0, F32r1, F32r2, h0, cond_true]; kernel_rfl), fun h0 => (by simp only [F32r0, F32r1, F32r2, h0, cond_false]; kernel_rfl)⟩
  · cases h

def sp38 : CallT := table []
theorem sp38_ok : SpecOk Go.Vm.G sp38 := SpecOk.nil
/-! "fulling/interval.Widen" -/
def F38r0 (x0 : Int) (_x1 : Int) (x2 : Int) (_x3 : Int) : Int := (bif decide (x2 < x0) then -9223372036854775808 else x0)
def F38r1 (_x0 : Int) (x1 : Int) (_x2 : Int) (x3 : Int) : Int := (bif decide (x3 > x1) then 9223372036854775807 else x1)
def S38 : Spec
  | [.agg [.lit (.int .i64 x0), .lit (.int .i64 x1)], .agg [.lit (.int .i64 x2), .lit (.int .i64 x3)]], s => some (.agg [.lit (.int .i64 (F38r0 x0 x1 x2 x3)), .lit (.int .i64 (F38r1 x0 x1 x2 x3))], s)
  | _, _ => none
theorem tree38 (x0 : Int) (x1 : Int) (x2 : Int) (x3 : Int) (Q : AV → St → Prop) : funP Go.Vm.G sp38 38 [.agg [.lit (.int .i64 x0), .lit (.int .i64 x1)], .agg [.lit (.int .i64 x2), .lit (.int .i64 x3)]] St.nil (Hint.ite (Hint.ite Hint.done Hint.done) (Hint.ite Hint.done Hint.done)) Q = ((decide (x2 < x0) = true → (decide (x3 > x1) = true → Q (AV.agg [AV.lit (Value.int IntKind.i64 (-9223372036854775808)), AV.lit (Value.int IntKind.i64 9223372036854775807)]) (St.mk 0 0 Tr.nil)) ∧ (decide (x3 > x1) = false → Q (AV.agg [AV.lit (Value.int IntKind.i64 (-9223372036854775808)), AV.lit (Value.int IntKind.i64 x1)]) (St.mk 0 0 Tr.nil))) ∧ (decide (x2 < x0) = false → (decide (x3 > x1) = true → Q (AV.agg [AV.lit (Value.int IntKind.i64 x0), AV.lit (Value.int IntKind.i64 9223372036854775807)]) (St.mk 0 0 Tr.nil)) ∧ (decide (x3 > x1) = false → Q (AV.agg [AV.lit (Value.int IntKind.i64 x0), AV.lit (Value.int IntKind.i64 x1)]) (St.mk 0 0 Tr.nil)))) := by kernel_rfl
theorem ok38 : Ok Go.Vm.G 38 S38 := by
  intro args s v s' h
  unfold S38 at h
  split at h
  · skip
    rename_i x0 x1 x2 x3
    injection h with h; injection h with h1 h2; subst h1; subst h2
    refine runs_of_alone sp38_ok rfl (args' := [.agg [.lit (.int .i64 x0), .lit (.int .i64 x1)], .agg [.lit (.int .i64 x2), .lit (.int .i64 x3)]]) (by kernel_rfl) (h := Hint.ite (Hint.ite Hint.done Hint.done) (Hint.ite Hint.done Hint.done)) ?_
    rw [tree38]
    exact ⟨fun h0 => ⟨fun h1 => (by simp only [F38r0, F38r1, h0, h1, cond_true]; kernel_rfl), fun h1 => (by simp only [F38r0, F38r1, h0, h1, cond_true, cond_false]; kernel_rfl)⟩, fun h0 => ⟨fun h1 => (by simp only [F38r0, F38r1, h0, h1, cond_true, cond_false]; kernel_rfl), fun h1 => (by simp only [F38r0, F38r1, h0, h1, cond_false]; kernel_rfl)⟩⟩
  · cases h

def sp39 : CallT := table [(22, S22)]
theorem sp39_ok : SpecOk Go.Vm.G sp39 := SpecOk.cons ok22 (SpecOk.nil)
/-! "fulling/fullingkeep.Word" -/
def F39r0 (x0 : Int) (x1 : Int) : Int := (bif decide (F22r0 x0 24 < 10) then List.getD [0, 1, -1, 2, -9223372036854775808, 9223372036854775807, 4294967296, -2147483648, 63, 64] (Int.toNat (F22r0 x0 24)) 0 else (bif decide (F22r0 x0 24 < 22) then IntKind.wrap IntKind.i64 (F22r0 (IntKind.wrap IntKind.i64 (Int.tdiv x0 24)) 17 - 6) else x1))
def S39 : Spec
  | [.lit (.int .i64 x0), .lit (.int .i64 x1)], s => some (.lit (.int .i64 (F39r0 x0 x1)), s)
  | _, _ => none
theorem tree39 (x0 : Int) (x1 : Int) (Q : AV → St → Prop) : funP Go.Vm.G sp39 39 [.lit (.int .i64 x0), .lit (.int .i64 x1)] St.nil (Hint.ite (Hint.got 4 2 (AV.vp [AV.lit (Value.int IntKind.i64 (List.getD [0, 1, -1, 2, -9223372036854775808, 9223372036854775807, 4294967296, -2147483648, 63, 64] (Int.toNat (F22r0 x0 24)) 0))] 0) none Hint.done) (Hint.ite Hint.done Hint.done)) Q = ((decide (F22r0 x0 24 < 10) = true → indexAddr G 40 (AV.sl Tok.full [AV.lit (Value.int IntKind.i64 0), AV.lit (Value.int IntKind.i64 1), AV.lit (Value.int IntKind.i64 (-1)), AV.lit (Value.int IntKind.i64 2), AV.lit (Value.int IntKind.i64 (-9223372036854775808)), AV.lit (Value.int IntKind.i64 9223372036854775807), AV.lit (Value.int IntKind.i64 4294967296), AV.lit (Value.int IntKind.i64 (-2147483648)), AV.lit (Value.int IntKind.i64 63), AV.lit (Value.int IntKind.i64 64)]) (AV.lit (Value.int IntKind.i64 (F22r0 x0 24))) = some (AV.vp [AV.lit (Value.int IntKind.i64 (List.getD [0, 1, -1, 2, -9223372036854775808, 9223372036854775807, 4294967296, -2147483648, 63, 64] (Int.toNat (F22r0 x0 24)) 0))] 0) ∧ Q (AV.lit (Value.int IntKind.i64 (List.getD [0, 1, -1, 2, -9223372036854775808, 9223372036854775807, 4294967296, -2147483648, 63, 64] (Int.toNat (F22r0 x0 24)) 0))) St.nil) ∧ (decide (F22r0 x0 24 < 10) = false → (decide (F22r0 x0 24 < 22) = true → Q (AV.lit (Value.int IntKind.i64 (IntKind.wrap IntKind.i64 (F22r0 (IntKind.wrap IntKind.i64 (Int.tdiv x0 24)) 17 - 6)))) St.nil) ∧ (decide (F22r0 x0 24 < 22) = false → Q (AV.lit (Value.int IntKind.i64 x1)) St.nil))) := by kernel_rfl
theorem ok39 : Ok Go.Vm.G 39 S39 := by
  intro args s v s' h
  unfold S39 at h
  split at h
  · skip
    rename_i x0 x1
    injection h with h; injection h with h1 h2; subst h1; subst h2
    refine runs_of_alone sp39_ok rfl (args' := [.lit (.int .i64 x0), .lit (.int .i64 x1)]) (by kernel_rfl) (h := Hint.ite (Hint.got 4 2 (AV.vp [AV.lit (Value.int IntKind.i64 (List.getD [0, 1, -1, 2, -9223372036854775808, 9223372036854775807, 4294967296, -2147483648, 63, 64] (Int.toNat (F22r0 x0 24)) 0))] 0) none Hint.done) (Hint.ite Hint.done Hint.done)) ?_
    rw [tree39]
    exact ⟨fun h0 => ⟨(indexAddr_ints [0, 1, -1, 2, -9223372036854775808, 9223372036854775807, 4294967296, -2147483648, 63, 64] (by kernel_rfl) (by rw [F22_eq (by decide) (by decide)]; omega) (by have h0 := of_decide_eq_true h0; rw [F22_eq (by decide) (by decide)] at h0 ⊢; show _ < 10; omega)), (by simp only [F39r0, h0, cond_true]; kernel_rfl)⟩, fun h0 => ⟨fun h1 => (by simp only [F39r0, h0, h1, cond_true, cond_false]; kernel_rfl), fun h1 => (by simp only [F39r0, h0, h1, cond_false]; kernel_rfl)⟩⟩
  · cases h

def sp36 : CallT := table [(39, S39), (22, S22)]
theorem sp36_ok : SpecOk Go.Vm.G sp36 := SpecOk.cons ok39 (SpecOk.cons ok22 (SpecOk.nil))
/-! "fulling/fullinglaw13.Interval" -/
def F36r0 (x0 : Int) (x1 : Int) (x2 : Int) (x3 : Int) : Int := (bif decide (F39r0 x0 x2 > F39r0 x1 x3) then (bif decide (F22r0 x0 31 > 0) then F39r0 x1 x3 else F39r0 x0 x2) else F39r0 x0 x2)
def F36r1 (x0 : Int) (x1 : Int) (x2 : Int) (x3 : Int) : Int := (bif decide (F39r0 x0 x2 > F39r0 x1 x3) then (bif decide (F22r0 x0 31 > 0) then F39r0 x0 x2 else F39r0 x1 x3) else F39r0 x1 x3)
def S36 : Spec
  | [.lit (.int .i64 x0), .lit (.int .i64 x1), .lit (.int .i64 x2), .lit (.int .i64 x3)], s => some (.agg [.lit (.int .i64 (F36r0 x0 x1 x2 x3)), .lit (.int .i64 (F36r1 x0 x1 x2 x3))], s)
  | _, _ => none
theorem tree36 (x0 : Int) (x1 : Int) (x2 : Int) (x3 : Int) (Q : AV → St → Prop) : funP Go.Vm.G sp36 36 [.lit (.int .i64 x0), .lit (.int .i64 x1), .lit (.int .i64 x2), .lit (.int .i64 x3)] St.nil (Hint.ite (Hint.go (Hint.go (Hint.go (Hint.ite Hint.done Hint.done)))) (Hint.go (Hint.go (Hint.go (Hint.go Hint.done))))) Q = ((decide (F39r0 x0 x2 > F39r0 x1 x3) = true → (decide (F22r0 x0 31 > 0) = true → Q (AV.agg [AV.lit (Value.int IntKind.i64 (F39r0 x1 x3)), AV.lit (Value.int IntKind.i64 (F39r0 x0 x2))]) (St.mk 0 0 Tr.nil)) ∧ (decide (F22r0 x0 31 > 0) = false → Q (AV.agg [AV.lit (Value.int IntKind.i64 (F39r0 x0 x2)), AV.lit (Value.int IntKind.i64 (F39r0 x1 x3))]) (St.mk 0 0 Tr.nil))) ∧ (decide (F39r0 x0 x2 > F39r0 x1 x3) = false → Q (AV.agg [AV.lit (Value.int IntKind.i64 (F39r0 x0 x2)), AV.lit (Value.int IntKind.i64 (F39r0 x1 x3))]) (St.mk 0 0 Tr.nil))) := by kernel_rfl
theorem ok36 : Ok Go.Vm.G 36 S36 := by
  intro args s v s' h
  unfold S36 at h
  split at h
  · skip
    rename_i x0 x1 x2 x3
    injection h with h; injection h with h1 h2; subst h1; subst h2
    refine runs_of_alone sp36_ok rfl (args' := [.lit (.int .i64 x0), .lit (.int .i64 x1), .lit (.int .i64 x2), .lit (.int .i64 x3)]) (by kernel_rfl) (h := Hint.ite (Hint.go (Hint.go (Hint.go (Hint.ite Hint.done Hint.done)))) (Hint.go (Hint.go (Hint.go (Hint.go Hint.done))))) ?_
    rw [tree36]
    exact ⟨fun h0 => ⟨fun h1 => (by simp only [F36r0, F36r1, h0, h1, cond_true]; kernel_rfl), fun h1 => (by simp only [F36r0, F36r1, h0, h1, cond_true, cond_false]; kernel_rfl)⟩, fun h0 => (by simp only [F36r0, F36r1, h0, cond_false]; kernel_rfl)⟩
  · cases h

def sp113 : CallT := table [(71, S71)]
theorem sp113_ok : SpecOk Go.Vm.G sp113 := SpecOk.cons ok71 (SpecOk.nil)
/-! "fulling/interval.boolean" -/
def F113r0 (x0 : Bool) (_x1 : Bool) : Int := (bif x0 then 1 else 0)
def F113r1 (x0 : Bool) (x1 : Bool) : Int := (bif x0 then 1 else (bif x1 then 0 else 1))
def S113 : Spec
  | [.lit (.bool x0), .lit (.bool x1)], s => some (.agg [.lit (.int .i64 (F113r0 x0 x1)), .lit (.int .i64 (F113r1 x0 x1))], s)
  | _, _ => none
theorem tree113 (x0 : Bool) (x1 : Bool) (Q : AV → St → Prop) : funP Go.Vm.G sp113 113 [.lit (.bool x0), .lit (.bool x1)] St.nil (Hint.ite Hint.done (Hint.ite Hint.done Hint.done)) Q = ((x0 = true → Q (AV.agg [AV.lit (Value.int IntKind.i64 1), AV.lit (Value.int IntKind.i64 1)]) (St.mk 0 0 Tr.nil)) ∧ (x0 = false → (x1 = true → Q (AV.agg [AV.lit (Value.int IntKind.i64 0), AV.lit (Value.int IntKind.i64 0)]) (St.mk 0 0 Tr.nil)) ∧ (x1 = false → Q (AV.agg [AV.lit (Value.int IntKind.i64 0), AV.lit (Value.int IntKind.i64 1)]) (St.mk 0 0 Tr.nil)))) := by kernel_rfl
theorem ok113 : Ok Go.Vm.G 113 S113 := by
  intro args s v s' h
  unfold S113 at h
  split at h
  · skip
    rename_i x0 x1
    injection h with h; injection h with h1 h2; subst h1; subst h2
    refine runs_of_alone sp113_ok rfl (args' := [.lit (.bool x0), .lit (.bool x1)]) (by kernel_rfl) (h := Hint.ite Hint.done (Hint.ite Hint.done Hint.done)) ?_
    rw [tree113]
    exact ⟨fun h0 => (by simp only [F113r0, F113r1, h0, cond_true]; kernel_rfl), fun h0 => ⟨fun h1 => (by simp only [F113r0, F113r1, h0, h1, cond_true, cond_false]; kernel_rfl), fun h1 => (by simp only [F113r0, F113r1, h0, h1, cond_false]; kernel_rfl)⟩⟩
  · cases h

def sp82 : CallT := table [(32, S32), (113, S113)]
theorem sp82_ok : SpecOk Go.Vm.G sp82 := SpecOk.cons ok32 (SpecOk.cons ok113 (SpecOk.nil))
/-! "fulling/interval.compare" -/
def F82r0 (x0 : Int) (x1 : Int) (x2 : Int) (x3 : Int) (x4 : Int) : Int := (bif x0 == 15 then F113r0 false !F32r2 x1 x2 x3 x4 else (bif x0 == 16 then F113r0 (!F32r2 x1 x2 x3 x4) false else (bif x0 == 18 then F113r0 (decide (x2 ≤ x3)) (decide (x1 > x4)) else (bif x0 == 19 then (bif decide ((if x3 < x1 then x3 else x1) < 0) then (bif decide ((if x4 > x2 then x4 else x2) ≥ 0) then 0 else F113r0 (decide (x2 < x3)) (decide (x1 ≥ x4))) else F113r0 (decide (x2 < x3)) (decide (x1 ≥ x4))) else F113r0 (decide (x2 < x3)) (decide (x1 ≥ x4))))))
def F82r1 (x0 : Int) (x1 : Int) (x2 : Int) (x3 : Int) (x4 : Int) : Int := (bif x0 == 15 then F113r1 false !F32r2 x1 x2 x3 x4 else (bif x0 == 16 then F113r1 (!F32r2 x1 x2 x3 x4) false else (bif x0 == 18 then F113r1 (decide (x2 ≤ x3)) (decide (x1 > x4)) else (bif x0 == 19 then (bif decide ((if x3 < x1 then x3 else x1) < 0) then (bif decide ((if x4 > x2 then x4 else x2) ≥ 0) then 1 else F113r1 (decide (x2 < x3)) (decide (x1 ≥ x4))) else F113r1 (decide (x2 < x3)) (decide (x1 ≥ x4))) else F113r1 (decide (x2 < x3)) (decide (x1 ≥ x4))))))
def S82 : Spec
  | [.lit (.int .i64 x0), .agg [.lit (.int .i64 x1), .lit (.int .i64 x2)], .agg [.lit (.int .i64 x3), .lit (.int .i64 x4)]], s => some (.agg [.lit (.int .i64 (F82r0 x0 x1 x2 x3 x4)), .lit (.int .i64 (F82r1 x0 x1 x2 x3 x4))], s)
  | _, _ => none
theorem tree82 (x0 : Int) (x1 : Int) (x2 : Int) (x3 : Int) (x4 : Int) (Q : AV → St → Prop) : funP Go.Vm.G sp82 82 [.lit (.int .i64 x0), .agg [.lit (.int .i64 x1), .lit (.int .i64 x2)], .agg [.lit (.int .i64 x3), .lit (.int .i64 x4)]] St.nil (Hint.ite Hint.done (Hint.ite Hint.done (Hint.ite Hint.done (Hint.ite (Hint.ite (Hint.go (Hint.go (Hint.go (Hint.go (Hint.go (Hint.go (Hint.ite Hint.done Hint.done))))))) (Hint.go (Hint.go (Hint.go (Hint.go (Hint.go (Hint.go (Hint.go Hint.done)))))))) Hint.done)))) Q = (((x0 == 15) = true → Q (AV.agg [AV.lit (Value.int IntKind.i64 (F113r0 false !F32r2 x1 x2 x3 x4)), AV.lit (Value.int IntKind.i64 (F113r1 false !F32r2 x1 x2 x3 x4))]) (St.mk 0 0 Tr.nil)) ∧ ((x0 == 15) = false → ((x0 == 16) = true → Q (AV.agg [AV.lit (Value.int IntKind.i64 (F113r0 (!F32r2 x1 x2 x3 x4) false)), AV.lit (Value.int IntKind.i64 (F113r1 (!F32r2 x1 x2 x3 x4) false))]) (St.mk 0 0 Tr.nil)) ∧ ((x0 == 16) = false → ((x0 == 18) = true → Q (AV.agg [AV.lit (Value.int IntKind.i64 (F113r0 (decide (x2 ≤ x3)) (decide (x1 > x4)))), AV.lit (Value.int IntKind.i64 (F113r1 (decide (x2 ≤ x3)) (decide (x1 > x4))))]) (St.mk 0 0 Tr.nil)) ∧ ((x0 == 18) = false → ((x0 == 19) = true → (decide ((if x3 < x1 then x3 else x1) < 0) = true → (decide ((if x4 > x2 then x4 else x2) ≥ 0) = true → Q (AV.agg [AV.lit (Value.int IntKind.i64 0), AV.lit (Value.int IntKind.i64 1)]) (St.mk 0 0 Tr.nil)) ∧ (decide ((if x4 > x2 then x4 else x2) ≥ 0) = false → Q (AV.agg [AV.lit (Value.int IntKind.i64 (F113r0 (decide (x2 < x3)) (decide (x1 ≥ x4)))), AV.lit (Value.int IntKind.i64 (F113r1 (decide (x2 < x3)) (decide (x1 ≥ x4))))]) (St.mk 0 0 Tr.nil))) ∧ (decide ((if x3 < x1 then x3 else x1) < 0) = false → Q (AV.agg [AV.lit (Value.int IntKind.i64 (F113r0 (decide (x2 < x3)) (decide (x1 ≥ x4)))), AV.lit (Value.int IntKind.i64 (F113r1 (decide (x2 < x3)) (decide (x1 ≥ x4))))]) (St.mk 0 0 Tr.nil))) ∧ ((x0 == 19) = false → Q (AV.agg [AV.lit (Value.int IntKind.i64 (F113r0 (decide (x2 < x3)) (decide (x1 ≥ x4)))), AV.lit (Value.int IntKind.i64 (F113r1 (decide (x2 < x3)) (decide (x1 ≥ x4))))]) (St.mk 0 0 Tr.nil)))))) := by kernel_rfl
theorem ok82 : Ok Go.Vm.G 82 S82 := by
  intro args s v s' h
  unfold S82 at h
  split at h
  · skip
    rename_i x0 x1 x2 x3 x4
    injection h with h; injection h with h1 h2; subst h1; subst h2
    refine runs_of_alone sp82_ok rfl (args' := [.lit (.int .i64 x0), .agg [.lit (.int .i64 x1), .lit (.int .i64 x2)], .agg [.lit (.int .i64 x3), .lit (.int .i64 x4)]]) (by kernel_rfl) (h := Hint.ite Hint.done (Hint.ite Hint.done (Hint.ite Hint.done (Hint.ite (Hint.ite (Hint.go (Hint.go (Hint.go (Hint.go (Hint.go (Hint.go (Hint.ite Hint.done Hint.done))))))) (Hint.go (Hint.go (Hint.go (Hint.go (Hint.go (Hint.go (Hint.go Hint.done)))))))) Hint.done)))) ?_
    rw [tree82]
    exact ⟨fun h0 => (by simp only [F82r0, F82r1, h0, cond_true]; kernel_rfl), fun h0 => ⟨fun h1 => (by simp only [F82r0, F82r1, h0, h1, cond_true, cond_false]; kernel_rfl), fun h1 => ⟨fun h2 => (by simp only [F82r0, F82r1, h0, h1, h2, cond_true, cond_false]; kernel_rfl), fun h2 => ⟨fun h3 => ⟨fun h4 => ⟨fun h5 => (by simp only [F82r0, F82r1, h0, h1, h2, h3, h4, h5, cond_true, cond_false]; kernel_rfl), fun h5 => (by simp only [F82r0, F82r1, h0, h1, h2, h3, h4, h5, cond_true, cond_false]; kernel_rfl)⟩, fun h4 => (by simp only [F82r0, F82r1, h0, h1, h2, h3, h4, cond_true, cond_false]; kernel_rfl)⟩, fun h3 => (by simp only [F82r0, F82r1, h0, h1, h2, h3, cond_false]; kernel_rfl)⟩⟩⟩⟩
  · cases h

def sp85 : CallT := table []
theorem sp85_ok : SpecOk Go.Vm.G sp85 := SpecOk.nil
/-! "fulling/word.Unary" -/
def F85r0 (x0 : Int) (x1 : Int) : Int := (bif x0 == 20 then IntKind.wrap IntKind.i64 (0 - x1) else (bif x0 == 21 then IntKind.wrap IntKind.i64 ↑(BitVec.toNat (BitVec.ofInt 64 (-1) ^^^ BitVec.ofInt 64 x1)) else 0))
def S85 : Spec
  | [.lit (.int .i64 x0), .lit (.int .i64 x1)], s => some (.lit (.int .i64 (F85r0 x0 x1)), s)
  | _, _ => none
theorem tree85 (x0 : Int) (x1 : Int) (Q : AV → St → Prop) : funP Go.Vm.G sp85 85 [.lit (.int .i64 x0), .lit (.int .i64 x1)] St.nil (Hint.ite Hint.done (Hint.ite Hint.done Hint.done)) Q = (((x0 == 20) = true → Q (AV.lit (Value.int IntKind.i64 (IntKind.wrap IntKind.i64 (0 - x1)))) St.nil) ∧ ((x0 == 20) = false → ((x0 == 21) = true → Q (AV.lit (Value.int IntKind.i64 (IntKind.wrap IntKind.i64 ↑(BitVec.toNat (BitVec.ofInt 64 (-1) ^^^ BitVec.ofInt 64 x1))))) St.nil) ∧ ((x0 == 21) = false → Q (AV.lit (Value.int IntKind.i64 0)) St.nil))) := by kernel_rfl
theorem ok85 : Ok Go.Vm.G 85 S85 := by
  intro args s v s' h
  unfold S85 at h
  split at h
  · skip
    rename_i x0 x1
    injection h with h; injection h with h1 h2; subst h1; subst h2
    refine runs_of_alone sp85_ok rfl (args' := [.lit (.int .i64 x0), .lit (.int .i64 x1)]) (by kernel_rfl) (h := Hint.ite Hint.done (Hint.ite Hint.done Hint.done)) ?_
    rw [tree85]
    exact ⟨fun h0 => (by simp only [F85r0, h0, cond_true]; kernel_rfl), fun h0 => ⟨fun h1 => (by simp only [F85r0, h0, h1, cond_true, cond_false]; kernel_rfl), fun h1 => (by simp only [F85r0, h0, h1, cond_false]; kernel_rfl)⟩⟩
  · cases h

def sp86 : CallT := table []
theorem sp86_ok : SpecOk Go.Vm.G sp86 := SpecOk.nil
/-! "fulling/fullingref13.single" -/
def F86r0 (x0 : Int) (x1 : Int) : Bool := x0 == x1
def S86 : Spec
  | [.agg [.lit (.int .i64 x0), .lit (.int .i64 x1)]], s => some (.lit (.bool (F86r0 x0 x1)), s)
  | _, _ => none
theorem tree86 (x0 : Int) (x1 : Int) (Q : AV → St → Prop) : funP Go.Vm.G sp86 86 [.agg [.lit (.int .i64 x0), .lit (.int .i64 x1)]] St.nil (Hint.done) Q = (Q (AV.lit (Value.bool (x0 == x1))) (St.mk 0 0 Tr.nil)) := by kernel_rfl
theorem ok86 : Ok Go.Vm.G 86 S86 := by
  intro args s v s' h
  unfold S86 at h
  split at h
  · skip
    rename_i x0 x1
    injection h with h; injection h with h1 h2; subst h1; subst h2
    refine runs_of_alone sp86_ok rfl (args' := [.agg [.lit (.int .i64 x0), .lit (.int .i64 x1)]]) (by kernel_rfl) (h := Hint.done) ?_
    rw [tree86]
    exact (by kernel_rfl)
  · cases h

def sp87 : CallT := table []
theorem sp87_ok : SpecOk Go.Vm.G sp87 := SpecOk.nil
/-! "fulling/fullingref13.exactly" -/
def F87r0 (x0 : Int) : Int := x0
def F87r1 (x0 : Int) : Int := x0
def S87 : Spec
  | [.lit (.int .i64 x0)], s => some (.agg [.lit (.int .i64 (F87r0 x0)), .lit (.int .i64 (F87r1 x0))], s)
  | _, _ => none
theorem tree87 (x0 : Int) (Q : AV → St → Prop) : funP Go.Vm.G sp87 87 [.lit (.int .i64 x0)] St.nil (Hint.done) Q = (Q (AV.agg [AV.lit (Value.int IntKind.i64 x0), AV.lit (Value.int IntKind.i64 x0)]) (St.mk 0 0 Tr.nil)) := by kernel_rfl
theorem ok87 : Ok Go.Vm.G 87 S87 := by
  intro args s v s' h
  unfold S87 at h
  split at h
  · skip
    rename_i x0
    injection h with h; injection h with h1 h2; subst h1; subst h2
    refine runs_of_alone sp87_ok rfl (args' := [.lit (.int .i64 x0)]) (by kernel_rfl) (h := Hint.done) ?_
    rw [tree87]
    exact (by kernel_rfl)
  · cases h

def sp88 : CallT := table []
theorem sp88_ok : SpecOk Go.Vm.G sp88 := SpecOk.nil
/-! "fulling/fullingref13.add" -/
def F88r0 (x0 : Int) (x1 : Int) : Int := IntKind.wrap IntKind.i64 (x0 + x1)
def F88r1 (x0 : Int) (x1 : Int) : Bool := (bif !decide (x0 < 0) == decide (x1 < 0) then true else decide (IntKind.wrap IntKind.i64 (x0 + x1) < 0) == decide (x0 < 0))
def S88 : Spec
  | [.lit (.int .i64 x0), .lit (.int .i64 x1)], s => some (.tup [.lit (.int .i64 (F88r0 x0 x1)), .lit (.bool (F88r1 x0 x1))], s)
  | _, _ => none
theorem tree88 (x0 : Int) (x1 : Int) (Q : AV → St → Prop) : funP Go.Vm.G sp88 88 [.lit (.int .i64 x0), .lit (.int .i64 x1)] St.nil (Hint.ite (Hint.go (Hint.go (Hint.go (Hint.go (Hint.go Hint.done))))) (Hint.go (Hint.go (Hint.go (Hint.go (Hint.go Hint.done)))))) Q = (((!decide (x0 < 0) == decide (x1 < 0)) = true → Q (AV.tup [AV.lit (Value.int IntKind.i64 (IntKind.wrap IntKind.i64 (x0 + x1))), AV.lit (Value.bool true)]) St.nil) ∧ ((!decide (x0 < 0) == decide (x1 < 0)) = false → Q (AV.tup [AV.lit (Value.int IntKind.i64 (IntKind.wrap IntKind.i64 (x0 + x1))), AV.lit (Value.bool (decide (IntKind.wrap IntKind.i64 (x0 + x1) < 0) == decide (x0 < 0)))]) St.nil)) := by kernel_rfl
theorem ok88 : Ok Go.Vm.G 88 S88 := by
  intro args s v s' h
  unfold S88 at h
  split at h
  · skip
    rename_i x0 x1
    injection h with h; injection h with h1 h2; subst h1; subst h2
    refine runs_of_alone sp88_ok rfl (args' := [.lit (.int .i64 x0), .lit (.int .i64 x1)]) (by kernel_rfl) (h := Hint.ite (Hint.go (Hint.go (Hint.go (Hint.go (Hint.go Hint.done))))) (Hint.go (Hint.go (Hint.go (Hint.go (Hint.go Hint.done)))))) ?_
    rw [tree88]
    exact ⟨fun h0 => (by simp only [F88r1, h0, cond_true]; kernel_rfl), fun h0 => (by simp only [F88r1, h0, cond_false]; kernel_rfl)⟩
  · cases h

def sp90 : CallT := table []
theorem sp90_ok : SpecOk Go.Vm.G sp90 := SpecOk.nil
/-! "fulling/fullingref13.sub" -/
def F90r0 (x0 : Int) (x1 : Int) : Int := IntKind.wrap IntKind.i64 (x0 - x1)
def F90r1 (x0 : Int) (x1 : Int) : Bool := (bif decide (x0 < 0) == decide (x1 < 0) then true else decide (IntKind.wrap IntKind.i64 (x0 - x1) < 0) == decide (x0 < 0))
def S90 : Spec
  | [.lit (.int .i64 x0), .lit (.int .i64 x1)], s => some (.tup [.lit (.int .i64 (F90r0 x0 x1)), .lit (.bool (F90r1 x0 x1))], s)
  | _, _ => none
theorem tree90 (x0 : Int) (x1 : Int) (Q : AV → St → Prop) : funP Go.Vm.G sp90 90 [.lit (.int .i64 x0), .lit (.int .i64 x1)] St.nil (Hint.ite (Hint.go (Hint.go (Hint.go (Hint.go (Hint.go Hint.done))))) (Hint.go (Hint.go (Hint.go (Hint.go (Hint.go Hint.done)))))) Q = (((decide (x0 < 0) == decide (x1 < 0)) = true → Q (AV.tup [AV.lit (Value.int IntKind.i64 (IntKind.wrap IntKind.i64 (x0 - x1))), AV.lit (Value.bool true)]) St.nil) ∧ ((decide (x0 < 0) == decide (x1 < 0)) = false → Q (AV.tup [AV.lit (Value.int IntKind.i64 (IntKind.wrap IntKind.i64 (x0 - x1))), AV.lit (Value.bool (decide (IntKind.wrap IntKind.i64 (x0 - x1) < 0) == decide (x0 < 0)))]) St.nil)) := by kernel_rfl
theorem ok90 : Ok Go.Vm.G 90 S90 := by
  intro args s v s' h
  unfold S90 at h
  split at h
  · skip
    rename_i x0 x1
    injection h with h; injection h with h1 h2; subst h1; subst h2
    refine runs_of_alone sp90_ok rfl (args' := [.lit (.int .i64 x0), .lit (.int .i64 x1)]) (by kernel_rfl) (h := Hint.ite (Hint.go (Hint.go (Hint.go (Hint.go (Hint.go Hint.done))))) (Hint.go (Hint.go (Hint.go (Hint.go (Hint.go Hint.done)))))) ?_
    rw [tree90]
    exact ⟨fun h0 => (by simp only [F90r1, h0, cond_true]; kernel_rfl), fun h0 => (by simp only [F90r1, h0, cond_false]; kernel_rfl)⟩
  · cases h

def sp84 : CallT := table []
theorem sp84_ok : SpecOk Go.Vm.G sp84 := SpecOk.nil
/-! "fulling/fullingref1.boolWord" -/
def F84r0 (x0 : Bool) : Int := (bif x0 then 1 else 0)
def S84 : Spec
  | [.lit (.bool x0)], s => some (.lit (.int .i64 (F84r0 x0)), s)
  | _, _ => none
theorem tree84 (x0 : Bool) (Q : AV → St → Prop) : funP Go.Vm.G sp84 84 [.lit (.bool x0)] St.nil (Hint.ite Hint.done Hint.done) Q = ((x0 = true → Q (AV.lit (Value.int IntKind.i64 1)) St.nil) ∧ (x0 = false → Q (AV.lit (Value.int IntKind.i64 0)) St.nil)) := by kernel_rfl
theorem ok84 : Ok Go.Vm.G 84 S84 := by
  intro args s v s' h
  unfold S84 at h
  split at h
  · skip
    rename_i x0
    injection h with h; injection h with h1 h2; subst h1; subst h2
    refine runs_of_alone sp84_ok rfl (args' := [.lit (.bool x0)]) (by kernel_rfl) (h := Hint.ite Hint.done Hint.done) ?_
    rw [tree84]
    exact ⟨fun h0 => (by simp only [F84r0, h0, cond_true]; kernel_rfl), fun h0 => (by simp only [F84r0, h0, cond_false]; kernel_rfl)⟩
  · cases h

def sp120 : CallT := table []
theorem sp120_ok : SpecOk Go.Vm.G sp120 := SpecOk.nil
/-! "fulling/word.truth" -/
def F120r0 (x0 : Bool) : Int := (bif x0 then 1 else 0)
def S120 : Spec
  | [.lit (.bool x0)], s => some (.lit (.int .i64 (F120r0 x0)), s)
  | _, _ => none
theorem tree120 (x0 : Bool) (Q : AV → St → Prop) : funP Go.Vm.G sp120 120 [.lit (.bool x0)] St.nil (Hint.ite Hint.done Hint.done) Q = ((x0 = true → Q (AV.lit (Value.int IntKind.i64 1)) St.nil) ∧ (x0 = false → Q (AV.lit (Value.int IntKind.i64 0)) St.nil)) := by kernel_rfl
theorem ok120 : Ok Go.Vm.G 120 S120 := by
  intro args s v s' h
  unfold S120 at h
  split at h
  · skip
    rename_i x0
    injection h with h; injection h with h1 h2; subst h1; subst h2
    refine runs_of_alone sp120_ok rfl (args' := [.lit (.bool x0)]) (by kernel_rfl) (h := Hint.ite Hint.done Hint.done) ?_
    rw [tree120]
    exact ⟨fun h0 => (by simp only [F120r0, h0, cond_true]; kernel_rfl), fun h0 => (by simp only [F120r0, h0, cond_false]; kernel_rfl)⟩
  · cases h

def sp109 : CallT := table []
theorem sp109_ok : SpecOk Go.Vm.G sp109 := SpecOk.nil
/-! "fulling/word.quotient" -/
def F109r0 (x0 : Int) (x1 : Int) : Int := (bif x1 == 0 then 0 else (bif x1 == -1 then IntKind.wrap IntKind.i64 (0 - x0) else IntKind.wrap IntKind.i64 (Int.tdiv x0 x1)))
def S109 : Spec
  | [.lit (.int .i64 x0), .lit (.int .i64 x1)], s => some (.lit (.int .i64 (F109r0 x0 x1)), s)
  | _, _ => none
theorem tree109 (x0 : Int) (x1 : Int) (Q : AV → St → Prop) : funP Go.Vm.G sp109 109 [.lit (.int .i64 x0), .lit (.int .i64 x1)] St.nil (Hint.ite Hint.done (Hint.ite Hint.done (Hint.got 6 2 (AV.lit (Value.int IntKind.i64 (IntKind.wrap IntKind.i64 (Int.tdiv x0 x1)))) none Hint.done))) Q = (((x1 == 0) = true → Q (AV.lit (Value.int IntKind.i64 0)) St.nil) ∧ ((x1 == 0) = false → ((x1 == -1) = true → Q (AV.lit (Value.int IntKind.i64 (IntKind.wrap IntKind.i64 (0 - x0)))) St.nil) ∧ ((x1 == -1) = false → bin G BinOp.quo 2 (AV.lit (Value.int IntKind.i64 x0)) (AV.lit (Value.int IntKind.i64 x1)) = some (AV.lit (Value.int IntKind.i64 (IntKind.wrap IntKind.i64 (Int.tdiv x0 x1)))) ∧ Q (AV.lit (Value.int IntKind.i64 (IntKind.wrap IntKind.i64 (Int.tdiv x0 x1)))) St.nil))) := by kernel_rfl
theorem ok109 : Ok Go.Vm.G 109 S109 := by
  intro args s v s' h
  unfold S109 at h
  split at h
  · skip
    rename_i x0 x1
    injection h with h; injection h with h1 h2; subst h1; subst h2
    refine runs_of_alone sp109_ok rfl (args' := [.lit (.int .i64 x0), .lit (.int .i64 x1)]) (by kernel_rfl) (h := Hint.ite Hint.done (Hint.ite Hint.done (Hint.got 6 2 (AV.lit (Value.int IntKind.i64 (IntKind.wrap IntKind.i64 (Int.tdiv x0 x1)))) none Hint.done))) ?_
    rw [tree109]
    exact ⟨fun h0 => (by simp only [F109r0, h0, cond_true]; kernel_rfl), fun h0 => ⟨fun h1 => (by simp only [F109r0, h0, h1, cond_true, cond_false]; kernel_rfl), fun h1 => ⟨(bin_quo (by simp_all)), (by simp only [F109r0, h0, h1, cond_false]; kernel_rfl)⟩⟩⟩
  · cases h

def sp83 : CallT := table []
theorem sp83_ok : SpecOk Go.Vm.G sp83 := SpecOk.nil
/-! "fulling/fullingref1.Div" -/
def F83r0 (x0 : Int) (x1 : Int) : Int := (bif x1 == 0 then 0 else (bif x1 == -1 then IntKind.wrap IntKind.i64 (0 - x0) else IntKind.wrap IntKind.i64 (Int.tdiv x0 x1)))
def S83 : Spec
  | [.lit (.int .i64 x0), .lit (.int .i64 x1)], s => some (.lit (.int .i64 (F83r0 x0 x1)), s)
  | _, _ => none
theorem tree83 (x0 : Int) (x1 : Int) (Q : AV → St → Prop) : funP Go.Vm.G sp83 83 [.lit (.int .i64 x0), .lit (.int .i64 x1)] St.nil (Hint.ite Hint.done (Hint.ite Hint.done (Hint.got 5 2 (AV.lit (Value.int IntKind.i64 (IntKind.wrap IntKind.i64 (Int.tdiv x0 x1)))) none Hint.done))) Q = (((x1 == 0) = true → Q (AV.lit (Value.int IntKind.i64 0)) St.nil) ∧ ((x1 == 0) = false → ((x1 == -1) = true → Q (AV.lit (Value.int IntKind.i64 (IntKind.wrap IntKind.i64 (0 - x0)))) St.nil) ∧ ((x1 == -1) = false → bin G BinOp.quo 2 (AV.lit (Value.int IntKind.i64 x0)) (AV.lit (Value.int IntKind.i64 x1)) = some (AV.lit (Value.int IntKind.i64 (IntKind.wrap IntKind.i64 (Int.tdiv x0 x1)))) ∧ Q (AV.lit (Value.int IntKind.i64 (IntKind.wrap IntKind.i64 (Int.tdiv x0 x1)))) St.nil))) := by kernel_rfl
theorem ok83 : Ok Go.Vm.G 83 S83 := by
  intro args s v s' h
  unfold S83 at h
  split at h
  · skip
    rename_i x0 x1
    injection h with h; injection h with h1 h2; subst h1; subst h2
    refine runs_of_alone sp83_ok rfl (args' := [.lit (.int .i64 x0), .lit (.int .i64 x1)]) (by kernel_rfl) (h := Hint.ite Hint.done (Hint.ite Hint.done (Hint.got 5 2 (AV.lit (Value.int IntKind.i64 (IntKind.wrap IntKind.i64 (Int.tdiv x0 x1)))) none Hint.done))) ?_
    rw [tree83]
    exact ⟨fun h0 => (by simp only [F83r0, h0, cond_true]; kernel_rfl), fun h0 => ⟨fun h1 => (by simp only [F83r0, h0, h1, cond_true, cond_false]; kernel_rfl), fun h1 => ⟨(bin_quo (by simp_all)), (by simp only [F83r0, h0, h1, cond_false]; kernel_rfl)⟩⟩⟩
  · cases h

def sp110 : CallT := table [(120, S120)]
theorem sp110_ok : SpecOk Go.Vm.G sp110 := SpecOk.cons ok120 (SpecOk.nil)
/-! "fulling/word.shiftOrCompare" -/
def F110r0 (x0 : Int) (x1 : Int) (x2 : Int) : Int := (bif x0 == 12 then IntKind.wrap IntKind.i64 (x1 * 2 ^ min (Int.toNat (IntKind.wrap IntKind.u64 (IntKind.wrap IntKind.i64 ↑(BitVec.toNat (BitVec.ofInt 64 x2 &&& BitVec.ofInt 64 63))))) 64) else (bif x0 == 13 then IntKind.wrap IntKind.i64 (Int.fdiv (IntKind.wrap IntKind.u64 x1) (2 ^ min (Int.toNat (IntKind.wrap IntKind.u64 (IntKind.wrap IntKind.i64 ↑(BitVec.toNat (BitVec.ofInt 64 x2 &&& BitVec.ofInt 64 63))))) 64)) else (bif x0 == 14 then Int.fdiv x1 (2 ^ min (Int.toNat (IntKind.wrap IntKind.u64 (IntKind.wrap IntKind.i64 ↑(BitVec.toNat (BitVec.ofInt 64 x2 &&& BitVec.ofInt 64 63))))) 64) else (bif x0 == 15 then F120r0 (x1 == x2) else (bif x0 == 16 then F120r0 (x1 != x2) else (bif x0 == 17 then F120r0 (decide (x1 < x2)) else (bif x0 == 18 then F120r0 (decide (x1 ≤ x2)) else (bif x0 == 19 then F120r0 (decide (IntKind.wrap IntKind.u64 x1 < IntKind.wrap IntKind.u64 x2)) else 0))))))))
def S110 : Spec
  | [.lit (.int .i64 x0), .lit (.int .i64 x1), .lit (.int .i64 x2)], s => some (.lit (.int .i64 (F110r0 x0 x1 x2)), s)
  | _, _ => none
theorem tree110 (x0 : Int) (x1 : Int) (x2 : Int) (Q : AV → St → Prop) : funP Go.Vm.G sp110 110 [.lit (.int .i64 x0), .lit (.int .i64 x1), .lit (.int .i64 x2)] St.nil (Hint.ite (Hint.got 4 2 (AV.lit (Value.int IntKind.i64 (IntKind.wrap IntKind.i64 (x1 * 2 ^ min (Int.toNat (IntKind.wrap IntKind.u64 (IntKind.wrap IntKind.i64 ↑(BitVec.toNat (BitVec.ofInt 64 x2 &&& BitVec.ofInt 64 63))))) 64)))) none Hint.done) (Hint.ite (Hint.got 6 3 (AV.lit (Value.int IntKind.u64 (Int.fdiv (IntKind.wrap IntKind.u64 x1) (2 ^ min (Int.toNat (IntKind.wrap IntKind.u64 (IntKind.wrap IntKind.i64 ↑(BitVec.toNat (BitVec.ofInt 64 x2 &&& BitVec.ofInt 64 63))))) 64)))) none Hint.done) (Hint.ite (Hint.got 8 2 (AV.lit (Value.int IntKind.i64 (Int.fdiv x1 (2 ^ min (Int.toNat (IntKind.wrap IntKind.u64 (IntKind.wrap IntKind.i64 ↑(BitVec.toNat (BitVec.ofInt 64 x2 &&& BitVec.ofInt 64 63))))) 64)))) none Hint.done) (Hint.ite Hint.done (Hint.ite Hint.done (Hint.ite Hint.done (Hint.ite Hint.done (Hint.ite Hint.done Hint.done)))))))) Q = (((x0 == 12) = true → bin G BinOp.shl 2 (AV.lit (Value.int IntKind.i64 x1)) (AV.lit (Value.int IntKind.u64 (IntKind.wrap IntKind.u64 (IntKind.wrap IntKind.i64 ↑(BitVec.toNat (BitVec.ofInt 64 x2 &&& BitVec.ofInt 64 63)))))) = some (AV.lit (Value.int IntKind.i64 (IntKind.wrap IntKind.i64 (x1 * 2 ^ min (Int.toNat (IntKind.wrap IntKind.u64 (IntKind.wrap IntKind.i64 ↑(BitVec.toNat (BitVec.ofInt 64 x2 &&& BitVec.ofInt 64 63))))) 64)))) ∧ Q (AV.lit (Value.int IntKind.i64 (IntKind.wrap IntKind.i64 (x1 * 2 ^ min (Int.toNat (IntKind.wrap IntKind.u64 (IntKind.wrap IntKind.i64 ↑(BitVec.toNat (BitVec.ofInt 64 x2 &&& BitVec.ofInt 64 63))))) 64)))) St.nil) ∧ ((x0 == 12) = false → ((x0 == 13) = true → bin G BinOp.shr 108 (AV.lit (Value.int IntKind.u64 (IntKind.wrap IntKind.u64 x1))) (AV.lit (Value.int IntKind.u64 (IntKind.wrap IntKind.u64 (IntKind.wrap IntKind.i64 ↑(BitVec.toNat (BitVec.ofInt 64 x2 &&& BitVec.ofInt 64 63)))))) = some (AV.lit (Value.int IntKind.u64 (Int.fdiv (IntKind.wrap IntKind.u64 x1) (2 ^ min (Int.toNat (IntKind.wrap IntKind.u64 (IntKind.wrap IntKind.i64 ↑(BitVec.toNat (BitVec.ofInt 64 x2 &&& BitVec.ofInt 64 63))))) 64)))) ∧ Q (AV.lit (Value.int IntKind.i64 (IntKind.wrap IntKind.i64 (Int.fdiv (IntKind.wrap IntKind.u64 x1) (2 ^ min (Int.toNat (IntKind.wrap IntKind.u64 (IntKind.wrap IntKind.i64 ↑(BitVec.toNat (BitVec.ofInt 64 x2 &&& BitVec.ofInt 64 63))))) 64))))) St.nil) ∧ ((x0 == 13) = false → ((x0 == 14) = true → bin G BinOp.shr 2 (AV.lit (Value.int IntKind.i64 x1)) (AV.lit (Value.int IntKind.u64 (IntKind.wrap IntKind.u64 (IntKind.wrap IntKind.i64 ↑(BitVec.toNat (BitVec.ofInt 64 x2 &&& BitVec.ofInt 64 63)))))) = some (AV.lit (Value.int IntKind.i64 (Int.fdiv x1 (2 ^ min (Int.toNat (IntKind.wrap IntKind.u64 (IntKind.wrap IntKind.i64 ↑(BitVec.toNat (BitVec.ofInt 64 x2 &&& BitVec.ofInt 64 63))))) 64)))) ∧ Q (AV.lit (Value.int IntKind.i64 (Int.fdiv x1 (2 ^ min (Int.toNat (IntKind.wrap IntKind.u64 (IntKind.wrap IntKind.i64 ↑(BitVec.toNat (BitVec.ofInt 64 x2 &&& BitVec.ofInt 64 63))))) 64)))) St.nil) ∧ ((x0 == 14) = false → ((x0 == 15) = true → Q (AV.lit (Value.int IntKind.i64 (F120r0 (x1 == x2)))) St.nil) ∧ ((x0 == 15) = false → ((x0 == 16) = true → Q (AV.lit (Value.int IntKind.i64 (F120r0 (x1 != x2)))) St.nil) ∧ ((x0 == 16) = false → ((x0 == 17) = true → Q (AV.lit (Value.int IntKind.i64 (F120r0 (decide (x1 < x2))))) St.nil) ∧ ((x0 == 17) = false → ((x0 == 18) = true → Q (AV.lit (Value.int IntKind.i64 (F120r0 (decide (x1 ≤ x2))))) St.nil) ∧ ((x0 == 18) = false → ((x0 == 19) = true → Q (AV.lit (Value.int IntKind.i64 (F120r0 (decide (IntKind.wrap IntKind.u64 x1 < IntKind.wrap IntKind.u64 x2))))) St.nil) ∧ ((x0 == 19) = false → Q (AV.lit (Value.int IntKind.i64 0)) St.nil))))))))) := by kernel_rfl
theorem ok110 : Ok Go.Vm.G 110 S110 := by
  intro args s v s' h
  unfold S110 at h
  split at h
  · skip
    rename_i x0 x1 x2
    injection h with h; injection h with h1 h2; subst h1; subst h2
    refine runs_of_alone sp110_ok rfl (args' := [.lit (.int .i64 x0), .lit (.int .i64 x1), .lit (.int .i64 x2)]) (by kernel_rfl) (h := Hint.ite (Hint.got 4 2 (AV.lit (Value.int IntKind.i64 (IntKind.wrap IntKind.i64 (x1 * 2 ^ min (Int.toNat (IntKind.wrap IntKind.u64 (IntKind.wrap IntKind.i64 ↑(BitVec.toNat (BitVec.ofInt 64 x2 &&& BitVec.ofInt 64 63))))) 64)))) none Hint.done) (Hint.ite (Hint.got 6 3 (AV.lit (Value.int IntKind.u64 (Int.fdiv (IntKind.wrap IntKind.u64 x1) (2 ^ min (Int.toNat (IntKind.wrap IntKind.u64 (IntKind.wrap IntKind.i64 ↑(BitVec.toNat (BitVec.ofInt 64 x2 &&& BitVec.ofInt 64 63))))) 64)))) none Hint.done) (Hint.ite (Hint.got 8 2 (AV.lit (Value.int IntKind.i64 (Int.fdiv x1 (2 ^ min (Int.toNat (IntKind.wrap IntKind.u64 (IntKind.wrap IntKind.i64 ↑(BitVec.toNat (BitVec.ofInt 64 x2 &&& BitVec.ofInt 64 63))))) 64)))) none Hint.done) (Hint.ite Hint.done (Hint.ite Hint.done (Hint.ite Hint.done (Hint.ite Hint.done (Hint.ite Hint.done Hint.done)))))))) ?_
    rw [tree110]
    exact ⟨fun h0 => ⟨(bin_shl (wrap_u64_nonneg _)), (by simp only [F110r0, h0, cond_true]; kernel_rfl)⟩, fun h0 => ⟨fun h1 => ⟨(bin_shr (wrap_u64_nonneg _)), (by simp only [F110r0, h0, h1, cond_true, cond_false]; kernel_rfl)⟩, fun h1 => ⟨fun h2 => ⟨(bin_shr (wrap_u64_nonneg _)), (by simp only [F110r0, h0, h1, h2, cond_true, cond_false]; kernel_rfl)⟩, fun h2 => ⟨fun h3 => (by simp only [F110r0, h0, h1, h2, h3, cond_true, cond_false]; kernel_rfl), fun h3 => ⟨fun h4 => (by simp only [F110r0, h0, h1, h2, h3, h4, cond_true, cond_false]; kernel_rfl), fun h4 => ⟨fun h5 => (by simp only [F110r0, h0, h1, h2, h3, h4, h5, cond_true, cond_false]; kernel_rfl), fun h5 => ⟨fun h6 => (by simp only [F110r0, h0, h1, h2, h3, h4, h5, h6, cond_true, cond_false]; kernel_rfl), fun h6 => ⟨fun h7 => (by simp only [F110r0, h0, h1, h2, h3, h4, h5, h6, h7, cond_true, cond_false]; kernel_rfl), fun h7 => (by simp only [F110r0, h0, h1, h2, h3, h4, h5, h6, h7, cond_false]; kernel_rfl)⟩⟩⟩⟩⟩⟩⟩⟩
  · cases h

def sp41 : CallT := table [(83, S83), (84, S84)]
theorem sp41_ok : SpecOk Go.Vm.G sp41 := SpecOk.cons ok83 (SpecOk.cons ok84 (SpecOk.nil))
/-! "fulling/fullingref1.Binary" -/
def F41r0 (x0 : Int) (x1 : Int) (x2 : Int) : Int := (bif x0 == 4 then IntKind.wrap IntKind.i64 (x1 + x2) else (bif x0 == 5 then IntKind.wrap IntKind.i64 (x1 - x2) else (bif x0 == 6 then IntKind.wrap IntKind.i64 (x1 * x2) else (bif x0 == 7 then F83r0 x1 x2 else (bif x0 == 8 then (bif x2 == 0 then 0 else IntKind.wrap IntKind.i64 (x1 - IntKind.wrap IntKind.i64 (F83r0 x1 x2 * x2))) else (bif x0 == 9 then IntKind.wrap IntKind.i64 ↑(BitVec.toNat (BitVec.ofInt 64 x1 &&& BitVec.ofInt 64 x2)) else (bif x0 == 10 then IntKind.wrap IntKind.i64 ↑(BitVec.toNat (BitVec.ofInt 64 x1 ||| BitVec.ofInt 64 x2)) else (bif x0 == 11 then IntKind.wrap IntKind.i64 ↑(BitVec.toNat (BitVec.ofInt 64 x1 ^^^ BitVec.ofInt 64 x2)) else (bif x0 == 12 then IntKind.wrap IntKind.i64 (x1 * 2 ^ min (Int.toNat (IntKind.wrap IntKind.u64 (IntKind.wrap IntKind.i64 ↑(BitVec.toNat (BitVec.ofInt 64 x2 &&& BitVec.ofInt 64 63))))) 64) else (bif x0 == 13 then IntKind.wrap IntKind.i64 (Int.fdiv (IntKind.wrap IntKind.u64 x1) (2 ^ min (Int.toNat (IntKind.wrap IntKind.u64 (IntKind.wrap IntKind.i64 ↑(BitVec.toNat (BitVec.ofInt 64 x2 &&& BitVec.ofInt 64 63))))) 64)) else (bif x0 == 14 then Int.fdiv x1 (2 ^ min (Int.toNat (IntKind.wrap IntKind.u64 (IntKind.wrap IntKind.i64 ↑(BitVec.toNat (BitVec.ofInt 64 x2 &&& BitVec.ofInt 64 63))))) 64) else (bif x0 == 15 then F84r0 (x1 == x2) else (bif x0 == 16 then F84r0 (x1 != x2) else (bif x0 == 17 then F84r0 (decide (x1 < x2)) else (bif x0 == 18 then F84r0 (decide (x1 ≤ x2)) else (bif x0 == 19 then F84r0 (decide (IntKind.wrap IntKind.u64 x1 < IntKind.wrap IntKind.u64 x2)) else 0))))))))))))))))
def S41 : Spec
  | [.lit (.int .i64 x0), .lit (.int .i64 x1), .lit (.int .i64 x2)], s => some (.lit (.int .i64 (F41r0 x0 x1 x2)), s)
  | _, _ => none
theorem tree41 (x0 : Int) (x1 : Int) (x2 : Int) (Q : AV → St → Prop) : funP Go.Vm.G sp41 41 [.lit (.int .i64 x0), .lit (.int .i64 x1), .lit (.int .i64 x2)] St.nil (Hint.ite Hint.done (Hint.ite Hint.done (Hint.ite Hint.done (Hint.ite Hint.done (Hint.ite (Hint.ite Hint.done Hint.done) (Hint.ite Hint.done (Hint.ite Hint.done (Hint.ite Hint.done (Hint.ite (Hint.got 23 2 (AV.lit (Value.int IntKind.i64 (IntKind.wrap IntKind.i64 (x1 * 2 ^ min (Int.toNat (IntKind.wrap IntKind.u64 (IntKind.wrap IntKind.i64 ↑(BitVec.toNat (BitVec.ofInt 64 x2 &&& BitVec.ofInt 64 63))))) 64)))) none Hint.done) (Hint.ite (Hint.got 25 3 (AV.lit (Value.int IntKind.u64 (Int.fdiv (IntKind.wrap IntKind.u64 x1) (2 ^ min (Int.toNat (IntKind.wrap IntKind.u64 (IntKind.wrap IntKind.i64 ↑(BitVec.toNat (BitVec.ofInt 64 x2 &&& BitVec.ofInt 64 63))))) 64)))) none Hint.done) (Hint.ite (Hint.got 27 2 (AV.lit (Value.int IntKind.i64 (Int.fdiv x1 (2 ^ min (Int.toNat (IntKind.wrap IntKind.u64 (IntKind.wrap IntKind.i64 ↑(BitVec.toNat (BitVec.ofInt 64 x2 &&& BitVec.ofInt 64 63))))) 64)))) none Hint.done) (Hint.ite Hint.done (Hint.ite Hint.done (Hint.ite Hint.done (Hint.ite Hint.done (Hint.ite Hint.done Hint.done)))))))))))))))) Q = (((x0 == 4) = true → Q (AV.lit (Value.int IntKind.i64 (IntKind.wrap IntKind.i64 (x1 + x2)))) St.nil) ∧ ((x0 == 4) = false → ((x0 == 5) = true → Q (AV.lit (Value.int IntKind.i64 (IntKind.wrap IntKind.i64 (x1 - x2)))) St.nil) ∧ ((x0 == 5) = false → ((x0 == 6) = true → Q (AV.lit (Value.int IntKind.i64 (IntKind.wrap IntKind.i64 (x1 * x2)))) St.nil) ∧ ((x0 == 6) = false → ((x0 == 7) = true → Q (AV.lit (Value.int IntKind.i64 (F83r0 x1 x2))) St.nil) ∧ ((x0 == 7) = false → ((x0 == 8) = true → ((x2 == 0) = true → Q (AV.lit (Value.int IntKind.i64 0)) St.nil) ∧ ((x2 == 0) = false → Q (AV.lit (Value.int IntKind.i64 (IntKind.wrap IntKind.i64 (x1 - IntKind.wrap IntKind.i64 (F83r0 x1 x2 * x2))))) St.nil)) ∧ ((x0 == 8) = false → ((x0 == 9) = true → Q (AV.lit (Value.int IntKind.i64 (IntKind.wrap IntKind.i64 ↑(BitVec.toNat (BitVec.ofInt 64 x1 &&& BitVec.ofInt 64 x2))))) St.nil) ∧ ((x0 == 9) = false → ((x0 == 10) = true → Q (AV.lit (Value.int IntKind.i64 (IntKind.wrap IntKind.i64 ↑(BitVec.toNat (BitVec.ofInt 64 x1 ||| BitVec.ofInt 64 x2))))) St.nil) ∧ ((x0 == 10) = false → ((x0 == 11) = true → Q (AV.lit (Value.int IntKind.i64 (IntKind.wrap IntKind.i64 ↑(BitVec.toNat (BitVec.ofInt 64 x1 ^^^ BitVec.ofInt 64 x2))))) St.nil) ∧ ((x0 == 11) = false → ((x0 == 12) = true → bin G BinOp.shl 2 (AV.lit (Value.int IntKind.i64 x1)) (AV.lit (Value.int IntKind.u64 (IntKind.wrap IntKind.u64 (IntKind.wrap IntKind.i64 ↑(BitVec.toNat (BitVec.ofInt 64 x2 &&& BitVec.ofInt 64 63)))))) = some (AV.lit (Value.int IntKind.i64 (IntKind.wrap IntKind.i64 (x1 * 2 ^ min (Int.toNat (IntKind.wrap IntKind.u64 (IntKind.wrap IntKind.i64 ↑(BitVec.toNat (BitVec.ofInt 64 x2 &&& BitVec.ofInt 64 63))))) 64)))) ∧ Q (AV.lit (Value.int IntKind.i64 (IntKind.wrap IntKind.i64 (x1 * 2 ^ min (Int.toNat (IntKind.wrap IntKind.u64 (IntKind.wrap IntKind.i64 ↑(BitVec.toNat (BitVec.ofInt 64 x2 &&& BitVec.ofInt 64 63))))) 64)))) St.nil) ∧ ((x0 == 12) = false → ((x0 == 13) = true → bin G BinOp.shr 108 (AV.lit (Value.int IntKind.u64 (IntKind.wrap IntKind.u64 x1))) (AV.lit (Value.int IntKind.u64 (IntKind.wrap IntKind.u64 (IntKind.wrap IntKind.i64 ↑(BitVec.toNat (BitVec.ofInt 64 x2 &&& BitVec.ofInt 64 63)))))) = some (AV.lit (Value.int IntKind.u64 (Int.fdiv (IntKind.wrap IntKind.u64 x1) (2 ^ min (Int.toNat (IntKind.wrap IntKind.u64 (IntKind.wrap IntKind.i64 ↑(BitVec.toNat (BitVec.ofInt 64 x2 &&& BitVec.ofInt 64 63))))) 64)))) ∧ Q (AV.lit (Value.int IntKind.i64 (IntKind.wrap IntKind.i64 (Int.fdiv (IntKind.wrap IntKind.u64 x1) (2 ^ min (Int.toNat (IntKind.wrap IntKind.u64 (IntKind.wrap IntKind.i64 ↑(BitVec.toNat (BitVec.ofInt 64 x2 &&& BitVec.ofInt 64 63))))) 64))))) St.nil) ∧ ((x0 == 13) = false → ((x0 == 14) = true → bin G BinOp.shr 2 (AV.lit (Value.int IntKind.i64 x1)) (AV.lit (Value.int IntKind.u64 (IntKind.wrap IntKind.u64 (IntKind.wrap IntKind.i64 ↑(BitVec.toNat (BitVec.ofInt 64 x2 &&& BitVec.ofInt 64 63)))))) = some (AV.lit (Value.int IntKind.i64 (Int.fdiv x1 (2 ^ min (Int.toNat (IntKind.wrap IntKind.u64 (IntKind.wrap IntKind.i64 ↑(BitVec.toNat (BitVec.ofInt 64 x2 &&& BitVec.ofInt 64 63))))) 64)))) ∧ Q (AV.lit (Value.int IntKind.i64 (Int.fdiv x1 (2 ^ min (Int.toNat (IntKind.wrap IntKind.u64 (IntKind.wrap IntKind.i64 ↑(BitVec.toNat (BitVec.ofInt 64 x2 &&& BitVec.ofInt 64 63))))) 64)))) St.nil) ∧ ((x0 == 14) = false → ((x0 == 15) = true → Q (AV.lit (Value.int IntKind.i64 (F84r0 (x1 == x2)))) St.nil) ∧ ((x0 == 15) = false → ((x0 == 16) = true → Q (AV.lit (Value.int IntKind.i64 (F84r0 (x1 != x2)))) St.nil) ∧ ((x0 == 16) = false → ((x0 == 17) = true → Q (AV.lit (Value.int IntKind.i64 (F84r0 (decide (x1 < x2))))) St.nil) ∧ ((x0 == 17) = false → ((x0 == 18) = true → Q (AV.lit (Value.int IntKind.i64 (F84r0 (decide (x1 ≤ x2))))) St.nil) ∧ ((x0 == 18) = false → ((x0 == 19) = true → Q (AV.lit (Value.int IntKind.i64 (F84r0 (decide (IntKind.wrap IntKind.u64 x1 < IntKind.wrap IntKind.u64 x2))))) St.nil) ∧ ((x0 == 19) = false → Q (AV.lit (Value.int IntKind.i64 0)) St.nil))))))))))))))))) := by kernel_rfl
theorem ok41 : Ok Go.Vm.G 41 S41 := by
  intro args s v s' h
  unfold S41 at h
  split at h
  · skip
    rename_i x0 x1 x2
    injection h with h; injection h with h1 h2; subst h1; subst h2
    refine runs_of_alone sp41_ok rfl (args' := [.lit (.int .i64 x0), .lit (.int .i64 x1), .lit (.int .i64 x2)]) (by kernel_rfl) (h := Hint.ite Hint.done (Hint.ite Hint.done (Hint.ite Hint.done (Hint.ite Hint.done (Hint.ite (Hint.ite Hint.done Hint.done) (Hint.ite Hint.done (Hint.ite Hint.done (Hint.ite Hint.done (Hint.ite (Hint.got 23 2 (AV.lit (Value.int IntKind.i64 (IntKind.wrap IntKind.i64 (x1 * 2 ^ min (Int.toNat (IntKind.wrap IntKind.u64 (IntKind.wrap IntKind.i64 ↑(BitVec.toNat (BitVec.ofInt 64 x2 &&& BitVec.ofInt 64 63))))) 64)))) none Hint.done) (Hint.ite (Hint.got 25 3 (AV.lit (Value.int IntKind.u64 (Int.fdiv (IntKind.wrap IntKind.u64 x1) (2 ^ min (Int.toNat (IntKind.wrap IntKind.u64 (IntKind.wrap IntKind.i64 ↑(BitVec.toNat (BitVec.ofInt 64 x2 &&& BitVec.ofInt 64 63))))) 64)))) none Hint.done) (Hint.ite (Hint.got 27 2 (AV.lit (Value.int IntKind.i64 (Int.fdiv x1 (2 ^ min (Int.toNat (IntKind.wrap IntKind.u64 (IntKind.wrap IntKind.i64 ↑(BitVec.toNat (BitVec.ofInt 64 x2 &&& BitVec.ofInt 64 63))))) 64)))) none Hint.done) (Hint.ite Hint.done (Hint.ite Hint.done (Hint.ite Hint.done (Hint.ite Hint.done (Hint.ite Hint.done Hint.done)))))))))))))))) ?_
    rw [tree41]
    exact ⟨fun h0 => (by simp only [F41r0, h0, cond_true]; kernel_rfl), fun h0 => ⟨fun h1 => (by simp only [F41r0, h0, h1, cond_true, cond_false]; kernel_rfl), fun h1 => ⟨fun h2 => (by simp only [F41r0, h0, h1, h2, cond_true, cond_false]; kernel_rfl), fun h2 => ⟨fun h3 => (by simp only [F41r0, h0, h1, h2, h3, cond_true, cond_false]; kernel_rfl), fun h3 => ⟨fun h4 => ⟨fun h5 => (by simp only [F41r0, h0, h1, h2, h3, h4, h5, cond_true, cond_false]; kernel_rfl), fun h5 => (by simp only [F41r0, h0, h1, h2, h3, h4, h5, cond_true, cond_false]; kernel_rfl)⟩, fun h4 => ⟨fun h5 => (by simp only [F41r0, h0, h1, h2, h3, h4, h5, cond_true, cond_false]; kernel_rfl), fun h5 => ⟨fun h6 => (by simp only [F41r0, h0, h1, h2, h3, h4, h5, h6, cond_true, cond_false]; kernel_rfl), fun h6 => ⟨fun h7 => (by simp only [F41r0, h0, h1, h2, h3, h4, h5, h6, h7, cond_true, cond_false]; kernel_rfl), fun h7 => ⟨fun h8 => ⟨(bin_shl (wrap_u64_nonneg _)), (by simp only [F41r0, h0, h1, h2, h3, h4, h5, h6, h7, h8, cond_true, cond_false]; kernel_rfl)⟩, fun h8 => ⟨fun h9 => ⟨(bin_shr (wrap_u64_nonneg _)), (by simp only [F41r0, h0, h1, h2, h3, h4, h5, h6, h7, h8, h9, cond_true, cond_false]; kernel_rfl)⟩, fun h9 => ⟨fun h10 => ⟨(bin_shr (wrap_u64_nonneg _)), (by simp only [F41r0, h0, h1, h2, h3, h4, h5, h6, h7, h8, h9, h10, cond_true, cond_false]; kernel_rfl)⟩, fun h10 => ⟨fun h11 => (by simp only [F41r0, h0, h1, h2, h3, h4, h5, h6, h7, h8, h9, h10, h11, cond_true, cond_false]; kernel_rfl), fun h11 => ⟨fun h12 => (by simp only [F41r0, h0, h1, h2, h3, h4, h5, h6, h7, h8, h9, h10, h11, h12, cond_true, cond_false]; kernel_rfl), fun h12 => ⟨fun h13 => (by simp only [F41r0, h0, h1, h2, h3, h4, h5, h6, h7, h8, h9, h10, h11, h12, h13, cond_true, cond_false]; kernel_rfl), fun h13 => ⟨fun h14 => (by simp only [F41r0, h0, h1, h2, h3, h4, h5, h6, h7, h8, h9, h10, h11, h12, h13, h14, cond_true, cond_false]; kernel_rfl), fun h14 => ⟨fun h15 => (by simp only [F41r0, h0, h1, h2, h3, h4, h5, h6, h7, h8, h9, h10, h11, h12, h13, h14, h15, cond_true, cond_false]; kernel_rfl), fun h15 => (by simp only [F41r0, h0, h1, h2, h3, h4, h5, h6, h7, h8, h9, h10, h11, h12, h13, h14, h15, cond_false]; kernel_rfl)⟩⟩⟩⟩⟩⟩⟩⟩⟩⟩⟩⟩⟩⟩⟩⟩
  · cases h

def sp44 : CallT := table []
theorem sp44_ok : SpecOk Go.Vm.G sp44 := SpecOk.nil
/-! "fulling/fullingref1.Unary" -/
def F44r0 (x0 : Int) (x1 : Int) : Int := (bif x0 == 20 then IntKind.wrap IntKind.i64 (0 - x1) else (bif x0 == 21 then IntKind.wrap IntKind.i64 ↑(BitVec.toNat (BitVec.ofInt 64 (-1) ^^^ BitVec.ofInt 64 x1)) else 0))
def S44 : Spec
  | [.lit (.int .i64 x0), .lit (.int .i64 x1)], s => some (.lit (.int .i64 (F44r0 x0 x1)), s)
  | _, _ => none
theorem tree44 (x0 : Int) (x1 : Int) (Q : AV → St → Prop) : funP Go.Vm.G sp44 44 [.lit (.int .i64 x0), .lit (.int .i64 x1)] St.nil (Hint.ite Hint.done (Hint.ite Hint.done Hint.done)) Q = (((x0 == 20) = true → Q (AV.lit (Value.int IntKind.i64 (IntKind.wrap IntKind.i64 (0 - x1)))) St.nil) ∧ ((x0 == 20) = false → ((x0 == 21) = true → Q (AV.lit (Value.int IntKind.i64 (IntKind.wrap IntKind.i64 ↑(BitVec.toNat (BitVec.ofInt 64 (-1) ^^^ BitVec.ofInt 64 x1))))) St.nil) ∧ ((x0 == 21) = false → Q (AV.lit (Value.int IntKind.i64 0)) St.nil))) := by kernel_rfl
theorem ok44 : Ok Go.Vm.G 44 S44 := by
  intro args s v s' h
  unfold S44 at h
  split at h
  · skip
    rename_i x0 x1
    injection h with h; injection h with h1 h2; subst h1; subst h2
    refine runs_of_alone sp44_ok rfl (args' := [.lit (.int .i64 x0), .lit (.int .i64 x1)]) (by kernel_rfl) (h := Hint.ite Hint.done (Hint.ite Hint.done Hint.done)) ?_
    rw [tree44]
    exact ⟨fun h0 => (by simp only [F44r0, h0, cond_true]; kernel_rfl), fun h0 => ⟨fun h1 => (by simp only [F44r0, h0, h1, cond_true, cond_false]; kernel_rfl), fun h1 => (by simp only [F44r0, h0, h1, cond_false]; kernel_rfl)⟩⟩
  · cases h

def sp72 : CallT := table [(109, S109), (110, S110)]
theorem sp72_ok : SpecOk Go.Vm.G sp72 := SpecOk.cons ok109 (SpecOk.cons ok110 (SpecOk.nil))
/-! "fulling/word.Binary" -/
def F72r0 (x0 : Int) (x1 : Int) (x2 : Int) : Int := (bif x0 == 4 then IntKind.wrap IntKind.i64 (x1 + x2) else (bif x0 == 5 then IntKind.wrap IntKind.i64 (x1 - x2) else (bif x0 == 6 then IntKind.wrap IntKind.i64 (x1 * x2) else (bif x0 == 7 then F109r0 x1 x2 else (bif x0 == 8 then (bif x2 == 0 then 0 else IntKind.wrap IntKind.i64 (x1 - IntKind.wrap IntKind.i64 (F109r0 x1 x2 * x2))) else (bif x0 == 9 then IntKind.wrap IntKind.i64 ↑(BitVec.toNat (BitVec.ofInt 64 x1 &&& BitVec.ofInt 64 x2)) else (bif x0 == 10 then IntKind.wrap IntKind.i64 ↑(BitVec.toNat (BitVec.ofInt 64 x1 ||| BitVec.ofInt 64 x2)) else (bif x0 == 11 then IntKind.wrap IntKind.i64 ↑(BitVec.toNat (BitVec.ofInt 64 x1 ^^^ BitVec.ofInt 64 x2)) else F110r0 x0 x1 x2))))))))
def S72 : Spec
  | [.lit (.int .i64 x0), .lit (.int .i64 x1), .lit (.int .i64 x2)], s => some (.lit (.int .i64 (F72r0 x0 x1 x2)), s)
  | _, _ => none
theorem tree72 (x0 : Int) (x1 : Int) (x2 : Int) (Q : AV → St → Prop) : funP Go.Vm.G sp72 72 [.lit (.int .i64 x0), .lit (.int .i64 x1), .lit (.int .i64 x2)] St.nil (Hint.ite Hint.done (Hint.ite Hint.done (Hint.ite Hint.done (Hint.ite Hint.done (Hint.ite (Hint.ite Hint.done Hint.done) (Hint.ite Hint.done (Hint.ite Hint.done (Hint.ite Hint.done Hint.done)))))))) Q = (((x0 == 4) = true → Q (AV.lit (Value.int IntKind.i64 (IntKind.wrap IntKind.i64 (x1 + x2)))) St.nil) ∧ ((x0 == 4) = false → ((x0 == 5) = true → Q (AV.lit (Value.int IntKind.i64 (IntKind.wrap IntKind.i64 (x1 - x2)))) St.nil) ∧ ((x0 == 5) = false → ((x0 == 6) = true → Q (AV.lit (Value.int IntKind.i64 (IntKind.wrap IntKind.i64 (x1 * x2)))) St.nil) ∧ ((x0 == 6) = false → ((x0 == 7) = true → Q (AV.lit (Value.int IntKind.i64 (F109r0 x1 x2))) St.nil) ∧ ((x0 == 7) = false → ((x0 == 8) = true → ((x2 == 0) = true → Q (AV.lit (Value.int IntKind.i64 0)) St.nil) ∧ ((x2 == 0) = false → Q (AV.lit (Value.int IntKind.i64 (IntKind.wrap IntKind.i64 (x1 - IntKind.wrap IntKind.i64 (F109r0 x1 x2 * x2))))) St.nil)) ∧ ((x0 == 8) = false → ((x0 == 9) = true → Q (AV.lit (Value.int IntKind.i64 (IntKind.wrap IntKind.i64 ↑(BitVec.toNat (BitVec.ofInt 64 x1 &&& BitVec.ofInt 64 x2))))) St.nil) ∧ ((x0 == 9) = false → ((x0 == 10) = true → Q (AV.lit (Value.int IntKind.i64 (IntKind.wrap IntKind.i64 ↑(BitVec.toNat (BitVec.ofInt 64 x1 ||| BitVec.ofInt 64 x2))))) St.nil) ∧ ((x0 == 10) = false → ((x0 == 11) = true → Q (AV.lit (Value.int IntKind.i64 (IntKind.wrap IntKind.i64 ↑(BitVec.toNat (BitVec.ofInt 64 x1 ^^^ BitVec.ofInt 64 x2))))) St.nil) ∧ ((x0 == 11) = false → Q (AV.lit (Value.int IntKind.i64 (F110r0 x0 x1 x2))) St.nil))))))))) := by kernel_rfl
theorem ok72 : Ok Go.Vm.G 72 S72 := by
  intro args s v s' h
  unfold S72 at h
  split at h
  · skip
    rename_i x0 x1 x2
    injection h with h; injection h with h1 h2; subst h1; subst h2
    refine runs_of_alone sp72_ok rfl (args' := [.lit (.int .i64 x0), .lit (.int .i64 x1), .lit (.int .i64 x2)]) (by kernel_rfl) (h := Hint.ite Hint.done (Hint.ite Hint.done (Hint.ite Hint.done (Hint.ite Hint.done (Hint.ite (Hint.ite Hint.done Hint.done) (Hint.ite Hint.done (Hint.ite Hint.done (Hint.ite Hint.done Hint.done)))))))) ?_
    rw [tree72]
    exact ⟨fun h0 => (by simp only [F72r0, h0, cond_true]; kernel_rfl), fun h0 => ⟨fun h1 => (by simp only [F72r0, h0, h1, cond_true, cond_false]; kernel_rfl), fun h1 => ⟨fun h2 => (by simp only [F72r0, h0, h1, h2, cond_true, cond_false]; kernel_rfl), fun h2 => ⟨fun h3 => (by simp only [F72r0, h0, h1, h2, h3, cond_true, cond_false]; kernel_rfl), fun h3 => ⟨fun h4 => ⟨fun h5 => (by simp only [F72r0, h0, h1, h2, h3, h4, h5, cond_true, cond_false]; kernel_rfl), fun h5 => (by simp only [F72r0, h0, h1, h2, h3, h4, h5, cond_true, cond_false]; kernel_rfl)⟩, fun h4 => ⟨fun h5 => (by simp only [F72r0, h0, h1, h2, h3, h4, h5, cond_true, cond_false]; kernel_rfl), fun h5 => ⟨fun h6 => (by simp only [F72r0, h0, h1, h2, h3, h4, h5, h6, cond_true, cond_false]; kernel_rfl), fun h6 => ⟨fun h7 => (by simp only [F72r0, h0, h1, h2, h3, h4, h5, h6, h7, cond_true, cond_false]; kernel_rfl), fun h7 => (by simp only [F72r0, h0, h1, h2, h3, h4, h5, h6, h7, cond_false]; kernel_rfl)⟩⟩⟩⟩⟩⟩⟩⟩
  · cases h

def sp74 : CallT := table []
theorem sp74_ok : SpecOk Go.Vm.G sp74 := SpecOk.nil
/-! "fulling/interval.sum" -/
def F74r0 (x0 : Int) (x1 : Int) : Int := IntKind.wrap IntKind.i64 (x0 + x1)
def F74r1 (x0 : Int) (x1 : Int) : Bool := decide (IntKind.wrap IntKind.i64 (x0 + x1) < x0) == decide (x1 < 0)
def S74 : Spec
  | [.lit (.int .i64 x0), .lit (.int .i64 x1)], s => some (.tup [.lit (.int .i64 (F74r0 x0 x1)), .lit (.bool (F74r1 x0 x1))], s)
  | _, _ => none
theorem tree74 (x0 : Int) (x1 : Int) (Q : AV → St → Prop) : funP Go.Vm.G sp74 74 [.lit (.int .i64 x0), .lit (.int .i64 x1)] St.nil (Hint.done) Q = (Q (AV.tup [AV.lit (Value.int IntKind.i64 (IntKind.wrap IntKind.i64 (x0 + x1))), AV.lit (Value.bool (decide (IntKind.wrap IntKind.i64 (x0 + x1) < x0) == decide (x1 < 0)))]) St.nil) := by kernel_rfl
theorem ok74 : Ok Go.Vm.G 74 S74 := by
  intro args s v s' h
  unfold S74 at h
  split at h
  · skip
    rename_i x0 x1
    injection h with h; injection h with h1 h2; subst h1; subst h2
    refine runs_of_alone sp74_ok rfl (args' := [.lit (.int .i64 x0), .lit (.int .i64 x1)]) (by kernel_rfl) (h := Hint.done) ?_
    rw [tree74]
    exact (by kernel_rfl)
  · cases h

def sp75 : CallT := table []
theorem sp75_ok : SpecOk Go.Vm.G sp75 := SpecOk.nil
/-! "fulling/interval.difference" -/
def F75r0 (x0 : Int) (x1 : Int) : Int := IntKind.wrap IntKind.i64 (x0 - x1)
def F75r1 (x0 : Int) (x1 : Int) : Bool := decide (IntKind.wrap IntKind.i64 (x0 - x1) > x0) == decide (x1 < 0)
def S75 : Spec
  | [.lit (.int .i64 x0), .lit (.int .i64 x1)], s => some (.tup [.lit (.int .i64 (F75r0 x0 x1)), .lit (.bool (F75r1 x0 x1))], s)
  | _, _ => none
theorem tree75 (x0 : Int) (x1 : Int) (Q : AV → St → Prop) : funP Go.Vm.G sp75 75 [.lit (.int .i64 x0), .lit (.int .i64 x1)] St.nil (Hint.done) Q = (Q (AV.tup [AV.lit (Value.int IntKind.i64 (IntKind.wrap IntKind.i64 (x0 - x1))), AV.lit (Value.bool (decide (IntKind.wrap IntKind.i64 (x0 - x1) > x0) == decide (x1 < 0)))]) St.nil) := by kernel_rfl
theorem ok75 : Ok Go.Vm.G 75 S75 := by
  intro args s v s' h
  unfold S75 at h
  split at h
  · skip
    rename_i x0 x1
    injection h with h; injection h with h1 h2; subst h1; subst h2
    refine runs_of_alone sp75_ok rfl (args' := [.lit (.int .i64 x0), .lit (.int .i64 x1)]) (by kernel_rfl) (h := Hint.done) ?_
    rw [tree75]
    exact (by kernel_rfl)
  · cases h

def sp111 : CallT := table []
theorem sp111_ok : SpecOk Go.Vm.G sp111 := SpecOk.nil
/-! "math/bits.Mul64" -/
def F111r0 (x0 : Int) (x1 : Int) : Int := IntKind.wrap IntKind.u64 (IntKind.wrap IntKind.u64 (IntKind.wrap IntKind.u64 (Int.fdiv x0 4294967296 * Int.fdiv x1 4294967296) + Int.fdiv (IntKind.wrap IntKind.u64 (IntKind.wrap IntKind.u64 (Int.fdiv x0 4294967296 * IntKind.wrap IntKind.u64 ↑(BitVec.toNat (BitVec.ofInt 64 x1 &&& BitVec.ofInt 64 4294967295))) + Int.fdiv (IntKind.wrap IntKind.u64 (IntKind.wrap IntKind.u64 ↑(BitVec.toNat (BitVec.ofInt 64 x0 &&& BitVec.ofInt 64 4294967295)) * IntKind.wrap IntKind.u64 ↑(BitVec.toNat (BitVec.ofInt 64 x1 &&& BitVec.ofInt 64 4294967295)))) 4294967296)) 4294967296) + Int.fdiv (IntKind.wrap IntKind.u64 (IntKind.wrap IntKind.u64 ↑(BitVec.toNat (BitVec.ofInt 64 (IntKind.wrap IntKind.u64 (IntKind.wrap IntKind.u64 (Int.fdiv x0 4294967296 * IntKind.wrap IntKind.u64 ↑(BitVec.toNat (BitVec.ofInt 64 x1 &&& BitVec.ofInt 64 4294967295))) + Int.fdiv (IntKind.wrap IntKind.u64 (IntKind.wrap IntKind.u64 ↑(BitVec.toNat (BitVec.ofInt 64 x0 &&& BitVec.ofInt 64 4294967295)) * IntKind.wrap IntKind.u64 ↑(BitVec.toNat (BitVec.ofInt 64 x1 &&& BitVec.ofInt 64 4294967295)))) 4294967296)) &&& BitVec.ofInt 64 4294967295)) + IntKind.wrap IntKind.u64 (IntKind.wrap IntKind.u64 ↑(BitVec.toNat (BitVec.ofInt 64 x0 &&& BitVec.ofInt 64 4294967295)) * Int.fdiv x1 4294967296))) 4294967296)
def F111r1 (x0 : Int) (x1 : Int) : Int := IntKind.wrap IntKind.u64 (x0 * x1)
def S111 : Spec
  | [.lit (.int .u64 x0), .lit (.int .u64 x1)], s => some (.tup [.lit (.int .u64 (F111r0 x0 x1)), .lit (.int .u64 (F111r1 x0 x1))], s)
  | _, _ => none
theorem tree111 (x0 : Int) (x1 : Int) (Q : AV → St → Prop) : funP Go.Vm.G sp111 111 [.lit (.int .u64 x0), .lit (.int .u64 x1)] St.nil (Hint.done) Q = (Q (AV.tup [AV.lit (Value.int IntKind.u64 (IntKind.wrap IntKind.u64 (IntKind.wrap IntKind.u64 (IntKind.wrap IntKind.u64 (Int.fdiv x0 4294967296 * Int.fdiv x1 4294967296) + Int.fdiv (IntKind.wrap IntKind.u64 (IntKind.wrap IntKind.u64 (Int.fdiv x0 4294967296 * IntKind.wrap IntKind.u64 ↑(BitVec.toNat (BitVec.ofInt 64 x1 &&& BitVec.ofInt 64 4294967295))) + Int.fdiv (IntKind.wrap IntKind.u64 (IntKind.wrap IntKind.u64 ↑(BitVec.toNat (BitVec.ofInt 64 x0 &&& BitVec.ofInt 64 4294967295)) * IntKind.wrap IntKind.u64 ↑(BitVec.toNat (BitVec.ofInt 64 x1 &&& BitVec.ofInt 64 4294967295)))) 4294967296)) 4294967296) + Int.fdiv (IntKind.wrap IntKind.u64 (IntKind.wrap IntKind.u64 ↑(BitVec.toNat (BitVec.ofInt 64 (IntKind.wrap IntKind.u64 (IntKind.wrap IntKind.u64 (Int.fdiv x0 4294967296 * IntKind.wrap IntKind.u64 ↑(BitVec.toNat (BitVec.ofInt 64 x1 &&& BitVec.ofInt 64 4294967295))) + Int.fdiv (IntKind.wrap IntKind.u64 (IntKind.wrap IntKind.u64 ↑(BitVec.toNat (BitVec.ofInt 64 x0 &&& BitVec.ofInt 64 4294967295)) * IntKind.wrap IntKind.u64 ↑(BitVec.toNat (BitVec.ofInt 64 x1 &&& BitVec.ofInt 64 4294967295)))) 4294967296)) &&& BitVec.ofInt 64 4294967295)) + IntKind.wrap IntKind.u64 (IntKind.wrap IntKind.u64 ↑(BitVec.toNat (BitVec.ofInt 64 x0 &&& BitVec.ofInt 64 4294967295)) * Int.fdiv x1 4294967296))) 4294967296))), AV.lit (Value.int IntKind.u64 (IntKind.wrap IntKind.u64 (x0 * x1)))]) St.nil) := by kernel_rfl
theorem ok111 : Ok Go.Vm.G 111 S111 := by
  intro args s v s' h
  unfold S111 at h
  split at h
  · skip
    rename_i x0 x1
    injection h with h; injection h with h1 h2; subst h1; subst h2
    refine runs_of_alone sp111_ok rfl (args' := [.lit (.int .u64 x0), .lit (.int .u64 x1)]) (by kernel_rfl) (h := Hint.done) ?_
    rw [tree111]
    exact (by kernel_rfl)
  · cases h

def sp77 : CallT := table [(111, S111)]
theorem sp77_ok : SpecOk Go.Vm.G sp77 := SpecOk.cons ok111 (SpecOk.nil)
/-! "fulling/interval.product" -/
def F77r0 (x0 : Int) (x1 : Int) : Int := IntKind.wrap IntKind.i64 (F111r1 (IntKind.wrap IntKind.u64 x0) (IntKind.wrap IntKind.u64 x1))
def F77r1 (x0 : Int) (x1 : Int) : Bool := (bif decide (x0 < 0) then (bif decide (x1 < 0) then IntKind.wrap IntKind.i64 (IntKind.wrap IntKind.i64 (IntKind.wrap IntKind.i64 (F111r0 (IntKind.wrap IntKind.u64 x0) (IntKind.wrap IntKind.u64 x1)) - x1) - x0) == Int.fdiv (IntKind.wrap IntKind.i64 (F111r1 (IntKind.wrap IntKind.u64 x0) (IntKind.wrap IntKind.u64 x1))) 9223372036854775808 else IntKind.wrap IntKind.i64 (IntKind.wrap IntKind.i64 (F111r0 (IntKind.wrap IntKind.u64 x0) (IntKind.wrap IntKind.u64 x1)) - x1) == Int.fdiv (IntKind.wrap IntKind.i64 (F111r1 (IntKind.wrap IntKind.u64 x0) (IntKind.wrap IntKind.u64 x1))) 9223372036854775808) else (bif decide (x1 < 0) then IntKind.wrap IntKind.i64 (IntKind.wrap IntKind.i64 (F111r0 (IntKind.wrap IntKind.u64 x0) (IntKind.wrap IntKind.u64 x1)) - x0) == Int.fdiv (IntKind.wrap IntKind.i64 (F111r1 (IntKind.wrap IntKind.u64 x0) (IntKind.wrap IntKind.u64 x1))) 9223372036854775808 else IntKind.wrap IntKind.i64 (F111r0 (IntKind.wrap IntKind.u64 x0) (IntKind.wrap IntKind.u64 x1)) == Int.fdiv (IntKind.wrap IntKind.i64 (F111r1 (IntKind.wrap IntKind.u64 x0) (IntKind.wrap IntKind.u64 x1))) 9223372036854775808))
def S77 : Spec
  | [.lit (.int .i64 x0), .lit (.int .i64 x1)], s => some (.tup [.lit (.int .i64 (F77r0 x0 x1)), .lit (.bool (F77r1 x0 x1))], s)
  | _, _ => none
theorem tree77 (x0 : Int) (x1 : Int) (Q : AV → St → Prop) : funP Go.Vm.G sp77 77 [.lit (.int .i64 x0), .lit (.int .i64 x1)] St.nil (Hint.ite (Hint.ite Hint.done Hint.done) (Hint.ite Hint.done Hint.done)) Q = ((decide (x0 < 0) = true → (decide (x1 < 0) = true → Q (AV.tup [AV.lit (Value.int IntKind.i64 (IntKind.wrap IntKind.i64 (F111r1 (IntKind.wrap IntKind.u64 x0) (IntKind.wrap IntKind.u64 x1)))), AV.lit (Value.bool (IntKind.wrap IntKind.i64 (IntKind.wrap IntKind.i64 (IntKind.wrap IntKind.i64 (F111r0 (IntKind.wrap IntKind.u64 x0) (IntKind.wrap IntKind.u64 x1)) - x1) - x0) == Int.fdiv (IntKind.wrap IntKind.i64 (F111r1 (IntKind.wrap IntKind.u64 x0) (IntKind.wrap IntKind.u64 x1))) 9223372036854775808))]) St.nil) ∧ (decide (x1 < 0) = false → Q (AV.tup [AV.lit (Value.int IntKind.i64 (IntKind.wrap IntKind.i64 (F111r1 (IntKind.wrap IntKind.u64 x0) (IntKind.wrap IntKind.u64 x1)))), AV.lit (Value.bool (IntKind.wrap IntKind.i64 (IntKind.wrap IntKind.i64 (F111r0 (IntKind.wrap IntKind.u64 x0) (IntKind.wrap IntKind.u64 x1)) - x1) == Int.fdiv (IntKind.wrap IntKind.i64 (F111r1 (IntKind.wrap IntKind.u64 x0) (IntKind.wrap IntKind.u64 x1))) 9223372036854775808))]) St.nil)) ∧ (decide (x0 < 0) = false → (decide (x1 < 0) = true → Q (AV.tup [AV.lit (Value.int IntKind.i64 (IntKind.wrap IntKind.i64 (F111r1 (IntKind.wrap IntKind.u64 x0) (IntKind.wrap IntKind.u64 x1)))), AV.lit (Value.bool (IntKind.wrap IntKind.i64 (IntKind.wrap IntKind.i64 (F111r0 (IntKind.wrap IntKind.u64 x0) (IntKind.wrap IntKind.u64 x1)) - x0) == Int.fdiv (IntKind.wrap IntKind.i64 (F111r1 (IntKind.wrap IntKind.u64 x0) (IntKind.wrap IntKind.u64 x1))) 9223372036854775808))]) St.nil) ∧ (decide (x1 < 0) = false → Q (AV.tup [AV.lit (Value.int IntKind.i64 (IntKind.wrap IntKind.i64 (F111r1 (IntKind.wrap IntKind.u64 x0) (IntKind.wrap IntKind.u64 x1)))), AV.lit (Value.bool (IntKind.wrap IntKind.i64 (F111r0 (IntKind.wrap IntKind.u64 x0) (IntKind.wrap IntKind.u64 x1)) == Int.fdiv (IntKind.wrap IntKind.i64 (F111r1 (IntKind.wrap IntKind.u64 x0) (IntKind.wrap IntKind.u64 x1))) 9223372036854775808))]) St.nil))) := by kernel_rfl
theorem ok77 : Ok Go.Vm.G 77 S77 := by
  intro args s v s' h
  unfold S77 at h
  split at h
  · skip
    rename_i x0 x1
    injection h with h; injection h with h1 h2; subst h1; subst h2
    refine runs_of_alone sp77_ok rfl (args' := [.lit (.int .i64 x0), .lit (.int .i64 x1)]) (by kernel_rfl) (h := Hint.ite (Hint.ite Hint.done Hint.done) (Hint.ite Hint.done Hint.done)) ?_
    rw [tree77]
    exact ⟨fun h0 => ⟨fun h1 => (by simp only [F77r1, h0, h1, cond_true]; kernel_rfl), fun h1 => (by simp only [F77r1, h0, h1, cond_true, cond_false]; kernel_rfl)⟩, fun h0 => ⟨fun h1 => (by simp only [F77r1, h0, h1, cond_true, cond_false]; kernel_rfl), fun h1 => (by simp only [F77r1, h0, h1, cond_false]; kernel_rfl)⟩⟩
  · cases h

def sp78 : CallT := table []
theorem sp78_ok : SpecOk Go.Vm.G sp78 := SpecOk.nil
/-! "fulling/interval.Binary$1" -/
def F78r0 (x0 : Int) (x1 : Int) : Int := IntKind.wrap IntKind.i64 (Int.tdiv x0 x1)
def F78r1 (_x0 : Int) (_x1 : Int) : Bool := true
def S78 : Spec
  | [.lit (.int .i64 x0), .lit (.int .i64 x1)], s => gate (!(x1 == 0)) (some (.tup [.lit (.int .i64 (F78r0 x0 x1)), .lit (.bool (F78r1 x0 x1))], s))
  | _, _ => none
theorem tree78 (x0 : Int) (x1 : Int) (Q : AV → St → Prop) : funP Go.Vm.G sp78 78 [.lit (.int .i64 x0), .lit (.int .i64 x1)] St.nil (Hint.got 1 2 (AV.lit (Value.int IntKind.i64 (IntKind.wrap IntKind.i64 (Int.tdiv x0 x1)))) none Hint.done) Q = (bin G BinOp.quo 2 (AV.lit (Value.int IntKind.i64 x0)) (AV.lit (Value.int IntKind.i64 x1)) = some (AV.lit (Value.int IntKind.i64 (IntKind.wrap IntKind.i64 (Int.tdiv x0 x1)))) ∧ Q (AV.tup [AV.lit (Value.int IntKind.i64 (IntKind.wrap IntKind.i64 (Int.tdiv x0 x1))), AV.lit (Value.bool true)]) St.nil) := by kernel_rfl
theorem ok78 : Ok Go.Vm.G 78 S78 := by
  intro args s v s' h
  unfold S78 at h
  split at h
  · skip
    rename_i x0 x1
    obtain ⟨hpre, h⟩ := gate_some h
    injection h with h; injection h with h1 h2; subst h1; subst h2
    refine runs_of_alone sp78_ok rfl (args' := [.lit (.int .i64 x0), .lit (.int .i64 x1)]) (by kernel_rfl) (h := Hint.got 1 2 (AV.lit (Value.int IntKind.i64 (IntKind.wrap IntKind.i64 (Int.tdiv x0 x1)))) none Hint.done) ?_
    rw [tree78]
    exact ⟨(bin_quo (by simpa using hpre)), (by kernel_rfl)⟩
  · cases h

def sp73a : CallT := table [(40, S40), (74, S74)]
theorem sp73a_ok : SpecOk Go.Vm.G sp73a := SpecOk.cons ok40 (SpecOk.cons ok74 (SpecOk.nil))
/-! "fulling/interval.bounds" -/
def F73ar0 (x0 : Int) (x1 : Int) (x2 : Int) (x3 : Int) : Int := (bif !F74r1 x0 x1 then -9223372036854775808 else (bif !F74r1 x2 x3 then -9223372036854775808 else F74r0 x0 x1))
def F73ar1 (x0 : Int) (x1 : Int) (x2 : Int) (x3 : Int) : Int := (bif !F74r1 x0 x1 then 9223372036854775807 else (bif !F74r1 x2 x3 then 9223372036854775807 else F74r0 x2 x3))
def S73a : Spec
  | [.lit (.int .i64 x0), .lit (.int .i64 x1), .lit (.int .i64 x2), .lit (.int .i64 x3), .fn 74 []], s => some (.agg [.lit (.int .i64 (F73ar0 x0 x1 x2 x3)), .lit (.int .i64 (F73ar1 x0 x1 x2 x3))], s)
  | _, _ => none
theorem tree73a (x0 : Int) (x1 : Int) (x2 : Int) (x3 : Int) (Q : AV → St → Prop) : funP Go.Vm.G sp73a 73 [.lit (.int .i64 x0), .lit (.int .i64 x1), .lit (.int .i64 x2), .lit (.int .i64 x3), .fn 74 []] St.nil (Hint.ite (Hint.go (Hint.go (Hint.go Hint.done))) (Hint.go (Hint.go (Hint.ite Hint.done Hint.done)))) Q = (((!F74r1 x0 x1) = true → Q (AV.agg [AV.lit (Value.int IntKind.i64 (-9223372036854775808)), AV.lit (Value.int IntKind.i64 9223372036854775807)]) (St.mk 0 0 Tr.nil)) ∧ ((!F74r1 x0 x1) = false → ((!F74r1 x2 x3) = true → Q (AV.agg [AV.lit (Value.int IntKind.i64 (-9223372036854775808)), AV.lit (Value.int IntKind.i64 9223372036854775807)]) (St.mk 0 0 Tr.nil)) ∧ ((!F74r1 x2 x3) = false → Q (AV.agg [AV.lit (Value.int IntKind.i64 (F74r0 x0 x1)), AV.lit (Value.int IntKind.i64 (F74r0 x2 x3))]) (St.mk 0 0 Tr.nil)))) := by kernel_rfl
theorem ok73a : Ok Go.Vm.G 73 S73a := by
  intro args s v s' h
  unfold S73a at h
  split at h
  · skip
    rename_i x0 x1 x2 x3
    injection h with h; injection h with h1 h2; subst h1; subst h2
    refine runs_of_alone sp73a_ok rfl (args' := [.lit (.int .i64 x0), .lit (.int .i64 x1), .lit (.int .i64 x2), .lit (.int .i64 x3), .fn 74 []]) (by kernel_rfl) (h := Hint.ite (Hint.go (Hint.go (Hint.go Hint.done))) (Hint.go (Hint.go (Hint.ite Hint.done Hint.done)))) ?_
    rw [tree73a]
    exact ⟨fun h0 => (by simp only [F73ar0, F73ar1, h0, cond_true]; kernel_rfl), fun h0 => ⟨fun h1 => (by simp only [F73ar0, F73ar1, h0, h1, cond_true, cond_false]; kernel_rfl), fun h1 => (by simp only [F73ar0, F73ar1, h0, h1, cond_false]; kernel_rfl)⟩⟩
  · cases h

def sp73b : CallT := table [(40, S40), (75, S75)]
theorem sp73b_ok : SpecOk Go.Vm.G sp73b := SpecOk.cons ok40 (SpecOk.cons ok75 (SpecOk.nil))
/-! "fulling/interval.bounds" -/
def F73br0 (x0 : Int) (x1 : Int) (x2 : Int) (x3 : Int) : Int := (bif !F75r1 x0 x1 then -9223372036854775808 else (bif !F75r1 x2 x3 then -9223372036854775808 else F75r0 x0 x1))
def F73br1 (x0 : Int) (x1 : Int) (x2 : Int) (x3 : Int) : Int := (bif !F75r1 x0 x1 then 9223372036854775807 else (bif !F75r1 x2 x3 then 9223372036854775807 else F75r0 x2 x3))
def S73b : Spec
  | [.lit (.int .i64 x0), .lit (.int .i64 x1), .lit (.int .i64 x2), .lit (.int .i64 x3), .fn 75 []], s => some (.agg [.lit (.int .i64 (F73br0 x0 x1 x2 x3)), .lit (.int .i64 (F73br1 x0 x1 x2 x3))], s)
  | _, _ => none
theorem tree73b (x0 : Int) (x1 : Int) (x2 : Int) (x3 : Int) (Q : AV → St → Prop) : funP Go.Vm.G sp73b 73 [.lit (.int .i64 x0), .lit (.int .i64 x1), .lit (.int .i64 x2), .lit (.int .i64 x3), .fn 75 []] St.nil (Hint.ite (Hint.go (Hint.go (Hint.go Hint.done))) (Hint.go (Hint.go (Hint.ite Hint.done Hint.done)))) Q = (((!F75r1 x0 x1) = true → Q (AV.agg [AV.lit (Value.int IntKind.i64 (-9223372036854775808)), AV.lit (Value.int IntKind.i64 9223372036854775807)]) (St.mk 0 0 Tr.nil)) ∧ ((!F75r1 x0 x1) = false → ((!F75r1 x2 x3) = true → Q (AV.agg [AV.lit (Value.int IntKind.i64 (-9223372036854775808)), AV.lit (Value.int IntKind.i64 9223372036854775807)]) (St.mk 0 0 Tr.nil)) ∧ ((!F75r1 x2 x3) = false → Q (AV.agg [AV.lit (Value.int IntKind.i64 (F75r0 x0 x1)), AV.lit (Value.int IntKind.i64 (F75r0 x2 x3))]) (St.mk 0 0 Tr.nil)))) := by kernel_rfl
theorem ok73b : Ok Go.Vm.G 73 S73b := by
  intro args s v s' h
  unfold S73b at h
  split at h
  · skip
    rename_i x0 x1 x2 x3
    injection h with h; injection h with h1 h2; subst h1; subst h2
    refine runs_of_alone sp73b_ok rfl (args' := [.lit (.int .i64 x0), .lit (.int .i64 x1), .lit (.int .i64 x2), .lit (.int .i64 x3), .fn 75 []]) (by kernel_rfl) (h := Hint.ite (Hint.go (Hint.go (Hint.go Hint.done))) (Hint.go (Hint.go (Hint.ite Hint.done Hint.done)))) ?_
    rw [tree73b]
    exact ⟨fun h0 => (by simp only [F73br0, F73br1, h0, cond_true]; kernel_rfl), fun h0 => ⟨fun h1 => (by simp only [F73br0, F73br1, h0, h1, cond_true, cond_false]; kernel_rfl), fun h1 => (by simp only [F73br0, F73br1, h0, h1, cond_false]; kernel_rfl)⟩⟩
  · cases h

def S73 : Spec := fun args s => (S73a args s).orElse fun _ => S73b args s
theorem ok73 : Ok Go.Vm.G 73 S73 := ok73a.orElse ok73b

def sp76a : CallT := table [(40, S40), (71, S71), (37, S37), (77, S77)]
theorem sp76a_ok : SpecOk Go.Vm.G sp76a := SpecOk.cons ok40 (SpecOk.cons ok71 (SpecOk.cons ok37 (SpecOk.cons ok77 (SpecOk.nil))))
/-! "fulling/interval.corners" -/
def F76ar0 (x0 : Int) (x1 : Int) (x2 : Int) (x3 : Int) : Int := (bif !F77r1 x0 x2 then -9223372036854775808 else (bif !F77r1 x0 x3 then -9223372036854775808 else (bif !F77r1 x1 x2 then -9223372036854775808 else (bif !F77r1 x1 x3 then -9223372036854775808 else F37r0 (F37r0 (F37r0 (F71r0 (F77r0 x0 x2)) (F71r1 (F77r0 x0 x2)) (F71r0 (F77r0 x0 x3)) (F71r1 (F77r0 x0 x3))) (F37r1 (F71r0 (F77r0 x0 x2)) (F71r1 (F77r0 x0 x2)) (F71r0 (F77r0 x0 x3)) (F71r1 (F77r0 x0 x3))) (F71r0 (F77r0 x1 x2)) (F71r1 (F77r0 x1 x2))) (F37r1 (F37r0 (F71r0 (F77r0 x0 x2)) (F71r1 (F77r0 x0 x2)) (F71r0 (F77r0 x0 x3)) (F71r1 (F77r0 x0 x3))) (F37r1 (F71r0 (F77r0 x0 x2)) (F71r1 (F77r0 x0 x2)) (F71r0 (F77r0 x0 x3)) (F71r1 (F77r0 x0 x3))) (F71r0 (F77r0 x1 x2)) (F71r1 (F77r0 x1 x2))) (F71r0 (F77r0 x1 x3)) (F71r1 (F77r0 x1 x3))))))
def F76ar1 (x0 : Int) (x1 : Int) (x2 : Int) (x3 : Int) : Int := (bif !F77r1 x0 x2 then 9223372036854775807 else (bif !F77r1 x0 x3 then 9223372036854775807 else (bif !F77r1 x1 x2 then 9223372036854775807 else (bif !F77r1 x1 x3 then 9223372036854775807 else F37r1 (F37r0 (F37r0 (F71r0 (F77r0 x0 x2)) (F71r1 (F77r0 x0 x2)) (F71r0 (F77r0 x0 x3)) (F71r1 (F77r0 x0 x3))) (F37r1 (F71r0 (F77r0 x0 x2)) (F71r1 (F77r0 x0 x2)) (F71r0 (F77r0 x0 x3)) (F71r1 (F77r0 x0 x3))) (F71r0 (F77r0 x1 x2)) (F71r1 (F77r0 x1 x2))) (F37r1 (F37r0 (F71r0 (F77r0 x0 x2)) (F71r1 (F77r0 x0 x2)) (F71r0 (F77r0 x0 x3)) (F71r1 (F77r0 x0 x3))) (F37r1 (F71r0 (F77r0 x0 x2)) (F71r1 (F77r0 x0 x2)) (F71r0 (F77r0 x0 x3)) (F71r1 (F77r0 x0 x3))) (F71r0 (F77r0 x1 x2)) (F71r1 (F77r0 x1 x2))) (F71r0 (F77r0 x1 x3)) (F71r1 (F77r0 x1 x3))))))
def S76a : Spec
  | [.agg [.lit (.int .i64 x0), .lit (.int .i64 x1)], .agg [.lit (.int .i64 x2), .lit (.int .i64 x3)], .fn 77 []], s => some (.agg [.lit (.int .i64 (F76ar0 x0 x1 x2 x3)), .lit (.int .i64 (F76ar1 x0 x1 x2 x3))], s)
  | _, _ => none
theorem tree76a (x0 : Int) (x1 : Int) (x2 : Int) (x3 : Int) (Q : AV → St → Prop) : funP Go.Vm.G sp76a 76 [.agg [.lit (.int .i64 x0), .lit (.int .i64 x1)], .agg [.lit (.int .i64 x2), .lit (.int .i64 x3)], .fn 77 []] St.nil (Hint.go (Hint.go (Hint.go (Hint.go (Hint.ite Hint.done (Hint.go (Hint.go (Hint.ite Hint.done (Hint.go (Hint.go (Hint.go (Hint.go (Hint.go (Hint.ite Hint.done (Hint.go (Hint.go (Hint.ite Hint.done (Hint.go (Hint.go (Hint.go Hint.done)))))))))))))))))))) Q = (((!F77r1 x0 x2) = true → Q (AV.agg [AV.lit (Value.int IntKind.i64 (-9223372036854775808)), AV.lit (Value.int IntKind.i64 9223372036854775807)]) (St.mk 0 0 Tr.nil)) ∧ ((!F77r1 x0 x2) = false → ((!F77r1 x0 x3) = true → Q (AV.agg [AV.lit (Value.int IntKind.i64 (-9223372036854775808)), AV.lit (Value.int IntKind.i64 9223372036854775807)]) (St.mk 0 0 Tr.nil)) ∧ ((!F77r1 x0 x3) = false → ((!F77r1 x1 x2) = true → Q (AV.agg [AV.lit (Value.int IntKind.i64 (-9223372036854775808)), AV.lit (Value.int IntKind.i64 9223372036854775807)]) (St.mk 0 0 Tr.nil)) ∧ ((!F77r1 x1 x2) = false → ((!F77r1 x1 x3) = true → Q (AV.agg [AV.lit (Value.int IntKind.i64 (-9223372036854775808)), AV.lit (Value.int IntKind.i64 9223372036854775807)]) (St.mk 0 0 Tr.nil)) ∧ ((!F77r1 x1 x3) = false → Q (AV.agg [AV.lit (Value.int IntKind.i64 (F37r0 (F37r0 (F37r0 (F71r0 (F77r0 x0 x2)) (F71r1 (F77r0 x0 x2)) (F71r0 (F77r0 x0 x3)) (F71r1 (F77r0 x0 x3))) (F37r1 (F71r0 (F77r0 x0 x2)) (F71r1 (F77r0 x0 x2)) (F71r0 (F77r0 x0 x3)) (F71r1 (F77r0 x0 x3))) (F71r0 (F77r0 x1 x2)) (F71r1 (F77r0 x1 x2))) (F37r1 (F37r0 (F71r0 (F77r0 x0 x2)) (F71r1 (F77r0 x0 x2)) (F71r0 (F77r0 x0 x3)) (F71r1 (F77r0 x0 x3))) (F37r1 (F71r0 (F77r0 x0 x2)) (F71r1 (F77r0 x0 x2)) (F71r0 (F77r0 x0 x3)) (F71r1 (F77r0 x0 x3))) (F71r0 (F77r0 x1 x2)) (F71r1 (F77r0 x1 x2))) (F71r0 (F77r0 x1 x3)) (F71r1 (F77r0 x1 x3)))), AV.lit (Value.int IntKind.i64 (F37r1 (F37r0 (F37r0 (F71r0 (F77r0 x0 x2)) (F71r1 (F77r0 x0 x2)) (F71r0 (F77r0 x0 x3)) (F71r1 (F77r0 x0 x3))) (F37r1 (F71r0 (F77r0 x0 x2)) (F71r1 (F77r0 x0 x2)) (F71r0 (F77r0 x0 x3)) (F71r1 (F77r0 x0 x3))) (F71r0 (F77r0 x1 x2)) (F71r1 (F77r0 x1 x2))) (F37r1 (F37r0 (F71r0 (F77r0 x0 x2)) (F71r1 (F77r0 x0 x2)) (F71r0 (F77r0 x0 x3)) (F71r1 (F77r0 x0 x3))) (F37r1 (F71r0 (F77r0 x0 x2)) (F71r1 (F77r0 x0 x2)) (F71r0 (F77r0 x0 x3)) (F71r1 (F77r0 x0 x3))) (F71r0 (F77r0 x1 x2)) (F71r1 (F77r0 x1 x2))) (F71r0 (F77r0 x1 x3)) (F71r1 (F77r0 x1 x3))))]) (St.mk 0 0 Tr.nil)))))) := by kernel_rfl
theorem ok76a : Ok Go.Vm.G 76 S76a := by
  intro args s v s' h
  unfold S76a at h
  split at h
  · skip
    rename_i x0 x1 x2 x3
    injection h with h; injection h with h1 h2; subst h1; subst h2
    refine runs_of_alone sp76a_ok rfl (args' := [.agg [.lit (.int .i64 x0), .lit (.int .i64 x1)], .agg [.lit (.int .i64 x2), .lit (.int .i64 x3)], .fn 77 []]) (by kernel_rfl) (h := Hint.go (Hint.go (Hint.go (Hint.go (Hint.ite Hint.done (Hint.go (Hint.go (Hint.ite Hint.done (Hint.go (Hint.go (Hint.go (Hint.go (Hint.go (Hint.ite Hint.done (Hint.go (Hint.go (Hint.ite Hint.done (Hint.go (Hint.go (Hint.go Hint.done)))))))))))))))))))) ?_
    rw [tree76a]
    exact ⟨fun h0 => (by simp only [F76ar0, F76ar1, h0, cond_true]; kernel_rfl), fun h0 => ⟨fun h1 => (by simp only [F76ar0, F76ar1, h0, h1, cond_true, cond_false]; kernel_rfl), fun h1 => ⟨fun h2 => (by simp only [F76ar0, F76ar1, h0, h1, h2, cond_true, cond_false]; kernel_rfl), fun h2 => ⟨fun h3 => (by simp only [F76ar0, F76ar1, h0, h1, h2, h3, cond_true, cond_false]; kernel_rfl), fun h3 => (by simp only [F76ar0, F76ar1, h0, h1, h2, h3, cond_false]; kernel_rfl)⟩⟩⟩⟩
  · cases h

def sp76b : CallT := table [(40, S40), (71, S71), (37, S37), (78, S78)]
theorem sp76b_ok : SpecOk Go.Vm.G sp76b := SpecOk.cons ok40 (SpecOk.cons ok71 (SpecOk.cons ok37 (SpecOk.cons ok78 (SpecOk.nil))))
/-! "fulling/interval.corners" -/
def F76br0 (x0 : Int) (x1 : Int) (x2 : Int) (x3 : Int) : Int := F37r0 (F37r0 (F37r0 (F71r0 (F78r0 x0 x2)) (F71r1 (F78r0 x0 x2)) (F71r0 (F78r0 x0 x3)) (F71r1 (F78r0 x0 x3))) (F37r1 (F71r0 (F78r0 x0 x2)) (F71r1 (F78r0 x0 x2)) (F71r0 (F78r0 x0 x3)) (F71r1 (F78r0 x0 x3))) (F71r0 (F78r0 x1 x2)) (F71r1 (F78r0 x1 x2))) (F37r1 (F37r0 (F71r0 (F78r0 x0 x2)) (F71r1 (F78r0 x0 x2)) (F71r0 (F78r0 x0 x3)) (F71r1 (F78r0 x0 x3))) (F37r1 (F71r0 (F78r0 x0 x2)) (F71r1 (F78r0 x0 x2)) (F71r0 (F78r0 x0 x3)) (F71r1 (F78r0 x0 x3))) (F71r0 (F78r0 x1 x2)) (F71r1 (F78r0 x1 x2))) (F71r0 (F78r0 x1 x3)) (F71r1 (F78r0 x1 x3))
def F76br1 (x0 : Int) (x1 : Int) (x2 : Int) (x3 : Int) : Int := F37r1 (F37r0 (F37r0 (F71r0 (F78r0 x0 x2)) (F71r1 (F78r0 x0 x2)) (F71r0 (F78r0 x0 x3)) (F71r1 (F78r0 x0 x3))) (F37r1 (F71r0 (F78r0 x0 x2)) (F71r1 (F78r0 x0 x2)) (F71r0 (F78r0 x0 x3)) (F71r1 (F78r0 x0 x3))) (F71r0 (F78r0 x1 x2)) (F71r1 (F78r0 x1 x2))) (F37r1 (F37r0 (F71r0 (F78r0 x0 x2)) (F71r1 (F78r0 x0 x2)) (F71r0 (F78r0 x0 x3)) (F71r1 (F78r0 x0 x3))) (F37r1 (F71r0 (F78r0 x0 x2)) (F71r1 (F78r0 x0 x2)) (F71r0 (F78r0 x0 x3)) (F71r1 (F78r0 x0 x3))) (F71r0 (F78r0 x1 x2)) (F71r1 (F78r0 x1 x2))) (F71r0 (F78r0 x1 x3)) (F71r1 (F78r0 x1 x3))
def S76b : Spec
  | [.agg [.lit (.int .i64 x0), .lit (.int .i64 x1)], .agg [.lit (.int .i64 x2), .lit (.int .i64 x3)], .fn 78 []], s => gate (!(x2 == 0) && !(x3 == 0)) (some (.agg [.lit (.int .i64 (F76br0 x0 x1 x2 x3)), .lit (.int .i64 (F76br1 x0 x1 x2 x3))], s))
  | _, _ => none
theorem tree76b (x0 : Int) (x1 : Int) (x2 : Int) (x3 : Int) (Q : AV → St → Prop) : funP Go.Vm.G sp76b 76 [.agg [.lit (.int .i64 x0), .lit (.int .i64 x1)], .agg [.lit (.int .i64 x2), .lit (.int .i64 x3)], .fn 78 []] St.nil (Hint.go (Hint.go (Hint.go (Hint.go (Hint.got 8 3 (AV.tup [AV.lit (Value.int IntKind.i64 (F78r0 x0 x2)), AV.lit (Value.bool (F78r1 x0 x2))]) none (Hint.go (Hint.go (Hint.go (Hint.got 8 3 (AV.tup [AV.lit (Value.int IntKind.i64 (F78r0 x0 x3)), AV.lit (Value.bool (F78r1 x0 x3))]) none (Hint.go (Hint.go (Hint.go (Hint.go (Hint.go (Hint.go (Hint.got 8 3 (AV.tup [AV.lit (Value.int IntKind.i64 (F78r0 x1 x2)), AV.lit (Value.bool (F78r1 x1 x2))]) none (Hint.go (Hint.go (Hint.go (Hint.got 8 3 (AV.tup [AV.lit (Value.int IntKind.i64 (F78r0 x1 x3)), AV.lit (Value.bool (F78r1 x1 x3))]) none (Hint.go (Hint.go (Hint.go (Hint.go Hint.done)))))))))))))))))))))))) Q = (Runs G 78 [AV.lit (Value.int IntKind.i64 x0), AV.lit (Value.int IntKind.i64 x2)] (St.mk 0 0 Tr.nil) (AV.tup [AV.lit (Value.int IntKind.i64 (F78r0 x0 x2)), AV.lit (Value.bool (F78r1 x0 x2))]) (St.mk 0 0 Tr.nil) ∧ Runs G 78 [AV.lit (Value.int IntKind.i64 x0), AV.lit (Value.int IntKind.i64 x3)] (St.mk 0 0 Tr.nil) (AV.tup [AV.lit (Value.int IntKind.i64 (F78r0 x0 x3)), AV.lit (Value.bool (F78r1 x0 x3))]) (St.mk 0 0 Tr.nil) ∧ Runs G 78 [AV.lit (Value.int IntKind.i64 x1), AV.lit (Value.int IntKind.i64 x2)] (St.mk 0 0 Tr.nil) (AV.tup [AV.lit (Value.int IntKind.i64 (F78r0 x1 x2)), AV.lit (Value.bool (F78r1 x1 x2))]) (St.mk 0 0 Tr.nil) ∧ Runs G 78 [AV.lit (Value.int IntKind.i64 x1), AV.lit (Value.int IntKind.i64 x3)] (St.mk 0 0 Tr.nil) (AV.tup [AV.lit (Value.int IntKind.i64 (F78r0 x1 x3)), AV.lit (Value.bool (F78r1 x1 x3))]) (St.mk 0 0 Tr.nil) ∧ Q (AV.agg [AV.lit (Value.int IntKind.i64 (F37r0 (F37r0 (F37r0 (F71r0 (F78r0 x0 x2)) (F71r1 (F78r0 x0 x2)) (F71r0 (F78r0 x0 x3)) (F71r1 (F78r0 x0 x3))) (F37r1 (F71r0 (F78r0 x0 x2)) (F71r1 (F78r0 x0 x2)) (F71r0 (F78r0 x0 x3)) (F71r1 (F78r0 x0 x3))) (F71r0 (F78r0 x1 x2)) (F71r1 (F78r0 x1 x2))) (F37r1 (F37r0 (F71r0 (F78r0 x0 x2)) (F71r1 (F78r0 x0 x2)) (F71r0 (F78r0 x0 x3)) (F71r1 (F78r0 x0 x3))) (F37r1 (F71r0 (F78r0 x0 x2)) (F71r1 (F78r0 x0 x2)) (F71r0 (F78r0 x0 x3)) (F71r1 (F78r0 x0 x3))) (F71r0 (F78r0 x1 x2)) (F71r1 (F78r0 x1 x2))) (F71r0 (F78r0 x1 x3)) (F71r1 (F78r0 x1 x3)))), AV.lit (Value.int IntKind.i64 (F37r1 (F37r0 (F37r0 (F71r0 (F78r0 x0 x2)) (F71r1 (F78r0 x0 x2)) (F71r0 (F78r0 x0 x3)) (F71r1 (F78r0 x0 x3))) (F37r1 (F71r0 (F78r0 x0 x2)) (F71r1 (F78r0 x0 x2)) (F71r0 (F78r0 x0 x3)) (F71r1 (F78r0 x0 x3))) (F71r0 (F78r0 x1 x2)) (F71r1 (F78r0 x1 x2))) (F37r1 (F37r0 (F71r0 (F78r0 x0 x2)) (F71r1 (F78r0 x0 x2)) (F71r0 (F78r0 x0 x3)) (F71r1 (F78r0 x0 x3))) (F37r1 (F71r0 (F78r0 x0 x2)) (F71r1 (F78r0 x0 x2)) (F71r0 (F78r0 x0 x3)) (F71r1 (F78r0 x0 x3))) (F71r0 (F78r0 x1 x2)) (F71r1 (F78r0 x1 x2))) (F71r0 (F78r0 x1 x3)) (F71r1 (F78r0 x1 x3))))]) (St.mk 0 0 Tr.nil)) := by kernel_rfl
theorem ok76b : Ok Go.Vm.G 76 S76b := by
  intro args s v s' h
  unfold S76b at h
  split at h
  · skip
    rename_i x0 x1 x2 x3
    obtain ⟨hpre, h⟩ := gate_some h
    injection h with h; injection h with h1 h2; subst h1; subst h2
    refine runs_of_alone sp76b_ok rfl (args' := [.agg [.lit (.int .i64 x0), .lit (.int .i64 x1)], .agg [.lit (.int .i64 x2), .lit (.int .i64 x3)], .fn 78 []]) (by kernel_rfl) (h := Hint.go (Hint.go (Hint.go (Hint.go (Hint.got 8 3 (AV.tup [AV.lit (Value.int IntKind.i64 (F78r0 x0 x2)), AV.lit (Value.bool (F78r1 x0 x2))]) none (Hint.go (Hint.go (Hint.go (Hint.got 8 3 (AV.tup [AV.lit (Value.int IntKind.i64 (F78r0 x0 x3)), AV.lit (Value.bool (F78r1 x0 x3))]) none (Hint.go (Hint.go (Hint.go (Hint.go (Hint.go (Hint.go (Hint.got 8 3 (AV.tup [AV.lit (Value.int IntKind.i64 (F78r0 x1 x2)), AV.lit (Value.bool (F78r1 x1 x2))]) none (Hint.go (Hint.go (Hint.go (Hint.got 8 3 (AV.tup [AV.lit (Value.int IntKind.i64 (F78r0 x1 x3)), AV.lit (Value.bool (F78r1 x1 x3))]) none (Hint.go (Hint.go (Hint.go (Hint.go Hint.done)))))))))))))))))))))))) ?_
    rw [tree76b]
    exact ⟨(ok78 _ _ _ _ (gate_true (by simp_all))), ⟨(ok78 _ _ _ _ (gate_true (by simp_all))), ⟨(ok78 _ _ _ _ (gate_true (by simp_all))), ⟨(ok78 _ _ _ _ (gate_true (by simp_all))), (by kernel_rfl)⟩⟩⟩⟩
  · cases h

def S76 : Spec := fun args s => (S76a args s).orElse fun _ => S76b args s
theorem ok76 : Ok Go.Vm.G 76 S76 := ok76a.orElse ok76b

def sp79 : CallT := table [(40, S40)]
theorem sp79_ok : SpecOk Go.Vm.G sp79 := SpecOk.cons ok40 (SpecOk.nil)
/-! "fulling/interval.remainder" -/
def F79r0 (x0 : Int) (_x1 : Int) (x2 : Int) (x3 : Int) : Int := (bif decide (x2 < 1) then -9223372036854775808 else (bif decide (x0 < 0) then if IntKind.wrap IntKind.i64 (1 - x3) > x0 then IntKind.wrap IntKind.i64 (1 - x3) else x0 else 0))
def F79r1 (_x0 : Int) (x1 : Int) (x2 : Int) (x3 : Int) : Int := (bif decide (x2 < 1) then 9223372036854775807 else (bif decide (x1 > 0) then if IntKind.wrap IntKind.i64 (x3 - 1) < x1 then IntKind.wrap IntKind.i64 (x3 - 1) else x1 else 0))
def S79 : Spec
  | [.agg [.lit (.int .i64 x0), .lit (.int .i64 x1)], .agg [.lit (.int .i64 x2), .lit (.int .i64 x3)]], s => some (.agg [.lit (.int .i64 (F79r0 x0 x1 x2 x3)), .lit (.int .i64 (F79r1 x0 x1 x2 x3))], s)
  | _, _ => none
theorem tree79 (x0 : Int) (x1 : Int) (x2 : Int) (x3 : Int) (Q : AV → St → Prop) : funP Go.Vm.G sp79 79 [.agg [.lit (.int .i64 x0), .lit (.int .i64 x1)], .agg [.lit (.int .i64 x2), .lit (.int .i64 x3)]] St.nil (Hint.ite Hint.done (Hint.ite (Hint.ite Hint.done Hint.done) (Hint.ite Hint.done Hint.done))) Q = ((decide (x2 < 1) = true → Q (AV.agg [AV.lit (Value.int IntKind.i64 (-9223372036854775808)), AV.lit (Value.int IntKind.i64 9223372036854775807)]) (St.mk 0 0 Tr.nil)) ∧ (decide (x2 < 1) = false → (decide (x0 < 0) = true → (decide (x1 > 0) = true → Q (AV.agg [AV.lit (Value.int IntKind.i64 (if IntKind.wrap IntKind.i64 (1 - x3) > x0 then IntKind.wrap IntKind.i64 (1 - x3) else x0)), AV.lit (Value.int IntKind.i64 (if IntKind.wrap IntKind.i64 (x3 - 1) < x1 then IntKind.wrap IntKind.i64 (x3 - 1) else x1))]) (St.mk 0 0 Tr.nil)) ∧ (decide (x1 > 0) = false → Q (AV.agg [AV.lit (Value.int IntKind.i64 (if IntKind.wrap IntKind.i64 (1 - x3) > x0 then IntKind.wrap IntKind.i64 (1 - x3) else x0)), AV.lit (Value.int IntKind.i64 0)]) (St.mk 0 0 Tr.nil))) ∧ (decide (x0 < 0) = false → (decide (x1 > 0) = true → Q (AV.agg [AV.lit (Value.int IntKind.i64 0), AV.lit (Value.int IntKind.i64 (if IntKind.wrap IntKind.i64 (x3 - 1) < x1 then IntKind.wrap IntKind.i64 (x3 - 1) else x1))]) (St.mk 0 0 Tr.nil)) ∧ (decide (x1 > 0) = false → Q (AV.agg [AV.lit (Value.int IntKind.i64 0), AV.lit (Value.int IntKind.i64 0)]) (St.mk 0 0 Tr.nil))))) := by kernel_rfl
theorem ok79 : Ok Go.Vm.G 79 S79 := by
  intro args s v s' h
  unfold S79 at h
  split at h
  · skip
    rename_i x0 x1 x2 x3
    injection h with h; injection h with h1 h2; subst h1; subst h2
    refine runs_of_alone sp79_ok rfl (args' := [.agg [.lit (.int .i64 x0), .lit (.int .i64 x1)], .agg [.lit (.int .i64 x2), .lit (.int .i64 x3)]]) (by kernel_rfl) (h := Hint.ite Hint.done (Hint.ite (Hint.ite Hint.done Hint.done) (Hint.ite Hint.done Hint.done))) ?_
    rw [tree79]
    exact ⟨fun h0 => (by simp only [F79r0, F79r1, h0, cond_true]; kernel_rfl), fun h0 => ⟨fun h1 => ⟨fun h2 => (by simp only [F79r0, F79r1, h0, h1, h2, cond_true, cond_false]; kernel_rfl), fun h2 => (by simp only [F79r0, F79r1, h0, h1, h2, cond_true, cond_false]; kernel_rfl)⟩, fun h1 => ⟨fun h2 => (by simp only [F79r0, F79r1, h0, h1, h2, cond_true, cond_false]; kernel_rfl), fun h2 => (by simp only [F79r0, F79r1, h0, h1, h2, cond_false]; kernel_rfl)⟩⟩⟩
  · cases h

/-- The lengths of bytes. -/
def len8 : List UInt8 := [0, 1, 2, 2, 3, 3, 3, 3, 4, 4, 4, 4, 4, 4, 4, 4, 5, 5, 5, 5, 5, 5, 5, 5, 5, 5, 5, 5, 5, 5, 5, 5, 6, 6, 6, 6, 6, 6, 6, 6, 6, 6, 6, 6, 6, 6, 6, 6, 6, 6, 6, 6, 6, 6, 6, 6, 6, 6, 6, 6, 6, 6, 6, 6, 7, 7, 7, 7, 7, 7, 7, 7, 7, 7, 7, 7, 7, 7, 7, 7, 7, 7, 7, 7, 7, 7, 7, 7, 7, 7, 7, 7, 7, 7, 7, 7, 7, 7, 7, 7, 7, 7, 7, 7, 7, 7, 7, 7, 7, 7, 7, 7, 7, 7, 7, 7, 7, 7, 7, 7, 7, 7, 7, 7, 7, 7, 7, 7, 8, 8, 8, 8, 8, 8, 8, 8, 8, 8, 8, 8, 8, 8, 8, 8, 8, 8, 8, 8, 8, 8, 8, 8, 8, 8, 8, 8, 8, 8, 8, 8, 8, 8, 8, 8, 8, 8, 8, 8, 8, 8, 8, 8, 8, 8, 8, 8, 8, 8, 8, 8, 8, 8, 8, 8, 8, 8, 8, 8, 8, 8, 8, 8, 8, 8, 8, 8, 8, 8, 8, 8, 8, 8, 8, 8, 8, 8, 8, 8, 8, 8, 8, 8, 8, 8, 8, 8, 8, 8, 8, 8, 8, 8, 8, 8, 8, 8, 8, 8, 8, 8, 8, 8, 8, 8, 8, 8, 8, 8, 8, 8, 8, 8, 8, 8, 8, 8, 8, 8, 8, 8, 8, 8, 8, 8, 8, 8]
theorem len8_length : len8.length = 256 := by kernel_rfl

def sp112 : CallT := table []
theorem sp112_ok : SpecOk Go.Vm.G sp112 := SpecOk.nil
/-! "math/bits.Len64" -/
def F112r0 (x0 : Int) : Int := (bif decide (x0 ≥ 4294967296) then (bif decide (Int.fdiv x0 4294967296 ≥ 65536) then (bif decide (Int.fdiv (Int.fdiv x0 4294967296) 65536 ≥ 256) then IntKind.wrap IntKind.i64 (56 + IntKind.wrap IntKind.i64 (Int.ofNat (UInt8.toNat (List.getD len8 (Int.toNat (IntKind.wrap IntKind.u8 (Int.fdiv (Int.fdiv (Int.fdiv x0 4294967296) 65536) 256))) 0)))) else IntKind.wrap IntKind.i64 (48 + IntKind.wrap IntKind.i64 (Int.ofNat (UInt8.toNat (List.getD len8 (Int.toNat (IntKind.wrap IntKind.u8 (Int.fdiv (Int.fdiv x0 4294967296) 65536))) 0))))) else (bif decide (Int.fdiv x0 4294967296 ≥ 256) then IntKind.wrap IntKind.i64 (40 + IntKind.wrap IntKind.i64 (Int.ofNat (UInt8.toNat (List.getD len8 (Int.toNat (IntKind.wrap IntKind.u8 (Int.fdiv (Int.fdiv x0 4294967296) 256))) 0)))) else IntKind.wrap IntKind.i64 (32 + IntKind.wrap IntKind.i64 (Int.ofNat (UInt8.toNat (List.getD len8 (Int.toNat (IntKind.wrap IntKind.u8 (Int.fdiv x0 4294967296))) 0)))))) else (bif decide (x0 ≥ 65536) then (bif decide (Int.fdiv x0 65536 ≥ 256) then IntKind.wrap IntKind.i64 (24 + IntKind.wrap IntKind.i64 (Int.ofNat (UInt8.toNat (List.getD len8 (Int.toNat (IntKind.wrap IntKind.u8 (Int.fdiv (Int.fdiv x0 65536) 256))) 0)))) else IntKind.wrap IntKind.i64 (16 + IntKind.wrap IntKind.i64 (Int.ofNat (UInt8.toNat (List.getD len8 (Int.toNat (IntKind.wrap IntKind.u8 (Int.fdiv x0 65536))) 0))))) else (bif decide (x0 ≥ 256) then IntKind.wrap IntKind.i64 (8 + IntKind.wrap IntKind.i64 (Int.ofNat (UInt8.toNat (List.getD len8 (Int.toNat (IntKind.wrap IntKind.u8 (Int.fdiv x0 256))) 0)))) else IntKind.wrap IntKind.i64 (0 + IntKind.wrap IntKind.i64 (Int.ofNat (UInt8.toNat (List.getD len8 (Int.toNat (IntKind.wrap IntKind.u8 x0)) 0)))))))
def S112 : Spec
  | [.lit (.int .u64 x0)], s => some (.lit (.int .i64 (F112r0 x0)), s)
  | _, _ => none
theorem tree112 (x0 : Int) (Q : AV → St → Prop) : funP Go.Vm.G sp112 112 [.lit (.int .u64 x0)] St.nil (Hint.ite (Hint.ite (Hint.ite (Hint.got 10 3 (AV.lit (Value.int IntKind.u8 (Int.ofNat (UInt8.toNat (List.getD len8 (Int.toNat (IntKind.wrap IntKind.u8 (Int.fdiv (Int.fdiv (Int.fdiv x0 4294967296) 65536) 256))) 0))))) none Hint.done) (Hint.got 10 3 (AV.lit (Value.int IntKind.u8 (Int.ofNat (UInt8.toNat (List.getD len8 (Int.toNat (IntKind.wrap IntKind.u8 (Int.fdiv (Int.fdiv x0 4294967296) 65536))) 0))))) none Hint.done)) (Hint.ite (Hint.got 10 3 (AV.lit (Value.int IntKind.u8 (Int.ofNat (UInt8.toNat (List.getD len8 (Int.toNat (IntKind.wrap IntKind.u8 (Int.fdiv (Int.fdiv x0 4294967296) 256))) 0))))) none Hint.done) (Hint.got 10 3 (AV.lit (Value.int IntKind.u8 (Int.ofNat (UInt8.toNat (List.getD len8 (Int.toNat (IntKind.wrap IntKind.u8 (Int.fdiv x0 4294967296))) 0))))) none Hint.done))) (Hint.ite (Hint.ite (Hint.got 10 3 (AV.lit (Value.int IntKind.u8 (Int.ofNat (UInt8.toNat (List.getD len8 (Int.toNat (IntKind.wrap IntKind.u8 (Int.fdiv (Int.fdiv x0 65536) 256))) 0))))) none Hint.done) (Hint.got 10 3 (AV.lit (Value.int IntKind.u8 (Int.ofNat (UInt8.toNat (List.getD len8 (Int.toNat (IntKind.wrap IntKind.u8 (Int.fdiv x0 65536))) 0))))) none Hint.done)) (Hint.ite (Hint.got 10 3 (AV.lit (Value.int IntKind.u8 (Int.ofNat (UInt8.toNat (List.getD len8 (Int.toNat (IntKind.wrap IntKind.u8 (Int.fdiv x0 256))) 0))))) none Hint.done) (Hint.got 10 3 (AV.lit (Value.int IntKind.u8 (Int.ofNat (UInt8.toNat (List.getD len8 (Int.toNat (IntKind.wrap IntKind.u8 x0)) 0))))) none Hint.done)))) Q = ((decide (x0 ≥ 4294967296) = true → (decide (Int.fdiv x0 4294967296 ≥ 65536) = true → (decide (Int.fdiv (Int.fdiv x0 4294967296) 65536 ≥ 256) = true → index G 9 (AV.str len8) (AV.lit (Value.int IntKind.u8 (IntKind.wrap IntKind.u8 (Int.fdiv (Int.fdiv (Int.fdiv x0 4294967296) 65536) 256)))) = some (AV.lit (Value.int IntKind.u8 (Int.ofNat (UInt8.toNat (List.getD len8 (Int.toNat (IntKind.wrap IntKind.u8 (Int.fdiv (Int.fdiv (Int.fdiv x0 4294967296) 65536) 256))) 0))))) ∧ Q (AV.lit (Value.int IntKind.i64 (IntKind.wrap IntKind.i64 (56 + IntKind.wrap IntKind.i64 (Int.ofNat (UInt8.toNat (List.getD len8 (Int.toNat (IntKind.wrap IntKind.u8 (Int.fdiv (Int.fdiv (Int.fdiv x0 4294967296) 65536) 256))) 0))))))) St.nil) ∧ (decide (Int.fdiv (Int.fdiv x0 4294967296) 65536 ≥ 256) = false → index G 9 (AV.str len8) (AV.lit (Value.int IntKind.u8 (IntKind.wrap IntKind.u8 (Int.fdiv (Int.fdiv x0 4294967296) 65536)))) = some (AV.lit (Value.int IntKind.u8 (Int.ofNat (UInt8.toNat (List.getD len8 (Int.toNat (IntKind.wrap IntKind.u8 (Int.fdiv (Int.fdiv x0 4294967296) 65536))) 0))))) ∧ Q (AV.lit (Value.int IntKind.i64 (IntKind.wrap IntKind.i64 (48 + IntKind.wrap IntKind.i64 (Int.ofNat (UInt8.toNat (List.getD len8 (Int.toNat (IntKind.wrap IntKind.u8 (Int.fdiv (Int.fdiv x0 4294967296) 65536))) 0))))))) St.nil)) ∧ (decide (Int.fdiv x0 4294967296 ≥ 65536) = false → (decide (Int.fdiv x0 4294967296 ≥ 256) = true → index G 9 (AV.str len8) (AV.lit (Value.int IntKind.u8 (IntKind.wrap IntKind.u8 (Int.fdiv (Int.fdiv x0 4294967296) 256)))) = some (AV.lit (Value.int IntKind.u8 (Int.ofNat (UInt8.toNat (List.getD len8 (Int.toNat (IntKind.wrap IntKind.u8 (Int.fdiv (Int.fdiv x0 4294967296) 256))) 0))))) ∧ Q (AV.lit (Value.int IntKind.i64 (IntKind.wrap IntKind.i64 (40 + IntKind.wrap IntKind.i64 (Int.ofNat (UInt8.toNat (List.getD len8 (Int.toNat (IntKind.wrap IntKind.u8 (Int.fdiv (Int.fdiv x0 4294967296) 256))) 0))))))) St.nil) ∧ (decide (Int.fdiv x0 4294967296 ≥ 256) = false → index G 9 (AV.str len8) (AV.lit (Value.int IntKind.u8 (IntKind.wrap IntKind.u8 (Int.fdiv x0 4294967296)))) = some (AV.lit (Value.int IntKind.u8 (Int.ofNat (UInt8.toNat (List.getD len8 (Int.toNat (IntKind.wrap IntKind.u8 (Int.fdiv x0 4294967296))) 0))))) ∧ Q (AV.lit (Value.int IntKind.i64 (IntKind.wrap IntKind.i64 (32 + IntKind.wrap IntKind.i64 (Int.ofNat (UInt8.toNat (List.getD len8 (Int.toNat (IntKind.wrap IntKind.u8 (Int.fdiv x0 4294967296))) 0))))))) St.nil))) ∧ (decide (x0 ≥ 4294967296) = false → (decide (x0 ≥ 65536) = true → (decide (Int.fdiv x0 65536 ≥ 256) = true → index G 9 (AV.str len8) (AV.lit (Value.int IntKind.u8 (IntKind.wrap IntKind.u8 (Int.fdiv (Int.fdiv x0 65536) 256)))) = some (AV.lit (Value.int IntKind.u8 (Int.ofNat (UInt8.toNat (List.getD len8 (Int.toNat (IntKind.wrap IntKind.u8 (Int.fdiv (Int.fdiv x0 65536) 256))) 0))))) ∧ Q (AV.lit (Value.int IntKind.i64 (IntKind.wrap IntKind.i64 (24 + IntKind.wrap IntKind.i64 (Int.ofNat (UInt8.toNat (List.getD len8 (Int.toNat (IntKind.wrap IntKind.u8 (Int.fdiv (Int.fdiv x0 65536) 256))) 0))))))) St.nil) ∧ (decide (Int.fdiv x0 65536 ≥ 256) = false → index G 9 (AV.str len8) (AV.lit (Value.int IntKind.u8 (IntKind.wrap IntKind.u8 (Int.fdiv x0 65536)))) = some (AV.lit (Value.int IntKind.u8 (Int.ofNat (UInt8.toNat (List.getD len8 (Int.toNat (IntKind.wrap IntKind.u8 (Int.fdiv x0 65536))) 0))))) ∧ Q (AV.lit (Value.int IntKind.i64 (IntKind.wrap IntKind.i64 (16 + IntKind.wrap IntKind.i64 (Int.ofNat (UInt8.toNat (List.getD len8 (Int.toNat (IntKind.wrap IntKind.u8 (Int.fdiv x0 65536))) 0))))))) St.nil)) ∧ (decide (x0 ≥ 65536) = false → (decide (x0 ≥ 256) = true → index G 9 (AV.str len8) (AV.lit (Value.int IntKind.u8 (IntKind.wrap IntKind.u8 (Int.fdiv x0 256)))) = some (AV.lit (Value.int IntKind.u8 (Int.ofNat (UInt8.toNat (List.getD len8 (Int.toNat (IntKind.wrap IntKind.u8 (Int.fdiv x0 256))) 0))))) ∧ Q (AV.lit (Value.int IntKind.i64 (IntKind.wrap IntKind.i64 (8 + IntKind.wrap IntKind.i64 (Int.ofNat (UInt8.toNat (List.getD len8 (Int.toNat (IntKind.wrap IntKind.u8 (Int.fdiv x0 256))) 0))))))) St.nil) ∧ (decide (x0 ≥ 256) = false → index G 9 (AV.str len8) (AV.lit (Value.int IntKind.u8 (IntKind.wrap IntKind.u8 x0))) = some (AV.lit (Value.int IntKind.u8 (Int.ofNat (UInt8.toNat (List.getD len8 (Int.toNat (IntKind.wrap IntKind.u8 x0)) 0))))) ∧ Q (AV.lit (Value.int IntKind.i64 (IntKind.wrap IntKind.i64 (0 + IntKind.wrap IntKind.i64 (Int.ofNat (UInt8.toNat (List.getD len8 (Int.toNat (IntKind.wrap IntKind.u8 x0)) 0))))))) St.nil)))) := by kernel_rfl
theorem ok112 : Ok Go.Vm.G 112 S112 := by
  intro args s v s' h
  unfold S112 at h
  split at h
  · skip
    rename_i x0
    injection h with h; injection h with h1 h2; subst h1; subst h2
    refine runs_of_alone sp112_ok rfl (args' := [.lit (.int .u64 x0)]) (by kernel_rfl) (h := Hint.ite (Hint.ite (Hint.ite (Hint.got 10 3 (AV.lit (Value.int IntKind.u8 (Int.ofNat (UInt8.toNat (List.getD len8 (Int.toNat (IntKind.wrap IntKind.u8 (Int.fdiv (Int.fdiv (Int.fdiv x0 4294967296) 65536) 256))) 0))))) none Hint.done) (Hint.got 10 3 (AV.lit (Value.int IntKind.u8 (Int.ofNat (UInt8.toNat (List.getD len8 (Int.toNat (IntKind.wrap IntKind.u8 (Int.fdiv (Int.fdiv x0 4294967296) 65536))) 0))))) none Hint.done)) (Hint.ite (Hint.got 10 3 (AV.lit (Value.int IntKind.u8 (Int.ofNat (UInt8.toNat (List.getD len8 (Int.toNat (IntKind.wrap IntKind.u8 (Int.fdiv (Int.fdiv x0 4294967296) 256))) 0))))) none Hint.done) (Hint.got 10 3 (AV.lit (Value.int IntKind.u8 (Int.ofNat (UInt8.toNat (List.getD len8 (Int.toNat (IntKind.wrap IntKind.u8 (Int.fdiv x0 4294967296))) 0))))) none Hint.done))) (Hint.ite (Hint.ite (Hint.got 10 3 (AV.lit (Value.int IntKind.u8 (Int.ofNat (UInt8.toNat (List.getD len8 (Int.toNat (IntKind.wrap IntKind.u8 (Int.fdiv (Int.fdiv x0 65536) 256))) 0))))) none Hint.done) (Hint.got 10 3 (AV.lit (Value.int IntKind.u8 (Int.ofNat (UInt8.toNat (List.getD len8 (Int.toNat (IntKind.wrap IntKind.u8 (Int.fdiv x0 65536))) 0))))) none Hint.done)) (Hint.ite (Hint.got 10 3 (AV.lit (Value.int IntKind.u8 (Int.ofNat (UInt8.toNat (List.getD len8 (Int.toNat (IntKind.wrap IntKind.u8 (Int.fdiv x0 256))) 0))))) none Hint.done) (Hint.got 10 3 (AV.lit (Value.int IntKind.u8 (Int.ofNat (UInt8.toNat (List.getD len8 (Int.toNat (IntKind.wrap IntKind.u8 x0)) 0))))) none Hint.done)))) ?_
    rw [tree112]
    exact ⟨fun h0 => ⟨fun h1 => ⟨fun h2 => ⟨(index_str len8 (by kernel_rfl) (by rw [wrap_u8]; omega) (by rw [wrap_u8, len8_length]; omega)), (by simp only [F112r0, h0, h1, h2, cond_true]; kernel_rfl)⟩, fun h2 => ⟨(index_str len8 (by kernel_rfl) (by rw [wrap_u8]; omega) (by rw [wrap_u8, len8_length]; omega)), (by simp only [F112r0, h0, h1, h2, cond_true, cond_false]; kernel_rfl)⟩⟩, fun h1 => ⟨fun h2 => ⟨(index_str len8 (by kernel_rfl) (by rw [wrap_u8]; omega) (by rw [wrap_u8, len8_length]; omega)), (by simp only [F112r0, h0, h1, h2, cond_true, cond_false]; kernel_rfl)⟩, fun h2 => ⟨(index_str len8 (by kernel_rfl) (by rw [wrap_u8]; omega) (by rw [wrap_u8, len8_length]; omega)), (by simp only [F112r0, h0, h1, h2, cond_true, cond_false]; kernel_rfl)⟩⟩⟩, fun h0 => ⟨fun h1 => ⟨fun h2 => ⟨(index_str len8 (by kernel_rfl) (by rw [wrap_u8]; omega) (by rw [wrap_u8, len8_length]; omega)), (by simp only [F112r0, h0, h1, h2, cond_true, cond_false]; kernel_rfl)⟩, fun h2 => ⟨(index_str len8 (by kernel_rfl) (by rw [wrap_u8]; omega) (by rw [wrap_u8, len8_length]; omega)), (by simp only [F112r0, h0, h1, h2, cond_true, cond_false]; kernel_rfl)⟩⟩, fun h1 => ⟨fun h2 => ⟨(index_str len8 (by kernel_rfl) (by rw [wrap_u8]; omega) (by rw [wrap_u8, len8_length]; omega)), (by simp only [F112r0, h0, h1, h2, cond_true, cond_false]; kernel_rfl)⟩, fun h2 => ⟨(index_str len8 (by kernel_rfl) (by rw [wrap_u8]; omega) (by rw [wrap_u8, len8_length]; omega)), (by simp only [F112r0, h0, h1, h2, cond_false]; kernel_rfl)⟩⟩⟩⟩
  · cases h

def sp80 : CallT := table [(40, S40), (112, S112)]
theorem sp80_ok : SpecOk Go.Vm.G sp80 := SpecOk.cons ok40 (SpecOk.cons ok112 (SpecOk.nil))
/-! "fulling/interval.bitwise" -/
def F80r0 (x0 : Int) (x1 : Int) (_x2 : Int) (x3 : Int) (_x4 : Int) : Int := (bif x0 == 9 then (bif decide (x1 ≥ 0) then 0 else (bif decide (x3 ≥ 0) then 0 else -9223372036854775808)) else (bif decide (x1 < 0) then -9223372036854775808 else (bif decide (x3 < 0) then -9223372036854775808 else (bif x0 == 10 then if x3 > x1 then x3 else x1 else 0))))
def F80r1 (x0 : Int) (x1 : Int) (x2 : Int) (x3 : Int) (x4 : Int) : Int := (bif x0 == 9 then (bif decide (x1 ≥ 0) then (bif decide (x3 ≥ 0) then if x4 < x2 then x4 else x2 else x2) else (bif decide (x3 ≥ 0) then x4 else 9223372036854775807)) else (bif decide (x1 < 0) then 9223372036854775807 else (bif decide (x3 < 0) then 9223372036854775807 else IntKind.wrap IntKind.i64 (IntKind.wrap IntKind.i64 (1 * 2 ^ min (Int.toNat (IntKind.wrap IntKind.u64 (F112r0 (IntKind.wrap IntKind.u64 (if x4 > x2 then x4 else x2))))) 64) - 1))))
def S80 : Spec
  | [.lit (.int .i64 x0), .agg [.lit (.int .i64 x1), .lit (.int .i64 x2)], .agg [.lit (.int .i64 x3), .lit (.int .i64 x4)]], s => some (.agg [.lit (.int .i64 (F80r0 x0 x1 x2 x3 x4)), .lit (.int .i64 (F80r1 x0 x1 x2 x3 x4))], s)
  | _, _ => none
theorem tree80 (x0 : Int) (x1 : Int) (x2 : Int) (x3 : Int) (x4 : Int) (Q : AV → St → Prop) : funP Go.Vm.G sp80 80 [.lit (.int .i64 x0), .agg [.lit (.int .i64 x1), .lit (.int .i64 x2)], .agg [.lit (.int .i64 x3), .lit (.int .i64 x4)]] St.nil (Hint.ite (Hint.go (Hint.go (Hint.go (Hint.ite (Hint.go (Hint.go (Hint.go (Hint.ite Hint.done (Hint.ite (Hint.go (Hint.go (Hint.go (Hint.ite Hint.done Hint.dead)))) Hint.dead))))) (Hint.go (Hint.go (Hint.go (Hint.go (Hint.ite (Hint.go (Hint.go (Hint.go (Hint.ite Hint.dead (Hint.ite (Hint.go (Hint.go (Hint.go (Hint.ite Hint.done (Hint.ite (Hint.go (Hint.go (Hint.go (Hint.go (Hint.go (Hint.go (Hint.go (Hint.go Hint.done)))))))) Hint.dead))))) Hint.dead))))) Hint.dead))))))))) (Hint.go (Hint.go (Hint.go (Hint.go (Hint.go (Hint.go (Hint.go (Hint.go (Hint.ite Hint.dead (Hint.go (Hint.go (Hint.go (Hint.go (Hint.ite Hint.dead (Hint.go (Hint.go (Hint.go (Hint.go (Hint.ite Hint.dead (Hint.go (Hint.go (Hint.go (Hint.ite (Hint.go (Hint.go (Hint.go (Hint.go Hint.done)))) (Hint.go (Hint.go (Hint.go (Hint.ite Hint.done (Hint.got 9 8 (AV.lit (Value.int IntKind.i64 (IntKind.wrap IntKind.i64 (1 * 2 ^ min (Int.toNat (IntKind.wrap IntKind.u64 (F112r0 (IntKind.wrap IntKind.u64 (if x4 > x2 then x4 else x2))))) 64)))) none (Hint.ite Hint.done Hint.done)))))))))))))))))))))))))))))) Q = (((x0 == 9) = true → (decide (x1 ≥ 0) = true → (decide (x3 ≥ 0) = true → Q (AV.agg [AV.lit (Value.int IntKind.i64 0), AV.lit (Value.int IntKind.i64 (if x4 < x2 then x4 else x2))]) (St.mk 0 0 Tr.nil)) ∧ (decide (x3 ≥ 0) = false → ((x0 == 9) = true → (decide (x1 ≥ 0) = true → Q (AV.agg [AV.lit (Value.int IntKind.i64 0), AV.lit (Value.int IntKind.i64 x2)]) (St.mk 0 0 Tr.nil)) ∧ (decide (x1 ≥ 0) = false → False)) ∧ ((x0 == 9) = false → False))) ∧ (decide (x1 ≥ 0) = false → ((x0 == 9) = true → (decide (x1 ≥ 0) = true → False) ∧ (decide (x1 ≥ 0) = false → ((x0 == 9) = true → (decide (x3 ≥ 0) = true → Q (AV.agg [AV.lit (Value.int IntKind.i64 0), AV.lit (Value.int IntKind.i64 x4)]) (St.mk 0 0 Tr.nil)) ∧ (decide (x3 ≥ 0) = false → ((x0 == 9) = true → Q (AV.agg [AV.lit (Value.int IntKind.i64 (-9223372036854775808)), AV.lit (Value.int IntKind.i64 9223372036854775807)]) (St.mk 0 0 Tr.nil)) ∧ ((x0 == 9) = false → False))) ∧ ((x0 == 9) = false → False))) ∧ ((x0 == 9) = false → False))) ∧ ((x0 == 9) = false → ((x0 == 9) = true → False) ∧ ((x0 == 9) = false → ((x0 == 9) = true → False) ∧ ((x0 == 9) = false → ((x0 == 9) = true → False) ∧ ((x0 == 9) = false → (decide (x1 < 0) = true → Q (AV.agg [AV.lit (Value.int IntKind.i64 (-9223372036854775808)), AV.lit (Value.int IntKind.i64 9223372036854775807)]) (St.mk 0 0 Tr.nil)) ∧ (decide (x1 < 0) = false → (decide (x3 < 0) = true → Q (AV.agg [AV.lit (Value.int IntKind.i64 (-9223372036854775808)), AV.lit (Value.int IntKind.i64 9223372036854775807)]) (St.mk 0 0 Tr.nil)) ∧ (decide (x3 < 0) = false → bin G BinOp.shl 2 (AV.lit (Value.int IntKind.i64 1)) (AV.lit (Value.int IntKind.u64 (IntKind.wrap IntKind.u64 (F112r0 (IntKind.wrap IntKind.u64 (if x4 > x2 then x4 else x2)))))) = some (AV.lit (Value.int IntKind.i64 (IntKind.wrap IntKind.i64 (1 * 2 ^ min (Int.toNat (IntKind.wrap IntKind.u64 (F112r0 (IntKind.wrap IntKind.u64 (if x4 > x2 then x4 else x2))))) 64)))) ∧ ((x0 == 10) = true → Q (AV.agg [AV.lit (Value.int IntKind.i64 (if x3 > x1 then x3 else x1)), AV.lit (Value.int IntKind.i64 (IntKind.wrap IntKind.i64 (IntKind.wrap IntKind.i64 (1 * 2 ^ min (Int.toNat (IntKind.wrap IntKind.u64 (F112r0 (IntKind.wrap IntKind.u64 (if x4 > x2 then x4 else x2))))) 64) - 1)))]) (St.mk 0 0 Tr.nil)) ∧ ((x0 == 10) = false → Q (AV.agg [AV.lit (Value.int IntKind.i64 0), AV.lit (Value.int IntKind.i64 (IntKind.wrap IntKind.i64 (IntKind.wrap IntKind.i64 (1 * 2 ^ min (Int.toNat (IntKind.wrap IntKind.u64 (F112r0 (IntKind.wrap IntKind.u64 (if x4 > x2 then x4 else x2))))) 64) - 1)))]) (St.mk 0 0 Tr.nil))))))))) := by kernel_rfl
theorem ok80 : Ok Go.Vm.G 80 S80 := by
  intro args s v s' h
  unfold S80 at h
  split at h
  · skip
    rename_i x0 x1 x2 x3 x4
    injection h with h; injection h with h1 h2; subst h1; subst h2
    refine runs_of_alone sp80_ok rfl (args' := [.lit (.int .i64 x0), .agg [.lit (.int .i64 x1), .lit (.int .i64 x2)], .agg [.lit (.int .i64 x3), .lit (.int .i64 x4)]]) (by kernel_rfl) (h := Hint.ite (Hint.go (Hint.go (Hint.go (Hint.ite (Hint.go (Hint.go (Hint.go (Hint.ite Hint.done (Hint.ite (Hint.go (Hint.go (Hint.go (Hint.ite Hint.done Hint.dead)))) Hint.dead))))) (Hint.go (Hint.go (Hint.go (Hint.go (Hint.ite (Hint.go (Hint.go (Hint.go (Hint.ite Hint.dead (Hint.ite (Hint.go (Hint.go (Hint.go (Hint.ite Hint.done (Hint.ite (Hint.go (Hint.go (Hint.go (Hint.go (Hint.go (Hint.go (Hint.go (Hint.go Hint.done)))))))) Hint.dead))))) Hint.dead))))) Hint.dead))))))))) (Hint.go (Hint.go (Hint.go (Hint.go (Hint.go (Hint.go (Hint.go (Hint.go (Hint.ite Hint.dead (Hint.go (Hint.go (Hint.go (Hint.go (Hint.ite Hint.dead (Hint.go (Hint.go (Hint.go (Hint.go (Hint.ite Hint.dead (Hint.go (Hint.go (Hint.go (Hint.ite (Hint.go (Hint.go (Hint.go (Hint.go Hint.done)))) (Hint.go (Hint.go (Hint.go (Hint.ite Hint.done (Hint.got 9 8 (AV.lit (Value.int IntKind.i64 (IntKind.wrap IntKind.i64 (1 * 2 ^ min (Int.toNat (IntKind.wrap IntKind.u64 (F112r0 (IntKind.wrap IntKind.u64 (if x4 > x2 then x4 else x2))))) 64)))) none (Hint.ite Hint.done Hint.done)))))))))))))))))))))))))))))) ?_
    rw [tree80]
    exact ⟨fun h0 => ⟨fun h1 => ⟨fun h2 => (by simp only [F80r0, F80r1, h0, h1, h2, cond_true]; kernel_rfl), fun h2 => ⟨fun _ => ⟨fun _ => (by simp only [F80r0, F80r1, h0, h1, h2, cond_true, cond_false]; kernel_rfl), fun h4 => (nomatch (h1.symm.trans h4))⟩, fun h3 => (nomatch (h0.symm.trans h3))⟩⟩, fun h1 => ⟨fun _ => ⟨fun h3 => (nomatch (h3.symm.trans h1)), fun _ => ⟨fun _ => ⟨fun h5 => (by simp only [F80r0, F80r1, h0, h1, h5, cond_true, cond_false]; kernel_rfl), fun h5 => ⟨fun _ => (by simp only [F80r0, F80r1, h0, h1, h5, cond_true, cond_false]; kernel_rfl), fun h6 => (nomatch (h0.symm.trans h6))⟩⟩, fun h4 => (nomatch (h0.symm.trans h4))⟩⟩, fun h2 => (nomatch (h0.symm.trans h2))⟩⟩, fun h0 => ⟨fun h1 => (nomatch (h1.symm.trans h0)), fun _ => ⟨fun h2 => (nomatch (h2.symm.trans h0)), fun _ => ⟨fun h3 => (nomatch (h3.symm.trans h0)), fun _ => ⟨fun h4 => (by simp only [F80r0, F80r1, h0, h4, cond_true, cond_false]; kernel_rfl), fun h4 => ⟨fun h5 => (by simp only [F80r0, F80r1, h0, h4, h5, cond_true, cond_false]; kernel_rfl), fun h5 => ⟨(bin_shl (wrap_u64_nonneg _)), ⟨fun h6 => (by simp only [F80r0, F80r1, h0, h4, h5, h6, cond_true, cond_false]; kernel_rfl), fun h6 => (by simp only [F80r0, F80r1, h0, h4, h5, h6, cond_false]; kernel_rfl)⟩⟩⟩⟩⟩⟩⟩⟩
  · cases h

def sp81 : CallT := table [(70, S70), (40, S40)]
theorem sp81_ok : SpecOk Go.Vm.G sp81 := SpecOk.cons ok70 (SpecOk.cons ok40 (SpecOk.nil))
/-! "fulling/interval.shift" -/
def F81r0 (x0 : Int) (x1 : Int) (x2 : Int) (x3 : Int) (x4 : Int) : Int := (bif x0 == 12 then (bif F70r0 x3 x4 then (bif Int.fdiv (IntKind.wrap IntKind.i64 (x1 * 2 ^ min (Int.toNat (IntKind.wrap IntKind.u64 (IntKind.wrap IntKind.i64 ↑(BitVec.toNat (BitVec.ofInt 64 x3 &&& BitVec.ofInt 64 63))))) 64)) (2 ^ min (Int.toNat (IntKind.wrap IntKind.u64 (IntKind.wrap IntKind.i64 ↑(BitVec.toNat (BitVec.ofInt 64 x3 &&& BitVec.ofInt 64 63))))) 64) != x1 then -9223372036854775808 else (bif Int.fdiv (IntKind.wrap IntKind.i64 (x2 * 2 ^ min (Int.toNat (IntKind.wrap IntKind.u64 (IntKind.wrap IntKind.i64 ↑(BitVec.toNat (BitVec.ofInt 64 x3 &&& BitVec.ofInt 64 63))))) 64)) (2 ^ min (Int.toNat (IntKind.wrap IntKind.u64 (IntKind.wrap IntKind.i64 ↑(BitVec.toNat (BitVec.ofInt 64 x3 &&& BitVec.ofInt 64 63))))) 64) != x2 then -9223372036854775808 else IntKind.wrap IntKind.i64 (x1 * 2 ^ min (Int.toNat (IntKind.wrap IntKind.u64 (IntKind.wrap IntKind.i64 ↑(BitVec.toNat (BitVec.ofInt 64 x3 &&& BitVec.ofInt 64 63))))) 64))) else -9223372036854775808) else (bif x0 == 14 then (bif F70r0 x3 x4 then Int.fdiv x1 (2 ^ min (Int.toNat (IntKind.wrap IntKind.u64 (IntKind.wrap IntKind.i64 ↑(BitVec.toNat (BitVec.ofInt 64 x3 &&& BitVec.ofInt 64 63))))) 64) else if 0 < x1 then 0 else x1) else (bif F70r0 x3 x4 then (bif IntKind.wrap IntKind.u64 (IntKind.wrap IntKind.i64 ↑(BitVec.toNat (BitVec.ofInt 64 x3 &&& BitVec.ofInt 64 63))) == 0 then x1 else (bif decide (x1 ≥ 0) then Int.fdiv x1 (2 ^ min (Int.toNat (IntKind.wrap IntKind.u64 (IntKind.wrap IntKind.i64 ↑(BitVec.toNat (BitVec.ofInt 64 x3 &&& BitVec.ofInt 64 63))))) 64) else 0)) else (bif decide (x1 ≥ 0) then 0 else -9223372036854775808))))
def F81r1 (x0 : Int) (x1 : Int) (x2 : Int) (x3 : Int) (x4 : Int) : Int := (bif x0 == 12 then (bif F70r0 x3 x4 then (bif Int.fdiv (IntKind.wrap IntKind.i64 (x1 * 2 ^ min (Int.toNat (IntKind.wrap IntKind.u64 (IntKind.wrap IntKind.i64 ↑(BitVec.toNat (BitVec.ofInt 64 x3 &&& BitVec.ofInt 64 63))))) 64)) (2 ^ min (Int.toNat (IntKind.wrap IntKind.u64 (IntKind.wrap IntKind.i64 ↑(BitVec.toNat (BitVec.ofInt 64 x3 &&& BitVec.ofInt 64 63))))) 64) != x1 then 9223372036854775807 else (bif Int.fdiv (IntKind.wrap IntKind.i64 (x2 * 2 ^ min (Int.toNat (IntKind.wrap IntKind.u64 (IntKind.wrap IntKind.i64 ↑(BitVec.toNat (BitVec.ofInt 64 x3 &&& BitVec.ofInt 64 63))))) 64)) (2 ^ min (Int.toNat (IntKind.wrap IntKind.u64 (IntKind.wrap IntKind.i64 ↑(BitVec.toNat (BitVec.ofInt 64 x3 &&& BitVec.ofInt 64 63))))) 64) != x2 then 9223372036854775807 else IntKind.wrap IntKind.i64 (x2 * 2 ^ min (Int.toNat (IntKind.wrap IntKind.u64 (IntKind.wrap IntKind.i64 ↑(BitVec.toNat (BitVec.ofInt 64 x3 &&& BitVec.ofInt 64 63))))) 64))) else 9223372036854775807) else (bif x0 == 14 then (bif F70r0 x3 x4 then Int.fdiv x2 (2 ^ min (Int.toNat (IntKind.wrap IntKind.u64 (IntKind.wrap IntKind.i64 ↑(BitVec.toNat (BitVec.ofInt 64 x3 &&& BitVec.ofInt 64 63))))) 64) else if -1 > x2 then -1 else x2) else (bif F70r0 x3 x4 then (bif IntKind.wrap IntKind.u64 (IntKind.wrap IntKind.i64 ↑(BitVec.toNat (BitVec.ofInt 64 x3 &&& BitVec.ofInt 64 63))) == 0 then x2 else (bif decide (x1 ≥ 0) then Int.fdiv x2 (2 ^ min (Int.toNat (IntKind.wrap IntKind.u64 (IntKind.wrap IntKind.i64 ↑(BitVec.toNat (BitVec.ofInt 64 x3 &&& BitVec.ofInt 64 63))))) 64) else IntKind.wrap IntKind.i64 (IntKind.wrap IntKind.i64 (1 * 2 ^ min (Int.toNat (IntKind.wrap IntKind.u64 (64 - IntKind.wrap IntKind.u64 (IntKind.wrap IntKind.i64 ↑(BitVec.toNat (BitVec.ofInt 64 x3 &&& BitVec.ofInt 64 63)))))) 64) - 1))) else (bif decide (x1 ≥ 0) then x2 else 9223372036854775807))))
def S81 : Spec
  | [.lit (.int .i64 x0), .agg [.lit (.int .i64 x1), .lit (.int .i64 x2)], .agg [.lit (.int .i64 x3), .lit (.int .i64 x4)]], s => some (.agg [.lit (.int .i64 (F81r0 x0 x1 x2 x3 x4)), .lit (.int .i64 (F81r1 x0 x1 x2 x3 x4))], s)
  | _, _ => none
theorem tree81 (x0 : Int) (x1 : Int) (x2 : Int) (x3 : Int) (x4 : Int) (Q : AV → St → Prop) : funP Go.Vm.G sp81 81 [.lit (.int .i64 x0), .agg [.lit (.int .i64 x1), .lit (.int .i64 x2)], .agg [.lit (.int .i64 x3), .lit (.int .i64 x4)]] St.nil (Hint.ite (Hint.go (Hint.go (Hint.ite (Hint.got 3 3 (AV.lit (Value.int IntKind.i64 (IntKind.wrap IntKind.i64 (x1 * 2 ^ min (Int.toNat (IntKind.wrap IntKind.u64 (IntKind.wrap IntKind.i64 ↑(BitVec.toNat (BitVec.ofInt 64 x3 &&& BitVec.ofInt 64 63))))) 64)))) none (Hint.got 3 7 (AV.lit (Value.int IntKind.i64 (IntKind.wrap IntKind.i64 (x2 * 2 ^ min (Int.toNat (IntKind.wrap IntKind.u64 (IntKind.wrap IntKind.i64 ↑(BitVec.toNat (BitVec.ofInt 64 x3 &&& BitVec.ofInt 64 63))))) 64)))) none (Hint.got 4 3 (AV.lit (Value.int IntKind.i64 (Int.fdiv (IntKind.wrap IntKind.i64 (x1 * 2 ^ min (Int.toNat (IntKind.wrap IntKind.u64 (IntKind.wrap IntKind.i64 ↑(BitVec.toNat (BitVec.ofInt 64 x3 &&& BitVec.ofInt 64 63))))) 64)) (2 ^ min (Int.toNat (IntKind.wrap IntKind.u64 (IntKind.wrap IntKind.i64 ↑(BitVec.toNat (BitVec.ofInt 64 x3 &&& BitVec.ofInt 64 63))))) 64)))) none (Hint.ite (Hint.go (Hint.go (Hint.go (Hint.go (Hint.go (Hint.go (Hint.go (Hint.go Hint.done)))))))) (Hint.go (Hint.go (Hint.go (Hint.got 4 11 (AV.lit (Value.int IntKind.i64 (Int.fdiv (IntKind.wrap IntKind.i64 (x2 * 2 ^ min (Int.toNat (IntKind.wrap IntKind.u64 (IntKind.wrap IntKind.i64 ↑(BitVec.toNat (BitVec.ofInt 64 x3 &&& BitVec.ofInt 64 63))))) 64)) (2 ^ min (Int.toNat (IntKind.wrap IntKind.u64 (IntKind.wrap IntKind.i64 ↑(BitVec.toNat (BitVec.ofInt 64 x3 &&& BitVec.ofInt 64 63))))) 64)))) none (Hint.go (Hint.go (Hint.go (Hint.go (Hint.ite Hint.done Hint.done))))))))))))) (Hint.ite Hint.done Hint.dead)))) (Hint.go (Hint.go (Hint.go (Hint.ite Hint.dead (Hint.ite (Hint.go (Hint.go (Hint.ite (Hint.got 10 3 (AV.lit (Value.int IntKind.i64 (Int.fdiv x1 (2 ^ min (Int.toNat (IntKind.wrap IntKind.u64 (IntKind.wrap IntKind.i64 ↑(BitVec.toNat (BitVec.ofInt 64 x3 &&& BitVec.ofInt 64 63))))) 64)))) none (Hint.got 10 7 (AV.lit (Value.int IntKind.i64 (Int.fdiv x2 (2 ^ min (Int.toNat (IntKind.wrap IntKind.u64 (IntKind.wrap IntKind.i64 ↑(BitVec.toNat (BitVec.ofInt 64 x3 &&& BitVec.ofInt 64 63))))) 64)))) none Hint.done)) (Hint.ite Hint.done Hint.dead)))) (Hint.go (Hint.go (Hint.go (Hint.ite Hint.dead (Hint.ite (Hint.go (Hint.go (Hint.ite Hint.done (Hint.ite (Hint.go (Hint.go (Hint.go (Hint.ite (Hint.got 16 3 (AV.lit (Value.int IntKind.i64 (Int.fdiv x1 (2 ^ min (Int.toNat (IntKind.wrap IntKind.u64 (IntKind.wrap IntKind.i64 ↑(BitVec.toNat (BitVec.ofInt 64 x3 &&& BitVec.ofInt 64 63))))) 64)))) none (Hint.got 16 7 (AV.lit (Value.int IntKind.i64 (Int.fdiv x2 (2 ^ min (Int.toNat (IntKind.wrap IntKind.u64 (IntKind.wrap IntKind.i64 ↑(BitVec.toNat (BitVec.ofInt 64 x3 &&& BitVec.ofInt 64 63))))) 64)))) none Hint.done)) (Hint.ite (Hint.got 18 2 (AV.lit (Value.int IntKind.i64 (IntKind.wrap IntKind.i64 (1 * 2 ^ min (Int.toNat (IntKind.wrap IntKind.u64 (64 - IntKind.wrap IntKind.u64 (IntKind.wrap IntKind.i64 ↑(BitVec.toNat (BitVec.ofInt 64 x3 &&& BitVec.ofInt 64 63)))))) 64)))) none Hint.done) Hint.dead))))) Hint.dead)))) (Hint.go (Hint.go (Hint.go (Hint.ite Hint.dead (Hint.go (Hint.go (Hint.go (Hint.go (Hint.ite Hint.dead (Hint.ite Hint.done Hint.done))))))))))))))))))))) Q = (((x0 == 12) = true → (F70r0 x3 x4 = true → bin G BinOp.shl 2 (AV.lit (Value.int IntKind.i64 x1)) (AV.lit (Value.int IntKind.u64 (IntKind.wrap IntKind.u64 (IntKind.wrap IntKind.i64 ↑(BitVec.toNat (BitVec.ofInt 64 x3 &&& BitVec.ofInt 64 63)))))) = some (AV.lit (Value.int IntKind.i64 (IntKind.wrap IntKind.i64 (x1 * 2 ^ min (Int.toNat (IntKind.wrap IntKind.u64 (IntKind.wrap IntKind.i64 ↑(BitVec.toNat (BitVec.ofInt 64 x3 &&& BitVec.ofInt 64 63))))) 64)))) ∧ bin G BinOp.shl 2 (AV.lit (Value.int IntKind.i64 x2)) (AV.lit (Value.int IntKind.u64 (IntKind.wrap IntKind.u64 (IntKind.wrap IntKind.i64 ↑(BitVec.toNat (BitVec.ofInt 64 x3 &&& BitVec.ofInt 64 63)))))) = some (AV.lit (Value.int IntKind.i64 (IntKind.wrap IntKind.i64 (x2 * 2 ^ min (Int.toNat (IntKind.wrap IntKind.u64 (IntKind.wrap IntKind.i64 ↑(BitVec.toNat (BitVec.ofInt 64 x3 &&& BitVec.ofInt 64 63))))) 64)))) ∧ bin G BinOp.shr 2 (AV.lit (Value.int IntKind.i64 (IntKind.wrap IntKind.i64 (x1 * 2 ^ min (Int.toNat (IntKind.wrap IntKind.u64 (IntKind.wrap IntKind.i64 ↑(BitVec.toNat (BitVec.ofInt 64 x3 &&& BitVec.ofInt 64 63))))) 64)))) (AV.lit (Value.int IntKind.u64 (IntKind.wrap IntKind.u64 (IntKind.wrap IntKind.i64 ↑(BitVec.toNat (BitVec.ofInt 64 x3 &&& BitVec.ofInt 64 63)))))) = some (AV.lit (Value.int IntKind.i64 (Int.fdiv (IntKind.wrap IntKind.i64 (x1 * 2 ^ min (Int.toNat (IntKind.wrap IntKind.u64 (IntKind.wrap IntKind.i64 ↑(BitVec.toNat (BitVec.ofInt 64 x3 &&& BitVec.ofInt 64 63))))) 64)) (2 ^ min (Int.toNat (IntKind.wrap IntKind.u64 (IntKind.wrap IntKind.i64 ↑(BitVec.toNat (BitVec.ofInt 64 x3 &&& BitVec.ofInt 64 63))))) 64)))) ∧ ((Int.fdiv (IntKind.wrap IntKind.i64 (x1 * 2 ^ min (Int.toNat (IntKind.wrap IntKind.u64 (IntKind.wrap IntKind.i64 ↑(BitVec.toNat (BitVec.ofInt 64 x3 &&& BitVec.ofInt 64 63))))) 64)) (2 ^ min (Int.toNat (IntKind.wrap IntKind.u64 (IntKind.wrap IntKind.i64 ↑(BitVec.toNat (BitVec.ofInt 64 x3 &&& BitVec.ofInt 64 63))))) 64) != x1) = true → Q (AV.agg [AV.lit (Value.int IntKind.i64 (-9223372036854775808)), AV.lit (Value.int IntKind.i64 9223372036854775807)]) (St.mk 0 0 Tr.nil)) ∧ ((Int.fdiv (IntKind.wrap IntKind.i64 (x1 * 2 ^ min (Int.toNat (IntKind.wrap IntKind.u64 (IntKind.wrap IntKind.i64 ↑(BitVec.toNat (BitVec.ofInt 64 x3 &&& BitVec.ofInt 64 63))))) 64)) (2 ^ min (Int.toNat (IntKind.wrap IntKind.u64 (IntKind.wrap IntKind.i64 ↑(BitVec.toNat (BitVec.ofInt 64 x3 &&& BitVec.ofInt 64 63))))) 64) != x1) = false → bin G BinOp.shr 2 (AV.lit (Value.int IntKind.i64 (IntKind.wrap IntKind.i64 (x2 * 2 ^ min (Int.toNat (IntKind.wrap IntKind.u64 (IntKind.wrap IntKind.i64 ↑(BitVec.toNat (BitVec.ofInt 64 x3 &&& BitVec.ofInt 64 63))))) 64)))) (AV.lit (Value.int IntKind.u64 (IntKind.wrap IntKind.u64 (IntKind.wrap IntKind.i64 ↑(BitVec.toNat (BitVec.ofInt 64 x3 &&& BitVec.ofInt 64 63)))))) = some (AV.lit (Value.int IntKind.i64 (Int.fdiv (IntKind.wrap IntKind.i64 (x2 * 2 ^ min (Int.toNat (IntKind.wrap IntKind.u64 (IntKind.wrap IntKind.i64 ↑(BitVec.toNat (BitVec.ofInt 64 x3 &&& BitVec.ofInt 64 63))))) 64)) (2 ^ min (Int.toNat (IntKind.wrap IntKind.u64 (IntKind.wrap IntKind.i64 ↑(BitVec.toNat (BitVec.ofInt 64 x3 &&& BitVec.ofInt 64 63))))) 64)))) ∧ ((Int.fdiv (IntKind.wrap IntKind.i64 (x2 * 2 ^ min (Int.toNat (IntKind.wrap IntKind.u64 (IntKind.wrap IntKind.i64 ↑(BitVec.toNat (BitVec.ofInt 64 x3 &&& BitVec.ofInt 64 63))))) 64)) (2 ^ min (Int.toNat (IntKind.wrap IntKind.u64 (IntKind.wrap IntKind.i64 ↑(BitVec.toNat (BitVec.ofInt 64 x3 &&& BitVec.ofInt 64 63))))) 64) != x2) = true → Q (AV.agg [AV.lit (Value.int IntKind.i64 (-9223372036854775808)), AV.lit (Value.int IntKind.i64 9223372036854775807)]) (St.mk 0 0 Tr.nil)) ∧ ((Int.fdiv (IntKind.wrap IntKind.i64 (x2 * 2 ^ min (Int.toNat (IntKind.wrap IntKind.u64 (IntKind.wrap IntKind.i64 ↑(BitVec.toNat (BitVec.ofInt 64 x3 &&& BitVec.ofInt 64 63))))) 64)) (2 ^ min (Int.toNat (IntKind.wrap IntKind.u64 (IntKind.wrap IntKind.i64 ↑(BitVec.toNat (BitVec.ofInt 64 x3 &&& BitVec.ofInt 64 63))))) 64) != x2) = false → Q (AV.agg [AV.lit (Value.int IntKind.i64 (IntKind.wrap IntKind.i64 (x1 * 2 ^ min (Int.toNat (IntKind.wrap IntKind.u64 (IntKind.wrap IntKind.i64 ↑(BitVec.toNat (BitVec.ofInt 64 x3 &&& BitVec.ofInt 64 63))))) 64))), AV.lit (Value.int IntKind.i64 (IntKind.wrap IntKind.i64 (x2 * 2 ^ min (Int.toNat (IntKind.wrap IntKind.u64 (IntKind.wrap IntKind.i64 ↑(BitVec.toNat (BitVec.ofInt 64 x3 &&& BitVec.ofInt 64 63))))) 64)))]) (St.mk 0 0 Tr.nil)))) ∧ (F70r0 x3 x4 = false → ((x0 == 12) = true → Q (AV.agg [AV.lit (Value.int IntKind.i64 (-9223372036854775808)), AV.lit (Value.int IntKind.i64 9223372036854775807)]) (St.mk 0 0 Tr.nil)) ∧ ((x0 == 12) = false → False))) ∧ ((x0 == 12) = false → ((x0 == 12) = true → False) ∧ ((x0 == 12) = false → ((x0 == 14) = true → (F70r0 x3 x4 = true → bin G BinOp.shr 2 (AV.lit (Value.int IntKind.i64 x1)) (AV.lit (Value.int IntKind.u64 (IntKind.wrap IntKind.u64 (IntKind.wrap IntKind.i64 ↑(BitVec.toNat (BitVec.ofInt 64 x3 &&& BitVec.ofInt 64 63)))))) = some (AV.lit (Value.int IntKind.i64 (Int.fdiv x1 (2 ^ min (Int.toNat (IntKind.wrap IntKind.u64 (IntKind.wrap IntKind.i64 ↑(BitVec.toNat (BitVec.ofInt 64 x3 &&& BitVec.ofInt 64 63))))) 64)))) ∧ bin G BinOp.shr 2 (AV.lit (Value.int IntKind.i64 x2)) (AV.lit (Value.int IntKind.u64 (IntKind.wrap IntKind.u64 (IntKind.wrap IntKind.i64 ↑(BitVec.toNat (BitVec.ofInt 64 x3 &&& BitVec.ofInt 64 63)))))) = some (AV.lit (Value.int IntKind.i64 (Int.fdiv x2 (2 ^ min (Int.toNat (IntKind.wrap IntKind.u64 (IntKind.wrap IntKind.i64 ↑(BitVec.toNat (BitVec.ofInt 64 x3 &&& BitVec.ofInt 64 63))))) 64)))) ∧ Q (AV.agg [AV.lit (Value.int IntKind.i64 (Int.fdiv x1 (2 ^ min (Int.toNat (IntKind.wrap IntKind.u64 (IntKind.wrap IntKind.i64 ↑(BitVec.toNat (BitVec.ofInt 64 x3 &&& BitVec.ofInt 64 63))))) 64))), AV.lit (Value.int IntKind.i64 (Int.fdiv x2 (2 ^ min (Int.toNat (IntKind.wrap IntKind.u64 (IntKind.wrap IntKind.i64 ↑(BitVec.toNat (BitVec.ofInt 64 x3 &&& BitVec.ofInt 64 63))))) 64)))]) (St.mk 0 0 Tr.nil)) ∧ (F70r0 x3 x4 = false → ((x0 == 14) = true → Q (AV.agg [AV.lit (Value.int IntKind.i64 (if 0 < x1 then 0 else x1)), AV.lit (Value.int IntKind.i64 (if -1 > x2 then -1 else x2))]) (St.mk 0 0 Tr.nil)) ∧ ((x0 == 14) = false → False))) ∧ ((x0 == 14) = false → ((x0 == 14) = true → False) ∧ ((x0 == 14) = false → (F70r0 x3 x4 = true → ((IntKind.wrap IntKind.u64 (IntKind.wrap IntKind.i64 ↑(BitVec.toNat (BitVec.ofInt 64 x3 &&& BitVec.ofInt 64 63))) == 0) = true → Q (AV.agg [AV.lit (Value.int IntKind.i64 x1), AV.lit (Value.int IntKind.i64 x2)]) (St.mk 0 0 Tr.nil)) ∧ ((IntKind.wrap IntKind.u64 (IntKind.wrap IntKind.i64 ↑(BitVec.toNat (BitVec.ofInt 64 x3 &&& BitVec.ofInt 64 63))) == 0) = false → (F70r0 x3 x4 = true → (decide (x1 ≥ 0) = true → bin G BinOp.shr 2 (AV.lit (Value.int IntKind.i64 x1)) (AV.lit (Value.int IntKind.u64 (IntKind.wrap IntKind.u64 (IntKind.wrap IntKind.i64 ↑(BitVec.toNat (BitVec.ofInt 64 x3 &&& BitVec.ofInt 64 63)))))) = some (AV.lit (Value.int IntKind.i64 (Int.fdiv x1 (2 ^ min (Int.toNat (IntKind.wrap IntKind.u64 (IntKind.wrap IntKind.i64 ↑(BitVec.toNat (BitVec.ofInt 64 x3 &&& BitVec.ofInt 64 63))))) 64)))) ∧ bin G BinOp.shr 2 (AV.lit (Value.int IntKind.i64 x2)) (AV.lit (Value.int IntKind.u64 (IntKind.wrap IntKind.u64 (IntKind.wrap IntKind.i64 ↑(BitVec.toNat (BitVec.ofInt 64 x3 &&& BitVec.ofInt 64 63)))))) = some (AV.lit (Value.int IntKind.i64 (Int.fdiv x2 (2 ^ min (Int.toNat (IntKind.wrap IntKind.u64 (IntKind.wrap IntKind.i64 ↑(BitVec.toNat (BitVec.ofInt 64 x3 &&& BitVec.ofInt 64 63))))) 64)))) ∧ Q (AV.agg [AV.lit (Value.int IntKind.i64 (Int.fdiv x1 (2 ^ min (Int.toNat (IntKind.wrap IntKind.u64 (IntKind.wrap IntKind.i64 ↑(BitVec.toNat (BitVec.ofInt 64 x3 &&& BitVec.ofInt 64 63))))) 64))), AV.lit (Value.int IntKind.i64 (Int.fdiv x2 (2 ^ min (Int.toNat (IntKind.wrap IntKind.u64 (IntKind.wrap IntKind.i64 ↑(BitVec.toNat (BitVec.ofInt 64 x3 &&& BitVec.ofInt 64 63))))) 64)))]) (St.mk 0 0 Tr.nil)) ∧ (decide (x1 ≥ 0) = false → (F70r0 x3 x4 = true → bin G BinOp.shl 2 (AV.lit (Value.int IntKind.i64 1)) (AV.lit (Value.int IntKind.u64 (IntKind.wrap IntKind.u64 (64 - IntKind.wrap IntKind.u64 (IntKind.wrap IntKind.i64 ↑(BitVec.toNat (BitVec.ofInt 64 x3 &&& BitVec.ofInt 64 63))))))) = some (AV.lit (Value.int IntKind.i64 (IntKind.wrap IntKind.i64 (1 * 2 ^ min (Int.toNat (IntKind.wrap IntKind.u64 (64 - IntKind.wrap IntKind.u64 (IntKind.wrap IntKind.i64 ↑(BitVec.toNat (BitVec.ofInt 64 x3 &&& BitVec.ofInt 64 63)))))) 64)))) ∧ Q (AV.agg [AV.lit (Value.int IntKind.i64 0), AV.lit (Value.int IntKind.i64 (IntKind.wrap IntKind.i64 (IntKind.wrap IntKind.i64 (1 * 2 ^ min (Int.toNat (IntKind.wrap IntKind.u64 (64 - IntKind.wrap IntKind.u64 (IntKind.wrap IntKind.i64 ↑(BitVec.toNat (BitVec.ofInt 64 x3 &&& BitVec.ofInt 64 63)))))) 64) - 1)))]) (St.mk 0 0 Tr.nil)) ∧ (F70r0 x3 x4 = false → False))) ∧ (F70r0 x3 x4 = false → False))) ∧ (F70r0 x3 x4 = false → (F70r0 x3 x4 = true → False) ∧ (F70r0 x3 x4 = false → (F70r0 x3 x4 = true → False) ∧ (F70r0 x3 x4 = false → (decide (x1 ≥ 0) = true → Q (AV.agg [AV.lit (Value.int IntKind.i64 0), AV.lit (Value.int IntKind.i64 x2)]) (St.mk 0 0 Tr.nil)) ∧ (decide (x1 ≥ 0) = false → Q (AV.agg [AV.lit (Value.int IntKind.i64 (-9223372036854775808)), AV.lit (Value.int IntKind.i64 9223372036854775807)]) (St.mk 0 0 Tr.nil)))))))))) := by kernel_rfl
theorem ok81 : Ok Go.Vm.G 81 S81 := by
  intro args s v s' h
  unfold S81 at h
  split at h
  · skip
    rename_i x0 x1 x2 x3 x4
    injection h with h; injection h with h1 h2; subst h1; subst h2
    refine runs_of_alone sp81_ok rfl (args' := [.lit (.int .i64 x0), .agg [.lit (.int .i64 x1), .lit (.int .i64 x2)], .agg [.lit (.int .i64 x3), .lit (.int .i64 x4)]]) (by kernel_rfl) (h := Hint.ite (Hint.go (Hint.go (Hint.ite (Hint.got 3 3 (AV.lit (Value.int IntKind.i64 (IntKind.wrap IntKind.i64 (x1 * 2 ^ min (Int.toNat (IntKind.wrap IntKind.u64 (IntKind.wrap IntKind.i64 ↑(BitVec.toNat (BitVec.ofInt 64 x3 &&& BitVec.ofInt 64 63))))) 64)))) none (Hint.got 3 7 (AV.lit (Value.int IntKind.i64 (IntKind.wrap IntKind.i64 (x2 * 2 ^ min (Int.toNat (IntKind.wrap IntKind.u64 (IntKind.wrap IntKind.i64 ↑(BitVec.toNat (BitVec.ofInt 64 x3 &&& BitVec.ofInt 64 63))))) 64)))) none (Hint.got 4 3 (AV.lit (Value.int IntKind.i64 (Int.fdiv (IntKind.wrap IntKind.i64 (x1 * 2 ^ min (Int.toNat (IntKind.wrap IntKind.u64 (IntKind.wrap IntKind.i64 ↑(BitVec.toNat (BitVec.ofInt 64 x3 &&& BitVec.ofInt 64 63))))) 64)) (2 ^ min (Int.toNat (IntKind.wrap IntKind.u64 (IntKind.wrap IntKind.i64 ↑(BitVec.toNat (BitVec.ofInt 64 x3 &&& BitVec.ofInt 64 63))))) 64)))) none (Hint.ite (Hint.go (Hint.go (Hint.go (Hint.go (Hint.go (Hint.go (Hint.go (Hint.go Hint.done)))))))) (Hint.go (Hint.go (Hint.go (Hint.got 4 11 (AV.lit (Value.int IntKind.i64 (Int.fdiv (IntKind.wrap IntKind.i64 (x2 * 2 ^ min (Int.toNat (IntKind.wrap IntKind.u64 (IntKind.wrap IntKind.i64 ↑(BitVec.toNat (BitVec.ofInt 64 x3 &&& BitVec.ofInt 64 63))))) 64)) (2 ^ min (Int.toNat (IntKind.wrap IntKind.u64 (IntKind.wrap IntKind.i64 ↑(BitVec.toNat (BitVec.ofInt 64 x3 &&& BitVec.ofInt 64 63))))) 64)))) none (Hint.go (Hint.go (Hint.go (Hint.go (Hint.ite Hint.done Hint.done))))))))))))) (Hint.ite Hint.done Hint.dead)))) (Hint.go (Hint.go (Hint.go (Hint.ite Hint.dead (Hint.ite (Hint.go (Hint.go (Hint.ite (Hint.got 10 3 (AV.lit (Value.int IntKind.i64 (Int.fdiv x1 (2 ^ min (Int.toNat (IntKind.wrap IntKind.u64 (IntKind.wrap IntKind.i64 ↑(BitVec.toNat (BitVec.ofInt 64 x3 &&& BitVec.ofInt 64 63))))) 64)))) none (Hint.got 10 7 (AV.lit (Value.int IntKind.i64 (Int.fdiv x2 (2 ^ min (Int.toNat (IntKind.wrap IntKind.u64 (IntKind.wrap IntKind.i64 ↑(BitVec.toNat (BitVec.ofInt 64 x3 &&& BitVec.ofInt 64 63))))) 64)))) none Hint.done)) (Hint.ite Hint.done Hint.dead)))) (Hint.go (Hint.go (Hint.go (Hint.ite Hint.dead (Hint.ite (Hint.go (Hint.go (Hint.ite Hint.done (Hint.ite (Hint.go (Hint.go (Hint.go (Hint.ite (Hint.got 16 3 (AV.lit (Value.int IntKind.i64 (Int.fdiv x1 (2 ^ min (Int.toNat (IntKind.wrap IntKind.u64 (IntKind.wrap IntKind.i64 ↑(BitVec.toNat (BitVec.ofInt 64 x3 &&& BitVec.ofInt 64 63))))) 64)))) none (Hint.got 16 7 (AV.lit (Value.int IntKind.i64 (Int.fdiv x2 (2 ^ min (Int.toNat (IntKind.wrap IntKind.u64 (IntKind.wrap IntKind.i64 ↑(BitVec.toNat (BitVec.ofInt 64 x3 &&& BitVec.ofInt 64 63))))) 64)))) none Hint.done)) (Hint.ite (Hint.got 18 2 (AV.lit (Value.int IntKind.i64 (IntKind.wrap IntKind.i64 (1 * 2 ^ min (Int.toNat (IntKind.wrap IntKind.u64 (64 - IntKind.wrap IntKind.u64 (IntKind.wrap IntKind.i64 ↑(BitVec.toNat (BitVec.ofInt 64 x3 &&& BitVec.ofInt 64 63)))))) 64)))) none Hint.done) Hint.dead))))) Hint.dead)))) (Hint.go (Hint.go (Hint.go (Hint.ite Hint.dead (Hint.go (Hint.go (Hint.go (Hint.go (Hint.ite Hint.dead (Hint.ite Hint.done Hint.done))))))))))))))))))))) ?_
    rw [tree81]
    exact ⟨fun h0 => ⟨fun h1 => ⟨(bin_shl (wrap_u64_nonneg _)), ⟨(bin_shl (wrap_u64_nonneg _)), ⟨(bin_shr (wrap_u64_nonneg _)), ⟨fun h2 => (by simp only [F81r0, F81r1, h0, h1, h2, cond_true]; kernel_rfl), fun h2 => ⟨(bin_shr (wrap_u64_nonneg _)), ⟨fun h3 => (by simp only [F81r0, F81r1, h0, h1, h2, h3, cond_true, cond_false]; kernel_rfl), fun h3 => (by simp only [F81r0, F81r1, h0, h1, h2, h3, cond_true, cond_false]; kernel_rfl)⟩⟩⟩⟩⟩⟩, fun h1 => ⟨fun _ => (by simp only [F81r0, F81r1, h0, h1, cond_true, cond_false]; kernel_rfl), fun h2 => (nomatch (h0.symm.trans h2))⟩⟩, fun h0 => ⟨fun h1 => (nomatch (h1.symm.trans h0)), fun _ => ⟨fun h2 => ⟨fun h3 => ⟨(bin_shr (wrap_u64_nonneg _)), ⟨(bin_shr (wrap_u64_nonneg _)), (by simp only [F81r0, F81r1, h0, h2, h3, cond_true, cond_false]; kernel_rfl)⟩⟩, fun h3 => ⟨fun _ => (by simp only [F81r0, F81r1, h0, h2, h3, cond_true, cond_false]; kernel_rfl), fun h4 => (nomatch (h2.symm.trans h4))⟩⟩, fun h2 => ⟨fun h3 => (nomatch (h3.symm.trans h2)), fun _ => ⟨fun h4 => ⟨fun h5 => (by simp only [F81r0, F81r1, h0, h2, h4, h5, cond_true, cond_false]; kernel_rfl), fun h5 => ⟨fun _ => ⟨fun h7 => ⟨(bin_shr (wrap_u64_nonneg _)), ⟨(bin_shr (wrap_u64_nonneg _)), (by simp only [F81r0, F81r1, h0, h2, h4, h5, h7, cond_true, cond_false]; kernel_rfl)⟩⟩, fun h7 => ⟨fun _ => ⟨(bin_shl (wrap_u64_nonneg _)), (by simp only [F81r0, F81r1, h0, h2, h4, h5, h7, cond_true, cond_false]; kernel_rfl)⟩, fun h8 => (nomatch (h4.symm.trans h8))⟩⟩, fun h6 => (nomatch (h4.symm.trans h6))⟩⟩, fun h4 => ⟨fun h5 => (nomatch (h5.symm.trans h4)), fun _ => ⟨fun h6 => (nomatch (h6.symm.trans h4)), fun _ => ⟨fun h7 => (by simp only [F81r0, F81r1, h0, h2, h4, h7, cond_true, cond_false]; kernel_rfl), fun h7 => (by simp only [F81r0, F81r1, h0, h2, h4, h7, cond_false]; kernel_rfl)⟩⟩⟩⟩⟩⟩⟩⟩
  · cases h

def sp33 : CallT := table [(35, S35), (40, S40), (70, S70), (72, S72), (71, S71), (73, S73), (74, S74), (75, S75), (76, S76), (77, S77), (78, S78), (79, S79), (80, S80), (81, S81), (82, S82)]
theorem sp33_ok : SpecOk Go.Vm.G sp33 := SpecOk.cons ok35 (SpecOk.cons ok40 (SpecOk.cons ok70 (SpecOk.cons ok72 (SpecOk.cons ok71 (SpecOk.cons ok73 (SpecOk.cons ok74 (SpecOk.cons ok75 (SpecOk.cons ok76 (SpecOk.cons ok77 (SpecOk.cons ok78 (SpecOk.cons ok79 (SpecOk.cons ok80 (SpecOk.cons ok81 (SpecOk.cons ok82 (SpecOk.nil)))))))))))))))
/-! "fulling/interval.Binary" -/
def F33r0 (x0 : Int) (x1 : Int) (x2 : Int) (x3 : Int) (x4 : Int) : Int := (bif decide (x0 < 4) then -9223372036854775808 else (bif decide (x0 > 19) then -9223372036854775808 else (bif !F35r0 x1 x2 then -9223372036854775808 else (bif !F35r0 x3 x4 then -9223372036854775808 else (bif F70r0 x1 x2 then (bif F70r0 x3 x4 then F71r0 (F72r0 x0 x1 x3) else (bif x0 == 4 then F73ar0 x1 x3 x2 x4 else (bif x0 == 5 then F73br0 x1 x4 x2 x3 else (bif x0 == 6 then F76ar0 x1 x2 x3 x4 else (bif x0 == 7 then (bif decide (x3 < 1) then -9223372036854775808 else F76br0 x1 x2 x3 x4) else (bif x0 == 8 then F79r0 x1 x2 x3 x4 else (bif x0 == 9 then F80r0 x0 x1 x2 x3 x4 else (bif x0 == 10 then F80r0 x0 x1 x2 x3 x4 else (bif x0 == 11 then F80r0 x0 x1 x2 x3 x4 else (bif x0 == 12 then F81r0 x0 x1 x2 x3 x4 else (bif x0 == 13 then F81r0 x0 x1 x2 x3 x4 else (bif x0 == 14 then F81r0 x0 x1 x2 x3 x4 else F82r0 x0 x1 x2 x3 x4)))))))))))) else (bif x0 == 4 then F73ar0 x1 x3 x2 x4 else (bif x0 == 5 then F73br0 x1 x4 x2 x3 else (bif x0 == 6 then F76ar0 x1 x2 x3 x4 else (bif x0 == 7 then (bif decide (x3 < 1) then -9223372036854775808 else F76br0 x1 x2 x3 x4) else (bif x0 == 8 then F79r0 x1 x2 x3 x4 else (bif x0 == 9 then F80r0 x0 x1 x2 x3 x4 else (bif x0 == 10 then F80r0 x0 x1 x2 x3 x4 else (bif x0 == 11 then F80r0 x0 x1 x2 x3 x4 else (bif x0 == 12 then F81r0 x0 x1 x2 x3 x4 else (bif x0 == 13 then F81r0 x0 x1 x2 x3 x4 else (bif x0 == 14 then F81r0 x0 x1 x2 x3 x4 else F82r0 x0 x1 x2 x3 x4))))))))))))))))
def F33r1 (x0 : Int) (x1 : Int) (x2 : Int) (x3 : Int) (x4 : Int) : Int := (bif decide (x0 < 4) then 9223372036854775807 else (bif decide (x0 > 19) then 9223372036854775807 else (bif !F35r0 x1 x2 then 9223372036854775807 else (bif !F35r0 x3 x4 then 9223372036854775807 else (bif F70r0 x1 x2 then (bif F70r0 x3 x4 then F71r1 (F72r0 x0 x1 x3) else (bif x0 == 4 then F73ar1 x1 x3 x2 x4 else (bif x0 == 5 then F73br1 x1 x4 x2 x3 else (bif x0 == 6 then F76ar1 x1 x2 x3 x4 else (bif x0 == 7 then (bif decide (x3 < 1) then 9223372036854775807 else F76br1 x1 x2 x3 x4) else (bif x0 == 8 then F79r1 x1 x2 x3 x4 else (bif x0 == 9 then F80r1 x0 x1 x2 x3 x4 else (bif x0 == 10 then F80r1 x0 x1 x2 x3 x4 else (bif x0 == 11 then F80r1 x0 x1 x2 x3 x4 else (bif x0 == 12 then F81r1 x0 x1 x2 x3 x4 else (bif x0 == 13 then F81r1 x0 x1 x2 x3 x4 else (bif x0 == 14 then F81r1 x0 x1 x2 x3 x4 else F82r1 x0 x1 x2 x3 x4)))))))))))) else (bif x0 == 4 then F73ar1 x1 x3 x2 x4 else (bif x0 == 5 then F73br1 x1 x4 x2 x3 else (bif x0 == 6 then F76ar1 x1 x2 x3 x4 else (bif x0 == 7 then (bif decide (x3 < 1) then 9223372036854775807 else F76br1 x1 x2 x3 x4) else (bif x0 == 8 then F79r1 x1 x2 x3 x4 else (bif x0 == 9 then F80r1 x0 x1 x2 x3 x4 else (bif x0 == 10 then F80r1 x0 x1 x2 x3 x4 else (bif x0 == 11 then F80r1 x0 x1 x2 x3 x4 else (bif x0 == 12 then F81r1 x0 x1 x2 x3 x4 else (bif x0 == 13 then F81r1 x0 x1 x2 x3 x4 else (bif x0 == 14 then F81r1 x0 x1 x2 x3 x4 else F82r1 x0 x1 x2 x3 x4))))))))))))))))
def S33 : Spec
  | [.lit (.int .i64 x0), .agg [.lit (.int .i64 x1), .lit (.int .i64 x2)], .agg [.lit (.int .i64 x3), .lit (.int .i64 x4)]], s => some (.agg [.lit (.int .i64 (F33r0 x0 x1 x2 x3 x4)), .lit (.int .i64 (F33r1 x0 x1 x2 x3 x4))], s)
  | _, _ => none
theorem tree33 (x0 : Int) (x1 : Int) (x2 : Int) (x3 : Int) (x4 : Int) (Q : AV → St → Prop) : funP Go.Vm.G sp33 33 [.lit (.int .i64 x0), .agg [.lit (.int .i64 x1), .lit (.int .i64 x2)], .agg [.lit (.int .i64 x3), .lit (.int .i64 x4)]] St.nil (Hint.ite (Hint.go (Hint.go (Hint.go (Hint.go (Hint.go (Hint.go (Hint.go (Hint.go (Hint.go (Hint.go (Hint.go Hint.done))))))))))) (Hint.go (Hint.go (Hint.ite (Hint.go (Hint.go (Hint.go (Hint.go (Hint.go (Hint.go (Hint.go (Hint.go Hint.done)))))))) (Hint.go (Hint.go (Hint.go (Hint.ite (Hint.go (Hint.go (Hint.go (Hint.go Hint.done)))) (Hint.go (Hint.go (Hint.go (Hint.ite Hint.done (Hint.ite (Hint.go (Hint.go (Hint.ite Hint.done (Hint.ite Hint.done (Hint.ite Hint.done (Hint.ite Hint.done (Hint.ite (Hint.ite Hint.done (Hint.got 15 2 (AV.agg [AV.lit (Value.int IntKind.i64 (F76br0 x1 x2 x3 x4)), AV.lit (Value.int IntKind.i64 (F76br1 x1 x2 x3 x4))]) none Hint.done)) (Hint.ite Hint.done (Hint.ite (Hint.go Hint.done) (Hint.ite (Hint.go Hint.done) (Hint.ite Hint.done (Hint.ite (Hint.go Hint.done) (Hint.ite (Hint.go Hint.done) (Hint.ite Hint.done Hint.done)))))))))))))) (Hint.go (Hint.go (Hint.go (Hint.ite Hint.done (Hint.ite Hint.done (Hint.ite Hint.done (Hint.ite (Hint.ite Hint.done (Hint.got 15 2 (AV.agg [AV.lit (Value.int IntKind.i64 (F76br0 x1 x2 x3 x4)), AV.lit (Value.int IntKind.i64 (F76br1 x1 x2 x3 x4))]) none Hint.done)) (Hint.ite Hint.done (Hint.ite (Hint.go Hint.done) (Hint.ite (Hint.go Hint.done) (Hint.ite Hint.done (Hint.ite (Hint.go Hint.done) (Hint.ite (Hint.go Hint.done) (Hint.ite Hint.done Hint.done))))))))))))))))))))))))))) Q = ((decide (x0 < 4) = true → Q (AV.agg [AV.lit (Value.int IntKind.i64 (-9223372036854775808)), AV.lit (Value.int IntKind.i64 9223372036854775807)]) (St.mk 0 0 Tr.nil)) ∧ (decide (x0 < 4) = false → (decide (x0 > 19) = true → Q (AV.agg [AV.lit (Value.int IntKind.i64 (-9223372036854775808)), AV.lit (Value.int IntKind.i64 9223372036854775807)]) (St.mk 0 0 Tr.nil)) ∧ (decide (x0 > 19) = false → ((!F35r0 x1 x2) = true → Q (AV.agg [AV.lit (Value.int IntKind.i64 (-9223372036854775808)), AV.lit (Value.int IntKind.i64 9223372036854775807)]) (St.mk 0 0 Tr.nil)) ∧ ((!F35r0 x1 x2) = false → ((!F35r0 x3 x4) = true → Q (AV.agg [AV.lit (Value.int IntKind.i64 (-9223372036854775808)), AV.lit (Value.int IntKind.i64 9223372036854775807)]) (St.mk 0 0 Tr.nil)) ∧ ((!F35r0 x3 x4) = false → (F70r0 x1 x2 = true → (F70r0 x3 x4 = true → Q (AV.agg [AV.lit (Value.int IntKind.i64 (F71r0 (F72r0 x0 x1 x3))), AV.lit (Value.int IntKind.i64 (F71r1 (F72r0 x0 x1 x3)))]) (St.mk 0 0 Tr.nil)) ∧ (F70r0 x3 x4 = false → ((x0 == 4) = true → Q (AV.agg [AV.lit (Value.int IntKind.i64 (F73ar0 x1 x3 x2 x4)), AV.lit (Value.int IntKind.i64 (F73ar1 x1 x3 x2 x4))]) (St.mk 0 0 Tr.nil)) ∧ ((x0 == 4) = false → ((x0 == 5) = true → Q (AV.agg [AV.lit (Value.int IntKind.i64 (F73br0 x1 x4 x2 x3)), AV.lit (Value.int IntKind.i64 (F73br1 x1 x4 x2 x3))]) (St.mk 0 0 Tr.nil)) ∧ ((x0 == 5) = false → ((x0 == 6) = true → Q (AV.agg [AV.lit (Value.int IntKind.i64 (F76ar0 x1 x2 x3 x4)), AV.lit (Value.int IntKind.i64 (F76ar1 x1 x2 x3 x4))]) (St.mk 0 0 Tr.nil)) ∧ ((x0 == 6) = false → ((x0 == 7) = true → (decide (x3 < 1) = true → Q (AV.agg [AV.lit (Value.int IntKind.i64 (-9223372036854775808)), AV.lit (Value.int IntKind.i64 9223372036854775807)]) (St.mk 0 0 Tr.nil)) ∧ (decide (x3 < 1) = false → Runs G 76 [AV.agg [AV.lit (Value.int IntKind.i64 x1), AV.lit (Value.int IntKind.i64 x2)], AV.agg [AV.lit (Value.int IntKind.i64 x3), AV.lit (Value.int IntKind.i64 x4)], AV.fn 78 []] (St.mk 0 0 Tr.nil) (AV.agg [AV.lit (Value.int IntKind.i64 (F76br0 x1 x2 x3 x4)), AV.lit (Value.int IntKind.i64 (F76br1 x1 x2 x3 x4))]) (St.mk 0 0 Tr.nil) ∧ Q (AV.agg [AV.lit (Value.int IntKind.i64 (F76br0 x1 x2 x3 x4)), AV.lit (Value.int IntKind.i64 (F76br1 x1 x2 x3 x4))]) (St.mk 0 0 Tr.nil))) ∧ ((x0 == 7) = false → ((x0 == 8) = true → Q (AV.agg [AV.lit (Value.int IntKind.i64 (F79r0 x1 x2 x3 x4)), AV.lit (Value.int IntKind.i64 (F79r1 x1 x2 x3 x4))]) (St.mk 0 0 Tr.nil)) ∧ ((x0 == 8) = false → ((x0 == 9) = true → Q (AV.agg [AV.lit (Value.int IntKind.i64 (F80r0 x0 x1 x2 x3 x4)), AV.lit (Value.int IntKind.i64 (F80r1 x0 x1 x2 x3 x4))]) (St.mk 0 0 Tr.nil)) ∧ ((x0 == 9) = false → ((x0 == 10) = true → Q (AV.agg [AV.lit (Value.int IntKind.i64 (F80r0 x0 x1 x2 x3 x4)), AV.lit (Value.int IntKind.i64 (F80r1 x0 x1 x2 x3 x4))]) (St.mk 0 0 Tr.nil)) ∧ ((x0 == 10) = false → ((x0 == 11) = true → Q (AV.agg [AV.lit (Value.int IntKind.i64 (F80r0 x0 x1 x2 x3 x4)), AV.lit (Value.int IntKind.i64 (F80r1 x0 x1 x2 x3 x4))]) (St.mk 0 0 Tr.nil)) ∧ ((x0 == 11) = false → ((x0 == 12) = true → Q (AV.agg [AV.lit (Value.int IntKind.i64 (F81r0 x0 x1 x2 x3 x4)), AV.lit (Value.int IntKind.i64 (F81r1 x0 x1 x2 x3 x4))]) (St.mk 0 0 Tr.nil)) ∧ ((x0 == 12) = false → ((x0 == 13) = true → Q (AV.agg [AV.lit (Value.int IntKind.i64 (F81r0 x0 x1 x2 x3 x4)), AV.lit (Value.int IntKind.i64 (F81r1 x0 x1 x2 x3 x4))]) (St.mk 0 0 Tr.nil)) ∧ ((x0 == 13) = false → ((x0 == 14) = true → Q (AV.agg [AV.lit (Value.int IntKind.i64 (F81r0 x0 x1 x2 x3 x4)), AV.lit (Value.int IntKind.i64 (F81r1 x0 x1 x2 x3 x4))]) (St.mk 0 0 Tr.nil)) ∧ ((x0 == 14) = false → Q (AV.agg [AV.lit (Value.int IntKind.i64 (F82r0 x0 x1 x2 x3 x4)), AV.lit (Value.int IntKind.i64 (F82r1 x0 x1 x2 x3 x4))]) (St.mk 0 0 Tr.nil)))))))))))))) ∧ (F70r0 x1 x2 = false → ((x0 == 4) = true → Q (AV.agg [AV.lit (Value.int IntKind.i64 (F73ar0 x1 x3 x2 x4)), AV.lit (Value.int IntKind.i64 (F73ar1 x1 x3 x2 x4))]) (St.mk 0 0 Tr.nil)) ∧ ((x0 == 4) = false → ((x0 == 5) = true → Q (AV.agg [AV.lit (Value.int IntKind.i64 (F73br0 x1 x4 x2 x3)), AV.lit (Value.int IntKind.i64 (F73br1 x1 x4 x2 x3))]) (St.mk 0 0 Tr.nil)) ∧ ((x0 == 5) = false → ((x0 == 6) = true → Q (AV.agg [AV.lit (Value.int IntKind.i64 (F76ar0 x1 x2 x3 x4)), AV.lit (Value.int IntKind.i64 (F76ar1 x1 x2 x3 x4))]) (St.mk 0 0 Tr.nil)) ∧ ((x0 == 6) = false → ((x0 == 7) = true → (decide (x3 < 1) = true → Q (AV.agg [AV.lit (Value.int IntKind.i64 (-9223372036854775808)), AV.lit (Value.int IntKind.i64 9223372036854775807)]) (St.mk 0 0 Tr.nil)) ∧ (decide (x3 < 1) = false → Runs G 76 [AV.agg [AV.lit (Value.int IntKind.i64 x1), AV.lit (Value.int IntKind.i64 x2)], AV.agg [AV.lit (Value.int IntKind.i64 x3), AV.lit (Value.int IntKind.i64 x4)], AV.fn 78 []] (St.mk 0 0 Tr.nil) (AV.agg [AV.lit (Value.int IntKind.i64 (F76br0 x1 x2 x3 x4)), AV.lit (Value.int IntKind.i64 (F76br1 x1 x2 x3 x4))]) (St.mk 0 0 Tr.nil) ∧ Q (AV.agg [AV.lit (Value.int IntKind.i64 (F76br0 x1 x2 x3 x4)), AV.lit (Value.int IntKind.i64 (F76br1 x1 x2 x3 x4))]) (St.mk 0 0 Tr.nil))) ∧ ((x0 == 7) = false → ((x0 == 8) = true → Q (AV.agg [AV.lit (Value.int IntKind.i64 (F79r0 x1 x2 x3 x4)), AV.lit (Value.int IntKind.i64 (F79r1 x1 x2 x3 x4))]) (St.mk 0 0 Tr.nil)) ∧ ((x0 == 8) = false → ((x0 == 9) = true → Q (AV.agg [AV.lit (Value.int IntKind.i64 (F80r0 x0 x1 x2 x3 x4)), AV.lit (Value.int IntKind.i64 (F80r1 x0 x1 x2 x3 x4))]) (St.mk 0 0 Tr.nil)) ∧ ((x0 == 9) = false → ((x0 == 10) = true → Q (AV.agg [AV.lit (Value.int IntKind.i64 (F80r0 x0 x1 x2 x3 x4)), AV.lit (Value.int IntKind.i64 (F80r1 x0 x1 x2 x3 x4))]) (St.mk 0 0 Tr.nil)) ∧ ((x0 == 10) = false → ((x0 == 11) = true → Q (AV.agg [AV.lit (Value.int IntKind.i64 (F80r0 x0 x1 x2 x3 x4)), AV.lit (Value.int IntKind.i64 (F80r1 x0 x1 x2 x3 x4))]) (St.mk 0 0 Tr.nil)) ∧ ((x0 == 11) = false → ((x0 == 12) = true → Q (AV.agg [AV.lit (Value.int IntKind.i64 (F81r0 x0 x1 x2 x3 x4)), AV.lit (Value.int IntKind.i64 (F81r1 x0 x1 x2 x3 x4))]) (St.mk 0 0 Tr.nil)) ∧ ((x0 == 12) = false → ((x0 == 13) = true → Q (AV.agg [AV.lit (Value.int IntKind.i64 (F81r0 x0 x1 x2 x3 x4)), AV.lit (Value.int IntKind.i64 (F81r1 x0 x1 x2 x3 x4))]) (St.mk 0 0 Tr.nil)) ∧ ((x0 == 13) = false → ((x0 == 14) = true → Q (AV.agg [AV.lit (Value.int IntKind.i64 (F81r0 x0 x1 x2 x3 x4)), AV.lit (Value.int IntKind.i64 (F81r1 x0 x1 x2 x3 x4))]) (St.mk 0 0 Tr.nil)) ∧ ((x0 == 14) = false → Q (AV.agg [AV.lit (Value.int IntKind.i64 (F82r0 x0 x1 x2 x3 x4)), AV.lit (Value.int IntKind.i64 (F82r1 x0 x1 x2 x3 x4))]) (St.mk 0 0 Tr.nil)))))))))))))))))) := by kernel_rfl
theorem ok33 : Ok Go.Vm.G 33 S33 := by
  intro args s v s' h
  unfold S33 at h
  split at h
  · skip
    rename_i x0 x1 x2 x3 x4
    injection h with h; injection h with h1 h2; subst h1; subst h2
    refine runs_of_alone sp33_ok rfl (args' := [.lit (.int .i64 x0), .agg [.lit (.int .i64 x1), .lit (.int .i64 x2)], .agg [.lit (.int .i64 x3), .lit (.int .i64 x4)]]) (by kernel_rfl) (h := Hint.ite (Hint.go (Hint.go (Hint.go (Hint.go (Hint.go (Hint.go (Hint.go (Hint.go (Hint.go (Hint.go (Hint.go Hint.done))))))))))) (Hint.go (Hint.go (Hint.ite (Hint.go (Hint.go (Hint.go (Hint.go (Hint.go (Hint.go (Hint.go (Hint.go Hint.done)))))))) (Hint.go (Hint.go (Hint.go (Hint.ite (Hint.go (Hint.go (Hint.go (Hint.go Hint.done)))) (Hint.go (Hint.go (Hint.go (Hint.ite Hint.done (Hint.ite (Hint.go (Hint.go (Hint.ite Hint.done (Hint.ite Hint.done (Hint.ite Hint.done (Hint.ite Hint.done (Hint.ite (Hint.ite Hint.done (Hint.got 15 2 (AV.agg [AV.lit (Value.int IntKind.i64 (F76br0 x1 x2 x3 x4)), AV.lit (Value.int IntKind.i64 (F76br1 x1 x2 x3 x4))]) none Hint.done)) (Hint.ite Hint.done (Hint.ite (Hint.go Hint.done) (Hint.ite (Hint.go Hint.done) (Hint.ite Hint.done (Hint.ite (Hint.go Hint.done) (Hint.ite (Hint.go Hint.done) (Hint.ite Hint.done Hint.done)))))))))))))) (Hint.go (Hint.go (Hint.go (Hint.ite Hint.done (Hint.ite Hint.done (Hint.ite Hint.done (Hint.ite (Hint.ite Hint.done (Hint.got 15 2 (AV.agg [AV.lit (Value.int IntKind.i64 (F76br0 x1 x2 x3 x4)), AV.lit (Value.int IntKind.i64 (F76br1 x1 x2 x3 x4))]) none Hint.done)) (Hint.ite Hint.done (Hint.ite (Hint.go Hint.done) (Hint.ite (Hint.go Hint.done) (Hint.ite Hint.done (Hint.ite (Hint.go Hint.done) (Hint.ite (Hint.go Hint.done) (Hint.ite Hint.done Hint.done))))))))))))))))))))))))))) ?_
    rw [tree33]
    exact ⟨fun h0 => (by simp only [F33r0, F33r1, h0, cond_true]; kernel_rfl), fun h0 => ⟨fun h1 => (by simp only [F33r0, F33r1, h0, h1, cond_true, cond_false]; kernel_rfl), fun h1 => ⟨fun h2 => (by simp only [F33r0, F33r1, h0, h1, h2, cond_true, cond_false]; kernel_rfl), fun h2 => ⟨fun h3 => (by simp only [F33r0, F33r1, h0, h1, h2, h3, cond_true, cond_false]; kernel_rfl), fun h3 => ⟨fun h4 => ⟨fun h5 => (by simp only [F33r0, F33r1, h0, h1, h2, h3, h4, h5, cond_true, cond_false]; kernel_rfl), fun h5 => ⟨fun h6 => (by simp only [F33r0, F33r1, h0, h1, h2, h3, h4, h5, h6, cond_true, cond_false]; kernel_rfl), fun h6 => ⟨fun h7 => (by simp only [F33r0, F33r1, h0, h1, h2, h3, h4, h5, h6, h7, cond_true, cond_false]; kernel_rfl), fun h7 => ⟨fun h8 => (by simp only [F33r0, F33r1, h0, h1, h2, h3, h4, h5, h6, h7, h8, cond_true, cond_false]; kernel_rfl), fun h8 => ⟨fun h9 => ⟨fun h10 => (by simp only [F33r0, F33r1, h0, h1, h2, h3, h4, h5, h6, h7, h8, h9, h10, cond_true, cond_false]; kernel_rfl), fun h10 => ⟨(ok76b _ _ _ _ (gate_true (by simp [F35r0] at *; omega))), (by simp only [F33r0, F33r1, h0, h1, h2, h3, h4, h5, h6, h7, h8, h9, h10, cond_true, cond_false]; kernel_rfl)⟩⟩, fun h9 => ⟨fun h10 => (by simp only [F33r0, F33r1, h0, h1, h2, h3, h4, h5, h6, h7, h8, h9, h10, cond_true, cond_false]; kernel_rfl), fun h10 => ⟨fun h11 => (by simp only [F33r0, F33r1, h0, h1, h2, h3, h4, h5, h6, h7, h8, h9, h10, h11, cond_true, cond_false]; kernel_rfl), fun h11 => ⟨fun h12 => (by simp only [F33r0, F33r1, h0, h1, h2, h3, h4, h5, h6, h7, h8, h9, h10, h11, h12, cond_true, cond_false]; kernel_rfl), fun h12 => ⟨fun h13 => (by simp only [F33r0, F33r1, h0, h1, h2, h3, h4, h5, h6, h7, h8, h9, h10, h11, h12, h13, cond_true, cond_false]; kernel_rfl), fun h13 => ⟨fun h14 => (by simp only [F33r0, F33r1, h0, h1, h2, h3, h4, h5, h6, h7, h8, h9, h10, h11, h12, h13, h14, cond_true, cond_false]; kernel_rfl), fun h14 => ⟨fun h15 => (by simp only [F33r0, F33r1, h0, h1, h2, h3, h4, h5, h6, h7, h8, h9, h10, h11, h12, h13, h14, h15, cond_true, cond_false]; kernel_rfl), fun h15 => ⟨fun h16 => (by simp only [F33r0, F33r1, h0, h1, h2, h3, h4, h5, h6, h7, h8, h9, h10, h11, h12, h13, h14, h15, h16, cond_true, cond_false]; kernel_rfl), fun h16 => (by simp only [F33r0, F33r1, h0, h1, h2, h3, h4, h5, h6, h7, h8, h9, h10, h11, h12, h13, h14, h15, h16, cond_true, cond_false]; kernel_rfl)⟩⟩⟩⟩⟩⟩⟩⟩⟩⟩⟩⟩, fun h4 => ⟨fun h5 => (by simp only [F33r0, F33r1, h0, h1, h2, h3, h4, h5, cond_true, cond_false]; kernel_rfl), fun h5 => ⟨fun h6 => (by simp only [F33r0, F33r1, h0, h1, h2, h3, h4, h5, h6, cond_true, cond_false]; kernel_rfl), fun h6 => ⟨fun h7 => (by simp only [F33r0, F33r1, h0, h1, h2, h3, h4, h5, h6, h7, cond_true, cond_false]; kernel_rfl), fun h7 => ⟨fun h8 => ⟨fun h9 => (by simp only [F33r0, F33r1, h0, h1, h2, h3, h4, h5, h6, h7, h8, h9, cond_true, cond_false]; kernel_rfl), fun h9 => ⟨(ok76b _ _ _ _ (gate_true (by simp [F35r0] at *; omega))), (by simp only [F33r0, F33r1, h0, h1, h2, h3, h4, h5, h6, h7, h8, h9, cond_true, cond_false]; kernel_rfl)⟩⟩, fun h8 => ⟨fun h9 => (by simp only [F33r0, F33r1, h0, h1, h2, h3, h4, h5, h6, h7, h8, h9, cond_true, cond_false]; kernel_rfl), fun h9 => ⟨fun h10 => (by simp only [F33r0, F33r1, h0, h1, h2, h3, h4, h5, h6, h7, h8, h9, h10, cond_true, cond_false]; kernel_rfl), fun h10 => ⟨fun h11 => (by simp only [F33r0, F33r1, h0, h1, h2, h3, h4, h5, h6, h7, h8, h9, h10, h11, cond_true, cond_false]; kernel_rfl), fun h11 => ⟨fun h12 => (by simp only [F33r0, F33r1, h0, h1, h2, h3, h4, h5, h6, h7, h8, h9, h10, h11, h12, cond_true, cond_false]; kernel_rfl), fun h12 => ⟨fun h13 => (by simp only [F33r0, F33r1, h0, h1, h2, h3, h4, h5, h6, h7, h8, h9, h10, h11, h12, h13, cond_true, cond_false]; kernel_rfl), fun h13 => ⟨fun h14 => (by simp only [F33r0, F33r1, h0, h1, h2, h3, h4, h5, h6, h7, h8, h9, h10, h11, h12, h13, h14, cond_true, cond_false]; kernel_rfl), fun h14 => ⟨fun h15 => (by simp only [F33r0, F33r1, h0, h1, h2, h3, h4, h5, h6, h7, h8, h9, h10, h11, h12, h13, h14, h15, cond_true, cond_false]; kernel_rfl), fun h15 => (by simp only [F33r0, F33r1, h0, h1, h2, h3, h4, h5, h6, h7, h8, h9, h10, h11, h12, h13, h14, h15, cond_false]; kernel_rfl)⟩⟩⟩⟩⟩⟩⟩⟩⟩⟩⟩⟩⟩⟩⟩⟩
  · cases h

def sp42 : CallT := table [(35, S35), (40, S40), (70, S70), (85, S85), (71, S71)]
theorem sp42_ok : SpecOk Go.Vm.G sp42 := SpecOk.cons ok35 (SpecOk.cons ok40 (SpecOk.cons ok70 (SpecOk.cons ok85 (SpecOk.cons ok71 (SpecOk.nil)))))
/-! "fulling/interval.Unary" -/
def F42r0 (x0 : Int) (x1 : Int) (x2 : Int) : Int := (bif x0 != 20 then (bif x0 != 21 then -9223372036854775808 else (bif !F35r0 x1 x2 then -9223372036854775808 else (bif F70r0 x1 x2 then F71r0 (F85r0 x0 x1) else (bif x0 == 21 then IntKind.wrap IntKind.i64 ↑(BitVec.toNat (BitVec.ofInt 64 (-1) ^^^ BitVec.ofInt 64 x2)) else (bif x1 == -9223372036854775808 then -9223372036854775808 else IntKind.wrap IntKind.i64 (0 - x2)))))) else (bif !F35r0 x1 x2 then -9223372036854775808 else (bif F70r0 x1 x2 then F71r0 (F85r0 x0 x1) else (bif x0 == 21 then IntKind.wrap IntKind.i64 ↑(BitVec.toNat (BitVec.ofInt 64 (-1) ^^^ BitVec.ofInt 64 x2)) else (bif x1 == -9223372036854775808 then -9223372036854775808 else IntKind.wrap IntKind.i64 (0 - x2))))))
def F42r1 (x0 : Int) (x1 : Int) (x2 : Int) : Int := (bif x0 != 20 then (bif x0 != 21 then 9223372036854775807 else (bif !F35r0 x1 x2 then 9223372036854775807 else (bif F70r0 x1 x2 then F71r1 (F85r0 x0 x1) else (bif x0 == 21 then IntKind.wrap IntKind.i64 ↑(BitVec.toNat (BitVec.ofInt 64 (-1) ^^^ BitVec.ofInt 64 x1)) else (bif x1 == -9223372036854775808 then 9223372036854775807 else IntKind.wrap IntKind.i64 (0 - x1)))))) else (bif !F35r0 x1 x2 then 9223372036854775807 else (bif F70r0 x1 x2 then F71r1 (F85r0 x0 x1) else (bif x0 == 21 then IntKind.wrap IntKind.i64 ↑(BitVec.toNat (BitVec.ofInt 64 (-1) ^^^ BitVec.ofInt 64 x1)) else (bif x1 == -9223372036854775808 then 9223372036854775807 else IntKind.wrap IntKind.i64 (0 - x1))))))
def S42 : Spec
  | [.lit (.int .i64 x0), .agg [.lit (.int .i64 x1), .lit (.int .i64 x2)]], s => some (.agg [.lit (.int .i64 (F42r0 x0 x1 x2)), .lit (.int .i64 (F42r1 x0 x1 x2))], s)
  | _, _ => none
theorem tree42 (x0 : Int) (x1 : Int) (x2 : Int) (Q : AV → St → Prop) : funP Go.Vm.G sp42 42 [.lit (.int .i64 x0), .agg [.lit (.int .i64 x1), .lit (.int .i64 x2)]] St.nil (Hint.ite (Hint.go (Hint.go (Hint.ite (Hint.go (Hint.go (Hint.go (Hint.go Hint.done)))) (Hint.go (Hint.go (Hint.go (Hint.ite Hint.done (Hint.ite Hint.done (Hint.ite Hint.done (Hint.ite Hint.done Hint.done)))))))))) (Hint.go (Hint.go (Hint.go (Hint.go (Hint.go (Hint.go (Hint.ite Hint.done (Hint.ite Hint.done (Hint.ite Hint.done (Hint.ite Hint.done Hint.done))))))))))) Q = (((x0 != 20) = true → ((x0 != 21) = true → Q (AV.agg [AV.lit (Value.int IntKind.i64 (-9223372036854775808)), AV.lit (Value.int IntKind.i64 9223372036854775807)]) (St.mk 0 0 Tr.nil)) ∧ ((x0 != 21) = false → ((!F35r0 x1 x2) = true → Q (AV.agg [AV.lit (Value.int IntKind.i64 (-9223372036854775808)), AV.lit (Value.int IntKind.i64 9223372036854775807)]) (St.mk 0 0 Tr.nil)) ∧ ((!F35r0 x1 x2) = false → (F70r0 x1 x2 = true → Q (AV.agg [AV.lit (Value.int IntKind.i64 (F71r0 (F85r0 x0 x1))), AV.lit (Value.int IntKind.i64 (F71r1 (F85r0 x0 x1)))]) (St.mk 0 0 Tr.nil)) ∧ (F70r0 x1 x2 = false → ((x0 == 21) = true → Q (AV.agg [AV.lit (Value.int IntKind.i64 (IntKind.wrap IntKind.i64 ↑(BitVec.toNat (BitVec.ofInt 64 (-1) ^^^ BitVec.ofInt 64 x2)))), AV.lit (Value.int IntKind.i64 (IntKind.wrap IntKind.i64 ↑(BitVec.toNat (BitVec.ofInt 64 (-1) ^^^ BitVec.ofInt 64 x1))))]) (St.mk 0 0 Tr.nil)) ∧ ((x0 == 21) = false → ((x1 == -9223372036854775808) = true → Q (AV.agg [AV.lit (Value.int IntKind.i64 (-9223372036854775808)), AV.lit (Value.int IntKind.i64 9223372036854775807)]) (St.mk 0 0 Tr.nil)) ∧ ((x1 == -9223372036854775808) = false → Q (AV.agg [AV.lit (Value.int IntKind.i64 (IntKind.wrap IntKind.i64 (0 - x2))), AV.lit (Value.int IntKind.i64 (IntKind.wrap IntKind.i64 (0 - x1)))]) (St.mk 0 0 Tr.nil))))))) ∧ ((x0 != 20) = false → ((!F35r0 x1 x2) = true → Q (AV.agg [AV.lit (Value.int IntKind.i64 (-9223372036854775808)), AV.lit (Value.int IntKind.i64 9223372036854775807)]) (St.mk 0 0 Tr.nil)) ∧ ((!F35r0 x1 x2) = false → (F70r0 x1 x2 = true → Q (AV.agg [AV.lit (Value.int IntKind.i64 (F71r0 (F85r0 x0 x1))), AV.lit (Value.int IntKind.i64 (F71r1 (F85r0 x0 x1)))]) (St.mk 0 0 Tr.nil)) ∧ (F70r0 x1 x2 = false → ((x0 == 21) = true → Q (AV.agg [AV.lit (Value.int IntKind.i64 (IntKind.wrap IntKind.i64 ↑(BitVec.toNat (BitVec.ofInt 64 (-1) ^^^ BitVec.ofInt 64 x2)))), AV.lit (Value.int IntKind.i64 (IntKind.wrap IntKind.i64 ↑(BitVec.toNat (BitVec.ofInt 64 (-1) ^^^ BitVec.ofInt 64 x1))))]) (St.mk 0 0 Tr.nil)) ∧ ((x0 == 21) = false → ((x1 == -9223372036854775808) = true → Q (AV.agg [AV.lit (Value.int IntKind.i64 (-9223372036854775808)), AV.lit (Value.int IntKind.i64 9223372036854775807)]) (St.mk 0 0 Tr.nil)) ∧ ((x1 == -9223372036854775808) = false → Q (AV.agg [AV.lit (Value.int IntKind.i64 (IntKind.wrap IntKind.i64 (0 - x2))), AV.lit (Value.int IntKind.i64 (IntKind.wrap IntKind.i64 (0 - x1)))]) (St.mk 0 0 Tr.nil))))))) := by kernel_rfl
theorem ok42 : Ok Go.Vm.G 42 S42 := by
  intro args s v s' h
  unfold S42 at h
  split at h
  · skip
    rename_i x0 x1 x2
    injection h with h; injection h with h1 h2; subst h1; subst h2
    refine runs_of_alone sp42_ok rfl (args' := [.lit (.int .i64 x0), .agg [.lit (.int .i64 x1), .lit (.int .i64 x2)]]) (by kernel_rfl) (h := Hint.ite (Hint.go (Hint.go (Hint.ite (Hint.go (Hint.go (Hint.go (Hint.go Hint.done)))) (Hint.go (Hint.go (Hint.go (Hint.ite Hint.done (Hint.ite Hint.done (Hint.ite Hint.done (Hint.ite Hint.done Hint.done)))))))))) (Hint.go (Hint.go (Hint.go (Hint.go (Hint.go (Hint.go (Hint.ite Hint.done (Hint.ite Hint.done (Hint.ite Hint.done (Hint.ite Hint.done Hint.done))))))))))) ?_
    rw [tree42]
    exact ⟨fun h0 => ⟨fun h1 => (by simp only [F42r0, F42r1, h0, h1, cond_true]; kernel_rfl), fun h1 => ⟨fun h2 => (by simp only [F42r0, F42r1, h0, h1, h2, cond_true, cond_false]; kernel_rfl), fun h2 => ⟨fun h3 => (by simp only [F42r0, F42r1, h0, h1, h2, h3, cond_true, cond_false]; kernel_rfl), fun h3 => ⟨fun h4 => (by simp only [F42r0, F42r1, h0, h1, h2, h3, h4, cond_true, cond_false]; kernel_rfl), fun h4 => ⟨fun h5 => (by simp only [F42r0, F42r1, h0, h1, h2, h3, h4, h5, cond_true, cond_false]; kernel_rfl), fun h5 => (by simp only [F42r0, F42r1, h0, h1, h2, h3, h4, h5, cond_true, cond_false]; kernel_rfl)⟩⟩⟩⟩⟩, fun h0 => ⟨fun h1 => (by simp only [F42r0, F42r1, h0, h1, cond_true, cond_false]; kernel_rfl), fun h1 => ⟨fun h2 => (by simp only [F42r0, F42r1, h0, h1, h2, cond_true, cond_false]; kernel_rfl), fun h2 => ⟨fun h3 => (by simp only [F42r0, F42r1, h0, h1, h2, h3, cond_true, cond_false]; kernel_rfl), fun h3 => ⟨fun h4 => (by simp only [F42r0, F42r1, h0, h1, h2, h3, h4, cond_true, cond_false]; kernel_rfl), fun h4 => (by simp only [F42r0, F42r1, h0, h1, h2, h3, h4, cond_false]; kernel_rfl)⟩⟩⟩⟩⟩
  · cases h

def sp45 : CallT := table [(35, S35), (40, S40), (34, S34), (37, S37)]
theorem sp45_ok : SpecOk Go.Vm.G sp45 := SpecOk.cons ok35 (SpecOk.cons ok40 (SpecOk.cons ok34 (SpecOk.cons ok37 (SpecOk.nil))))
/-! "fulling/interval.Select" -/
def F45r0 (x0 : Int) (x1 : Int) (x2 : Int) (x3 : Int) (x4 : Int) (x5 : Int) : Int := (bif !F35r0 x0 x1 then -9223372036854775808 else (bif !F35r0 x2 x3 then -9223372036854775808 else (bif !F35r0 x4 x5 then -9223372036854775808 else (bif x0 == 0 then (bif x1 == 0 then x4 else (bif !F34r0 x0 x1 0 then x2 else F37r0 x2 x3 x4 x5)) else (bif !F34r0 x0 x1 0 then x2 else F37r0 x2 x3 x4 x5)))))
def F45r1 (x0 : Int) (x1 : Int) (x2 : Int) (x3 : Int) (x4 : Int) (x5 : Int) : Int := (bif !F35r0 x0 x1 then 9223372036854775807 else (bif !F35r0 x2 x3 then 9223372036854775807 else (bif !F35r0 x4 x5 then 9223372036854775807 else (bif x0 == 0 then (bif x1 == 0 then x5 else (bif !F34r0 x0 x1 0 then x3 else F37r1 x2 x3 x4 x5)) else (bif !F34r0 x0 x1 0 then x3 else F37r1 x2 x3 x4 x5)))))
def S45 : Spec
  | [.agg [.lit (.int .i64 x0), .lit (.int .i64 x1)], .agg [.lit (.int .i64 x2), .lit (.int .i64 x3)], .agg [.lit (.int .i64 x4), .lit (.int .i64 x5)]], s => some (.agg [.lit (.int .i64 (F45r0 x0 x1 x2 x3 x4 x5)), .lit (.int .i64 (F45r1 x0 x1 x2 x3 x4 x5))], s)
  | _, _ => none
theorem tree45 (x0 : Int) (x1 : Int) (x2 : Int) (x3 : Int) (x4 : Int) (x5 : Int) (Q : AV → St → Prop) : funP Go.Vm.G sp45 45 [.agg [.lit (.int .i64 x0), .lit (.int .i64 x1)], .agg [.lit (.int .i64 x2), .lit (.int .i64 x3)], .agg [.lit (.int .i64 x4), .lit (.int .i64 x5)]] St.nil (Hint.ite (Hint.go (Hint.go (Hint.go (Hint.go (Hint.go (Hint.go (Hint.go (Hint.go Hint.done)))))))) (Hint.go (Hint.go (Hint.go (Hint.ite (Hint.go (Hint.go (Hint.go (Hint.go Hint.done)))) (Hint.go (Hint.go (Hint.go (Hint.ite Hint.done (Hint.ite (Hint.go (Hint.go (Hint.go (Hint.ite Hint.done (Hint.ite Hint.done Hint.done))))) (Hint.go (Hint.go (Hint.go (Hint.go (Hint.ite Hint.done Hint.done))))))))))))))) Q = (((!F35r0 x0 x1) = true → Q (AV.agg [AV.lit (Value.int IntKind.i64 (-9223372036854775808)), AV.lit (Value.int IntKind.i64 9223372036854775807)]) (St.mk 0 0 Tr.nil)) ∧ ((!F35r0 x0 x1) = false → ((!F35r0 x2 x3) = true → Q (AV.agg [AV.lit (Value.int IntKind.i64 (-9223372036854775808)), AV.lit (Value.int IntKind.i64 9223372036854775807)]) (St.mk 0 0 Tr.nil)) ∧ ((!F35r0 x2 x3) = false → ((!F35r0 x4 x5) = true → Q (AV.agg [AV.lit (Value.int IntKind.i64 (-9223372036854775808)), AV.lit (Value.int IntKind.i64 9223372036854775807)]) (St.mk 0 0 Tr.nil)) ∧ ((!F35r0 x4 x5) = false → ((x0 == 0) = true → ((x1 == 0) = true → Q (AV.agg [AV.lit (Value.int IntKind.i64 x4), AV.lit (Value.int IntKind.i64 x5)]) (St.mk 0 0 Tr.nil)) ∧ ((x1 == 0) = false → ((!F34r0 x0 x1 0) = true → Q (AV.agg [AV.lit (Value.int IntKind.i64 x2), AV.lit (Value.int IntKind.i64 x3)]) (St.mk 0 0 Tr.nil)) ∧ ((!F34r0 x0 x1 0) = false → Q (AV.agg [AV.lit (Value.int IntKind.i64 (F37r0 x2 x3 x4 x5)), AV.lit (Value.int IntKind.i64 (F37r1 x2 x3 x4 x5))]) (St.mk 0 0 Tr.nil)))) ∧ ((x0 == 0) = false → ((!F34r0 x0 x1 0) = true → Q (AV.agg [AV.lit (Value.int IntKind.i64 x2), AV.lit (Value.int IntKind.i64 x3)]) (St.mk 0 0 Tr.nil)) ∧ ((!F34r0 x0 x1 0) = false → Q (AV.agg [AV.lit (Value.int IntKind.i64 (F37r0 x2 x3 x4 x5)), AV.lit (Value.int IntKind.i64 (F37r1 x2 x3 x4 x5))]) (St.mk 0 0 Tr.nil))))))) := by kernel_rfl
theorem ok45 : Ok Go.Vm.G 45 S45 := by
  intro args s v s' h
  unfold S45 at h
  split at h
  · skip
    rename_i x0 x1 x2 x3 x4 x5
    injection h with h; injection h with h1 h2; subst h1; subst h2
    refine runs_of_alone sp45_ok rfl (args' := [.agg [.lit (.int .i64 x0), .lit (.int .i64 x1)], .agg [.lit (.int .i64 x2), .lit (.int .i64 x3)], .agg [.lit (.int .i64 x4), .lit (.int .i64 x5)]]) (by kernel_rfl) (h := Hint.ite (Hint.go (Hint.go (Hint.go (Hint.go (Hint.go (Hint.go (Hint.go (Hint.go Hint.done)))))))) (Hint.go (Hint.go (Hint.go (Hint.ite (Hint.go (Hint.go (Hint.go (Hint.go Hint.done)))) (Hint.go (Hint.go (Hint.go (Hint.ite Hint.done (Hint.ite (Hint.go (Hint.go (Hint.go (Hint.ite Hint.done (Hint.ite Hint.done Hint.done))))) (Hint.go (Hint.go (Hint.go (Hint.go (Hint.ite Hint.done Hint.done))))))))))))))) ?_
    rw [tree45]
    exact ⟨fun h0 => (by simp only [F45r0, F45r1, h0, cond_true]; kernel_rfl), fun h0 => ⟨fun h1 => (by simp only [F45r0, F45r1, h0, h1, cond_true, cond_false]; kernel_rfl), fun h1 => ⟨fun h2 => (by simp only [F45r0, F45r1, h0, h1, h2, cond_true, cond_false]; kernel_rfl), fun h2 => ⟨fun h3 => ⟨fun h4 => (by simp only [F45r0, F45r1, h0, h1, h2, h3, h4, cond_true, cond_false]; kernel_rfl), fun h4 => ⟨fun h5 => (by simp only [F45r0, F45r1, h0, h1, h2, h3, h4, h5, cond_true, cond_false]; kernel_rfl), fun h5 => (by simp only [F45r0, F45r1, h0, h1, h2, h3, h4, h5, cond_true, cond_false]; kernel_rfl)⟩⟩, fun h3 => ⟨fun h4 => (by simp only [F45r0, F45r1, h0, h1, h2, h3, h4, cond_true, cond_false]; kernel_rfl), fun h4 => (by simp only [F45r0, F45r1, h0, h1, h2, h3, h4, cond_false]; kernel_rfl)⟩⟩⟩⟩⟩
  · cases h

def sp43 : CallT := table [(22, S22), (39, S39)]
theorem sp43_ok : SpecOk Go.Vm.G sp43 := SpecOk.cons ok22 (SpecOk.cons ok39 (SpecOk.nil))
/-! "fulling/fullinglaw13.in" -/
def F43r0 (x0 : Int) (x1 : Int) (x2 : Int) (x3 : Int) : Int := (bif F22r0 x2 4 == 0 then x0 else (bif F22r0 x2 4 == 1 then x1 else (bif F22r0 x2 4 == 2 then if x1 < if x0 > F39r0 (IntKind.wrap IntKind.i64 (Int.tdiv x2 4)) x3 then x0 else F39r0 (IntKind.wrap IntKind.i64 (Int.tdiv x2 4)) x3 then x1 else if x0 > F39r0 (IntKind.wrap IntKind.i64 (Int.tdiv x2 4)) x3 then x0 else F39r0 (IntKind.wrap IntKind.i64 (Int.tdiv x2 4)) x3 else if x1 < if x0 > x3 then x0 else x3 then x1 else if x0 > x3 then x0 else x3)))
def S43 : Spec
  | [.agg [.lit (.int .i64 x0), .lit (.int .i64 x1)], .lit (.int .i64 x2), .lit (.int .i64 x3)], s => some (.lit (.int .i64 (F43r0 x0 x1 x2 x3)), s)
  | _, _ => none
theorem tree43 (x0 : Int) (x1 : Int) (x2 : Int) (x3 : Int) (Q : AV → St → Prop) : funP Go.Vm.G sp43 43 [.agg [.lit (.int .i64 x0), .lit (.int .i64 x1)], .lit (.int .i64 x2), .lit (.int .i64 x3)] St.nil (Hint.ite Hint.done (Hint.ite Hint.done (Hint.ite Hint.done Hint.done))) Q = (((F22r0 x2 4 == 0) = true → Q (AV.lit (Value.int IntKind.i64 x0)) (St.mk 0 0 Tr.nil)) ∧ ((F22r0 x2 4 == 0) = false → ((F22r0 x2 4 == 1) = true → Q (AV.lit (Value.int IntKind.i64 x1)) (St.mk 0 0 Tr.nil)) ∧ ((F22r0 x2 4 == 1) = false → ((F22r0 x2 4 == 2) = true → Q (AV.lit (Value.int IntKind.i64 (if x1 < if x0 > F39r0 (IntKind.wrap IntKind.i64 (Int.tdiv x2 4)) x3 then x0 else F39r0 (IntKind.wrap IntKind.i64 (Int.tdiv x2 4)) x3 then x1 else if x0 > F39r0 (IntKind.wrap IntKind.i64 (Int.tdiv x2 4)) x3 then x0 else F39r0 (IntKind.wrap IntKind.i64 (Int.tdiv x2 4)) x3))) (St.mk 0 0 Tr.nil)) ∧ ((F22r0 x2 4 == 2) = false → Q (AV.lit (Value.int IntKind.i64 (if x1 < if x0 > x3 then x0 else x3 then x1 else if x0 > x3 then x0 else x3))) (St.mk 0 0 Tr.nil))))) := by kernel_rfl
theorem ok43 : Ok Go.Vm.G 43 S43 := by
  intro args s v s' h
  unfold S43 at h
  split at h
  · skip
    rename_i x0 x1 x2 x3
    injection h with h; injection h with h1 h2; subst h1; subst h2
    refine runs_of_alone sp43_ok rfl (args' := [.agg [.lit (.int .i64 x0), .lit (.int .i64 x1)], .lit (.int .i64 x2), .lit (.int .i64 x3)]) (by kernel_rfl) (h := Hint.ite Hint.done (Hint.ite Hint.done (Hint.ite Hint.done Hint.done))) ?_
    rw [tree43]
    exact ⟨fun h0 => (by simp only [F43r0, h0, cond_true]; kernel_rfl), fun h0 => ⟨fun h1 => (by simp only [F43r0, h0, h1, cond_true, cond_false]; kernel_rfl), fun h1 => ⟨fun h2 => (by simp only [F43r0, h0, h1, h2, cond_true, cond_false]; kernel_rfl), fun h2 => (by simp only [F43r0, h0, h1, h2, cond_false]; kernel_rfl)⟩⟩⟩
  · cases h

def sp54 : CallT := table []
theorem sp54_ok : SpecOk Go.Vm.G sp54 := SpecOk.nil
/-! "fulling/fullingref13.Full" -/
def F54r0 : Int := -9223372036854775808
def F54r1 : Int := 9223372036854775807
def S54 : Spec
  | [], s => some (.agg [.lit (.int .i64 (F54r0 )), .lit (.int .i64 (F54r1 ))], s)
  | _, _ => none
theorem tree54 (Q : AV → St → Prop) : funP Go.Vm.G sp54 54 [] St.nil (Hint.done) Q = (Q (AV.agg [AV.lit (Value.int IntKind.i64 (-9223372036854775808)), AV.lit (Value.int IntKind.i64 9223372036854775807)]) (St.mk 0 0 Tr.nil)) := by kernel_rfl
theorem ok54 : Ok Go.Vm.G 54 S54 := by
  intro args s v s' h
  unfold S54 at h
  split at h
  · skip
    injection h with h; injection h with h1 h2; subst h1; subst h2
    refine runs_of_alone sp54_ok rfl (args' := []) (by kernel_rfl) (h := Hint.done) ?_
    rw [tree54]
    exact (by kernel_rfl)
  · cases h

def sp52 : CallT := table []
theorem sp52_ok : SpecOk Go.Vm.G sp52 := SpecOk.nil
/-! "fulling/fullingref13.Valid" -/
def F52r0 (x0 : Int) (x1 : Int) : Bool := decide (x0 ≤ x1)
def S52 : Spec
  | [.agg [.lit (.int .i64 x0), .lit (.int .i64 x1)]], s => some (.lit (.bool (F52r0 x0 x1)), s)
  | _, _ => none
theorem tree52 (x0 : Int) (x1 : Int) (Q : AV → St → Prop) : funP Go.Vm.G sp52 52 [.agg [.lit (.int .i64 x0), .lit (.int .i64 x1)]] St.nil (Hint.done) Q = (Q (AV.lit (Value.bool (decide (x0 ≤ x1)))) (St.mk 0 0 Tr.nil)) := by kernel_rfl
theorem ok52 : Ok Go.Vm.G 52 S52 := by
  intro args s v s' h
  unfold S52 at h
  split at h
  · skip
    rename_i x0 x1
    injection h with h; injection h with h1 h2; subst h1; subst h2
    refine runs_of_alone sp52_ok rfl (args' := [.agg [.lit (.int .i64 x0), .lit (.int .i64 x1)]]) (by kernel_rfl) (h := Hint.done) ?_
    rw [tree52]
    exact (by kernel_rfl)
  · cases h

def sp53 : CallT := table []
theorem sp53_ok : SpecOk Go.Vm.G sp53 := SpecOk.nil
/-! "fulling/fullingref13.Contains" -/
def F53r0 (x0 : Int) (x1 : Int) (x2 : Int) : Bool := (bif decide (x0 ≤ x2) then decide (x2 ≤ x1) else false)
def S53 : Spec
  | [.agg [.lit (.int .i64 x0), .lit (.int .i64 x1)], .lit (.int .i64 x2)], s => some (.lit (.bool (F53r0 x0 x1 x2)), s)
  | _, _ => none
theorem tree53 (x0 : Int) (x1 : Int) (x2 : Int) (Q : AV → St → Prop) : funP Go.Vm.G sp53 53 [.agg [.lit (.int .i64 x0), .lit (.int .i64 x1)], .lit (.int .i64 x2)] St.nil (Hint.ite (Hint.go (Hint.go (Hint.go (Hint.go Hint.done)))) (Hint.go (Hint.go (Hint.go (Hint.go Hint.done))))) Q = ((decide (x0 ≤ x2) = true → Q (AV.lit (Value.bool (decide (x2 ≤ x1)))) (St.mk 0 0 Tr.nil)) ∧ (decide (x0 ≤ x2) = false → Q (AV.lit (Value.bool false)) (St.mk 0 0 Tr.nil))) := by kernel_rfl
theorem ok53 : Ok Go.Vm.G 53 S53 := by
  intro args s v s' h
  unfold S53 at h
  split at h
  · skip
    rename_i x0 x1 x2
    injection h with h; injection h with h1 h2; subst h1; subst h2
    refine runs_of_alone sp53_ok rfl (args' := [.agg [.lit (.int .i64 x0), .lit (.int .i64 x1)], .lit (.int .i64 x2)]) (by kernel_rfl) (h := Hint.ite (Hint.go (Hint.go (Hint.go (Hint.go Hint.done)))) (Hint.go (Hint.go (Hint.go (Hint.go Hint.done))))) ?_
    rw [tree53]
    exact ⟨fun h0 => (by simp only [F53r0, h0, cond_true]; kernel_rfl), fun h0 => (by simp only [F53r0, h0, cond_false]; kernel_rfl)⟩
  · cases h

def sp48 : CallT := table [(52, S52)]
theorem sp48_ok : SpecOk Go.Vm.G sp48 := SpecOk.cons ok52 (SpecOk.nil)
/-! "fulling/fullingref13.Intersect" -/
def F48r0 (x0 : Int) (x1 : Int) (x2 : Int) (x3 : Int) : Int := (bif !F52r0 (if x2 > x0 then x2 else x0) (if x3 < x1 then x3 else x1) then 0 else if x2 > x0 then x2 else x0)
def F48r1 (x0 : Int) (x1 : Int) (x2 : Int) (x3 : Int) : Int := (bif !F52r0 (if x2 > x0 then x2 else x0) (if x3 < x1 then x3 else x1) then 0 else if x3 < x1 then x3 else x1)
def F48r2 (x0 : Int) (x1 : Int) (x2 : Int) (x3 : Int) : Bool := (bif !F52r0 (if x2 > x0 then x2 else x0) (if x3 < x1 then x3 else x1) then false else true)
def S48 : Spec
  | [.agg [.lit (.int .i64 x0), .lit (.int .i64 x1)], .agg [.lit (.int .i64 x2), .lit (.int .i64 x3)]], s => some (.tup [.agg [.lit (.int .i64 (F48r0 x0 x1 x2 x3)), .lit (.int .i64 (F48r1 x0 x1 x2 x3))], .lit (.bool (F48r2 x0 x1 x2 x3))], s)
  | _, _ => none
theorem tree48 (x0 : Int) (x1 : Int) (x2 : Int) (x3 : Int) (Q : AV → St → Prop) : funP Go.Vm.G sp48 48 [.agg [.lit (.int .i64 x0), .lit (.int .i64 x1)], .agg [.lit (.int .i64 x2), .lit (.int .i64 x3)]] St.nil (Hint.ite Hint.done Hint.done) Q = (((!F52r0 (if x2 > x0 then x2 else x0) (if x3 < x1 then x3 else x1)) = true → Q (AV.tup [AV.agg [AV.lit (Value.int IntKind.i64 0), AV.lit (Value.int IntKind.i64 0)], AV.lit (Value.bool false)]) (St.mk 0 0 Tr.nil)) ∧ ((!F52r0 (if x2 > x0 then x2 else x0) (if x3 < x1 then x3 else x1)) = false → Q (AV.tup [AV.agg [AV.lit (Value.int IntKind.i64 (if x2 > x0 then x2 else x0)), AV.lit (Value.int IntKind.i64 (if x3 < x1 then x3 else x1))], AV.lit (Value.bool true)]) (St.mk 0 0 Tr.nil))) := by kernel_rfl
theorem ok48 : Ok Go.Vm.G 48 S48 := by
  intro args s v s' h
  unfold S48 at h
  split at h
  · skip
    rename_i x0 x1 x2 x3
    injection h with h; injection h with h1 h2; subst h1; subst h2
    refine runs_of_alone sp48_ok rfl (args' := [.agg [.lit (.int .i64 x0), .lit (.int .i64 x1)], .agg [.lit (.int .i64 x2), .lit (.int .i64 x3)]]) (by kernel_rfl) (h := Hint.ite Hint.done Hint.done) ?_
    rw [tree48]
    exact ⟨fun h0 => (by simp only [F48r0, F48r1, F48r2, h0, cond_true]; kernel_rfl), fun h0 => (by simp only [F48r0, F48r1, F48r2, h0, cond_false]; kernel_rfl)⟩
  · cases h

def sp49 : CallT := table []
theorem sp49_ok : SpecOk Go.Vm.G sp49 := SpecOk.nil
/-! "fulling/fullingref13.Join" -/
def F49r0 (x0 : Int) (_x1 : Int) (x2 : Int) (_x3 : Int) : Int := if x2 < x0 then x2 else x0
def F49r1 (_x0 : Int) (x1 : Int) (_x2 : Int) (x3 : Int) : Int := if x3 > x1 then x3 else x1
def S49 : Spec
  | [.agg [.lit (.int .i64 x0), .lit (.int .i64 x1)], .agg [.lit (.int .i64 x2), .lit (.int .i64 x3)]], s => some (.agg [.lit (.int .i64 (F49r0 x0 x1 x2 x3)), .lit (.int .i64 (F49r1 x0 x1 x2 x3))], s)
  | _, _ => none
theorem tree49 (x0 : Int) (x1 : Int) (x2 : Int) (x3 : Int) (Q : AV → St → Prop) : funP Go.Vm.G sp49 49 [.agg [.lit (.int .i64 x0), .lit (.int .i64 x1)], .agg [.lit (.int .i64 x2), .lit (.int .i64 x3)]] St.nil (Hint.done) Q = (Q (AV.agg [AV.lit (Value.int IntKind.i64 (if x2 < x0 then x2 else x0)), AV.lit (Value.int IntKind.i64 (if x3 > x1 then x3 else x1))]) (St.mk 0 0 Tr.nil)) := by kernel_rfl
theorem ok49 : Ok Go.Vm.G 49 S49 := by
  intro args s v s' h
  unfold S49 at h
  split at h
  · skip
    rename_i x0 x1 x2 x3
    injection h with h; injection h with h1 h2; subst h1; subst h2
    refine runs_of_alone sp49_ok rfl (args' := [.agg [.lit (.int .i64 x0), .lit (.int .i64 x1)], .agg [.lit (.int .i64 x2), .lit (.int .i64 x3)]]) (by kernel_rfl) (h := Hint.done) ?_
    rw [tree49]
    exact (by kernel_rfl)
  · cases h

def sp50 : CallT := table []
theorem sp50_ok : SpecOk Go.Vm.G sp50 := SpecOk.nil
/-! "fulling/fullingref13.Widen" -/
def F50r0 (x0 : Int) (_x1 : Int) (x2 : Int) (_x3 : Int) : Int := (bif decide (x2 < x0) then -9223372036854775808 else x0)
def F50r1 (_x0 : Int) (x1 : Int) (_x2 : Int) (x3 : Int) : Int := (bif decide (x3 > x1) then 9223372036854775807 else x1)
def S50 : Spec
  | [.agg [.lit (.int .i64 x0), .lit (.int .i64 x1)], .agg [.lit (.int .i64 x2), .lit (.int .i64 x3)]], s => some (.agg [.lit (.int .i64 (F50r0 x0 x1 x2 x3)), .lit (.int .i64 (F50r1 x0 x1 x2 x3))], s)
  | _, _ => none
theorem tree50 (x0 : Int) (x1 : Int) (x2 : Int) (x3 : Int) (Q : AV → St → Prop) : funP Go.Vm.G sp50 50 [.agg [.lit (.int .i64 x0), .lit (.int .i64 x1)], .agg [.lit (.int .i64 x2), .lit (.int .i64 x3)]] St.nil (Hint.ite (Hint.ite Hint.done Hint.done) (Hint.ite Hint.done Hint.done)) Q = ((decide (x2 < x0) = true → (decide (x3 > x1) = true → Q (AV.agg [AV.lit (Value.int IntKind.i64 (-9223372036854775808)), AV.lit (Value.int IntKind.i64 9223372036854775807)]) (St.mk 0 0 Tr.nil)) ∧ (decide (x3 > x1) = false → Q (AV.agg [AV.lit (Value.int IntKind.i64 (-9223372036854775808)), AV.lit (Value.int IntKind.i64 x1)]) (St.mk 0 0 Tr.nil))) ∧ (decide (x2 < x0) = false → (decide (x3 > x1) = true → Q (AV.agg [AV.lit (Value.int IntKind.i64 x0), AV.lit (Value.int IntKind.i64 9223372036854775807)]) (St.mk 0 0 Tr.nil)) ∧ (decide (x3 > x1) = false → Q (AV.agg [AV.lit (Value.int IntKind.i64 x0), AV.lit (Value.int IntKind.i64 x1)]) (St.mk 0 0 Tr.nil)))) := by kernel_rfl
theorem ok50 : Ok Go.Vm.G 50 S50 := by
  intro args s v s' h
  unfold S50 at h
  split at h
  · skip
    rename_i x0 x1 x2 x3
    injection h with h; injection h with h1 h2; subst h1; subst h2
    refine runs_of_alone sp50_ok rfl (args' := [.agg [.lit (.int .i64 x0), .lit (.int .i64 x1)], .agg [.lit (.int .i64 x2), .lit (.int .i64 x3)]]) (by kernel_rfl) (h := Hint.ite (Hint.ite Hint.done Hint.done) (Hint.ite Hint.done Hint.done)) ?_
    rw [tree50]
    exact ⟨fun h0 => ⟨fun h1 => (by simp only [F50r0, F50r1, h0, h1, cond_true]; kernel_rfl), fun h1 => (by simp only [F50r0, F50r1, h0, h1, cond_true, cond_false]; kernel_rfl)⟩, fun h0 => ⟨fun h1 => (by simp only [F50r0, F50r1, h0, h1, cond_true, cond_false]; kernel_rfl), fun h1 => (by simp only [F50r0, F50r1, h0, h1, cond_false]; kernel_rfl)⟩⟩
  · cases h

def sp51 : CallT := table [(52, S52), (54, S54), (53, S53), (49, S49)]
theorem sp51_ok : SpecOk Go.Vm.G sp51 := SpecOk.cons ok52 (SpecOk.cons ok54 (SpecOk.cons ok53 (SpecOk.cons ok49 (SpecOk.nil))))
/-! "fulling/fullingref13.Select" -/
def F51r0 (x0 : Int) (x1 : Int) (x2 : Int) (x3 : Int) (x4 : Int) (x5 : Int) : Int := (bif !F52r0 x0 x1 then -9223372036854775808 else (bif !F52r0 x2 x3 then -9223372036854775808 else (bif !F52r0 x4 x5 then -9223372036854775808 else (bif x0 == 0 then (bif x1 == 0 then x4 else (bif !F53r0 x0 x1 0 then x2 else F49r0 x2 x3 x4 x5)) else (bif !F53r0 x0 x1 0 then x2 else F49r0 x2 x3 x4 x5)))))
def F51r1 (x0 : Int) (x1 : Int) (x2 : Int) (x3 : Int) (x4 : Int) (x5 : Int) : Int := (bif !F52r0 x0 x1 then 9223372036854775807 else (bif !F52r0 x2 x3 then 9223372036854775807 else (bif !F52r0 x4 x5 then 9223372036854775807 else (bif x0 == 0 then (bif x1 == 0 then x5 else (bif !F53r0 x0 x1 0 then x3 else F49r1 x2 x3 x4 x5)) else (bif !F53r0 x0 x1 0 then x3 else F49r1 x2 x3 x4 x5)))))
def S51 : Spec
  | [.agg [.lit (.int .i64 x0), .lit (.int .i64 x1)], .agg [.lit (.int .i64 x2), .lit (.int .i64 x3)], .agg [.lit (.int .i64 x4), .lit (.int .i64 x5)]], s => some (.agg [.lit (.int .i64 (F51r0 x0 x1 x2 x3 x4 x5)), .lit (.int .i64 (F51r1 x0 x1 x2 x3 x4 x5))], s)
  | _, _ => none
theorem tree51 (x0 : Int) (x1 : Int) (x2 : Int) (x3 : Int) (x4 : Int) (x5 : Int) (Q : AV → St → Prop) : funP Go.Vm.G sp51 51 [.agg [.lit (.int .i64 x0), .lit (.int .i64 x1)], .agg [.lit (.int .i64 x2), .lit (.int .i64 x3)], .agg [.lit (.int .i64 x4), .lit (.int .i64 x5)]] St.nil (Hint.ite (Hint.go (Hint.go (Hint.go (Hint.go (Hint.go (Hint.go (Hint.go (Hint.go Hint.done)))))))) (Hint.go (Hint.go (Hint.go (Hint.ite (Hint.go (Hint.go (Hint.go (Hint.go Hint.done)))) (Hint.go (Hint.go (Hint.go (Hint.ite Hint.done (Hint.ite (Hint.go (Hint.go (Hint.go (Hint.ite Hint.done (Hint.ite Hint.done Hint.done))))) (Hint.go (Hint.go (Hint.go (Hint.go (Hint.ite Hint.done Hint.done))))))))))))))) Q = (((!F52r0 x0 x1) = true → Q (AV.agg [AV.lit (Value.int IntKind.i64 (-9223372036854775808)), AV.lit (Value.int IntKind.i64 9223372036854775807)]) (St.mk 0 0 Tr.nil)) ∧ ((!F52r0 x0 x1) = false → ((!F52r0 x2 x3) = true → Q (AV.agg [AV.lit (Value.int IntKind.i64 (-9223372036854775808)), AV.lit (Value.int IntKind.i64 9223372036854775807)]) (St.mk 0 0 Tr.nil)) ∧ ((!F52r0 x2 x3) = false → ((!F52r0 x4 x5) = true → Q (AV.agg [AV.lit (Value.int IntKind.i64 (-9223372036854775808)), AV.lit (Value.int IntKind.i64 9223372036854775807)]) (St.mk 0 0 Tr.nil)) ∧ ((!F52r0 x4 x5) = false → ((x0 == 0) = true → ((x1 == 0) = true → Q (AV.agg [AV.lit (Value.int IntKind.i64 x4), AV.lit (Value.int IntKind.i64 x5)]) (St.mk 0 0 Tr.nil)) ∧ ((x1 == 0) = false → ((!F53r0 x0 x1 0) = true → Q (AV.agg [AV.lit (Value.int IntKind.i64 x2), AV.lit (Value.int IntKind.i64 x3)]) (St.mk 0 0 Tr.nil)) ∧ ((!F53r0 x0 x1 0) = false → Q (AV.agg [AV.lit (Value.int IntKind.i64 (F49r0 x2 x3 x4 x5)), AV.lit (Value.int IntKind.i64 (F49r1 x2 x3 x4 x5))]) (St.mk 0 0 Tr.nil)))) ∧ ((x0 == 0) = false → ((!F53r0 x0 x1 0) = true → Q (AV.agg [AV.lit (Value.int IntKind.i64 x2), AV.lit (Value.int IntKind.i64 x3)]) (St.mk 0 0 Tr.nil)) ∧ ((!F53r0 x0 x1 0) = false → Q (AV.agg [AV.lit (Value.int IntKind.i64 (F49r0 x2 x3 x4 x5)), AV.lit (Value.int IntKind.i64 (F49r1 x2 x3 x4 x5))]) (St.mk 0 0 Tr.nil))))))) := by kernel_rfl
theorem ok51 : Ok Go.Vm.G 51 S51 := by
  intro args s v s' h
  unfold S51 at h
  split at h
  · skip
    rename_i x0 x1 x2 x3 x4 x5
    injection h with h; injection h with h1 h2; subst h1; subst h2
    refine runs_of_alone sp51_ok rfl (args' := [.agg [.lit (.int .i64 x0), .lit (.int .i64 x1)], .agg [.lit (.int .i64 x2), .lit (.int .i64 x3)], .agg [.lit (.int .i64 x4), .lit (.int .i64 x5)]]) (by kernel_rfl) (h := Hint.ite (Hint.go (Hint.go (Hint.go (Hint.go (Hint.go (Hint.go (Hint.go (Hint.go Hint.done)))))))) (Hint.go (Hint.go (Hint.go (Hint.ite (Hint.go (Hint.go (Hint.go (Hint.go Hint.done)))) (Hint.go (Hint.go (Hint.go (Hint.ite Hint.done (Hint.ite (Hint.go (Hint.go (Hint.go (Hint.ite Hint.done (Hint.ite Hint.done Hint.done))))) (Hint.go (Hint.go (Hint.go (Hint.go (Hint.ite Hint.done Hint.done))))))))))))))) ?_
    rw [tree51]
    exact ⟨fun h0 => (by simp only [F51r0, F51r1, h0, cond_true]; kernel_rfl), fun h0 => ⟨fun h1 => (by simp only [F51r0, F51r1, h0, h1, cond_true, cond_false]; kernel_rfl), fun h1 => ⟨fun h2 => (by simp only [F51r0, F51r1, h0, h1, h2, cond_true, cond_false]; kernel_rfl), fun h2 => ⟨fun h3 => ⟨fun h4 => (by simp only [F51r0, F51r1, h0, h1, h2, h3, h4, cond_true, cond_false]; kernel_rfl), fun h4 => ⟨fun h5 => (by simp only [F51r0, F51r1, h0, h1, h2, h3, h4, h5, cond_true, cond_false]; kernel_rfl), fun h5 => (by simp only [F51r0, F51r1, h0, h1, h2, h3, h4, h5, cond_true, cond_false]; kernel_rfl)⟩⟩, fun h3 => ⟨fun h4 => (by simp only [F51r0, F51r1, h0, h1, h2, h3, h4, cond_true, cond_false]; kernel_rfl), fun h4 => (by simp only [F51r0, F51r1, h0, h1, h2, h3, h4, cond_false]; kernel_rfl)⟩⟩⟩⟩⟩
  · cases h

def sp46 : CallT := table [(52, S52), (54, S54), (86, S86), (44, S44), (87, S87)]
theorem sp46_ok : SpecOk Go.Vm.G sp46 := SpecOk.cons ok52 (SpecOk.cons ok54 (SpecOk.cons ok86 (SpecOk.cons ok44 (SpecOk.cons ok87 (SpecOk.nil)))))
/-! "fulling/fullingref13.Unary" -/
def F46r0 (x0 : Int) (x1 : Int) (x2 : Int) : Int := (bif !F52r0 x1 x2 then -9223372036854775808 else (bif x0 != 20 then (bif x0 != 21 then -9223372036854775808 else (bif F86r0 x1 x2 then F87r0 (F44r0 x0 x1) else (bif x0 == 21 then IntKind.wrap IntKind.i64 ↑(BitVec.toNat (BitVec.ofInt 64 (-1) ^^^ BitVec.ofInt 64 x2)) else (bif x1 == -9223372036854775808 then -9223372036854775808 else IntKind.wrap IntKind.i64 (0 - x2))))) else (bif F86r0 x1 x2 then F87r0 (F44r0 x0 x1) else (bif x0 == 21 then IntKind.wrap IntKind.i64 ↑(BitVec.toNat (BitVec.ofInt 64 (-1) ^^^ BitVec.ofInt 64 x2)) else (bif x1 == -9223372036854775808 then -9223372036854775808 else IntKind.wrap IntKind.i64 (0 - x2))))))
def F46r1 (x0 : Int) (x1 : Int) (x2 : Int) : Int := (bif !F52r0 x1 x2 then 9223372036854775807 else (bif x0 != 20 then (bif x0 != 21 then 9223372036854775807 else (bif F86r0 x1 x2 then F87r1 (F44r0 x0 x1) else (bif x0 == 21 then IntKind.wrap IntKind.i64 ↑(BitVec.toNat (BitVec.ofInt 64 (-1) ^^^ BitVec.ofInt 64 x1)) else (bif x1 == -9223372036854775808 then 9223372036854775807 else IntKind.wrap IntKind.i64 (0 - x1))))) else (bif F86r0 x1 x2 then F87r1 (F44r0 x0 x1) else (bif x0 == 21 then IntKind.wrap IntKind.i64 ↑(BitVec.toNat (BitVec.ofInt 64 (-1) ^^^ BitVec.ofInt 64 x1)) else (bif x1 == -9223372036854775808 then 9223372036854775807 else IntKind.wrap IntKind.i64 (0 - x1))))))
def S46 : Spec
  | [.lit (.int .i64 x0), .agg [.lit (.int .i64 x1), .lit (.int .i64 x2)]], s => some (.agg [.lit (.int .i64 (F46r0 x0 x1 x2)), .lit (.int .i64 (F46r1 x0 x1 x2))], s)
  | _, _ => none
theorem tree46 (x0 : Int) (x1 : Int) (x2 : Int) (Q : AV → St → Prop) : funP Go.Vm.G sp46 46 [.lit (.int .i64 x0), .agg [.lit (.int .i64 x1), .lit (.int .i64 x2)]] St.nil (Hint.ite (Hint.go (Hint.go (Hint.go (Hint.go (Hint.go Hint.done))))) (Hint.go (Hint.go (Hint.ite (Hint.go (Hint.go (Hint.go (Hint.go (Hint.ite Hint.done (Hint.ite Hint.done (Hint.ite Hint.done (Hint.ite Hint.done Hint.done)))))))) (Hint.go (Hint.go (Hint.go (Hint.go (Hint.go (Hint.ite Hint.done (Hint.ite Hint.done (Hint.ite Hint.done Hint.done)))))))))))) Q = (((!F52r0 x1 x2) = true → Q (AV.agg [AV.lit (Value.int IntKind.i64 (-9223372036854775808)), AV.lit (Value.int IntKind.i64 9223372036854775807)]) (St.mk 0 0 Tr.nil)) ∧ ((!F52r0 x1 x2) = false → ((x0 != 20) = true → ((x0 != 21) = true → Q (AV.agg [AV.lit (Value.int IntKind.i64 (-9223372036854775808)), AV.lit (Value.int IntKind.i64 9223372036854775807)]) (St.mk 0 0 Tr.nil)) ∧ ((x0 != 21) = false → (F86r0 x1 x2 = true → Q (AV.agg [AV.lit (Value.int IntKind.i64 (F87r0 (F44r0 x0 x1))), AV.lit (Value.int IntKind.i64 (F87r1 (F44r0 x0 x1)))]) (St.mk 0 0 Tr.nil)) ∧ (F86r0 x1 x2 = false → ((x0 == 21) = true → Q (AV.agg [AV.lit (Value.int IntKind.i64 (IntKind.wrap IntKind.i64 ↑(BitVec.toNat (BitVec.ofInt 64 (-1) ^^^ BitVec.ofInt 64 x2)))), AV.lit (Value.int IntKind.i64 (IntKind.wrap IntKind.i64 ↑(BitVec.toNat (BitVec.ofInt 64 (-1) ^^^ BitVec.ofInt 64 x1))))]) (St.mk 0 0 Tr.nil)) ∧ ((x0 == 21) = false → ((x1 == -9223372036854775808) = true → Q (AV.agg [AV.lit (Value.int IntKind.i64 (-9223372036854775808)), AV.lit (Value.int IntKind.i64 9223372036854775807)]) (St.mk 0 0 Tr.nil)) ∧ ((x1 == -9223372036854775808) = false → Q (AV.agg [AV.lit (Value.int IntKind.i64 (IntKind.wrap IntKind.i64 (0 - x2))), AV.lit (Value.int IntKind.i64 (IntKind.wrap IntKind.i64 (0 - x1)))]) (St.mk 0 0 Tr.nil)))))) ∧ ((x0 != 20) = false → (F86r0 x1 x2 = true → Q (AV.agg [AV.lit (Value.int IntKind.i64 (F87r0 (F44r0 x0 x1))), AV.lit (Value.int IntKind.i64 (F87r1 (F44r0 x0 x1)))]) (St.mk 0 0 Tr.nil)) ∧ (F86r0 x1 x2 = false → ((x0 == 21) = true → Q (AV.agg [AV.lit (Value.int IntKind.i64 (IntKind.wrap IntKind.i64 ↑(BitVec.toNat (BitVec.ofInt 64 (-1) ^^^ BitVec.ofInt 64 x2)))), AV.lit (Value.int IntKind.i64 (IntKind.wrap IntKind.i64 ↑(BitVec.toNat (BitVec.ofInt 64 (-1) ^^^ BitVec.ofInt 64 x1))))]) (St.mk 0 0 Tr.nil)) ∧ ((x0 == 21) = false → ((x1 == -9223372036854775808) = true → Q (AV.agg [AV.lit (Value.int IntKind.i64 (-9223372036854775808)), AV.lit (Value.int IntKind.i64 9223372036854775807)]) (St.mk 0 0 Tr.nil)) ∧ ((x1 == -9223372036854775808) = false → Q (AV.agg [AV.lit (Value.int IntKind.i64 (IntKind.wrap IntKind.i64 (0 - x2))), AV.lit (Value.int IntKind.i64 (IntKind.wrap IntKind.i64 (0 - x1)))]) (St.mk 0 0 Tr.nil))))))) := by kernel_rfl
theorem ok46 : Ok Go.Vm.G 46 S46 := by
  intro args s v s' h
  unfold S46 at h
  split at h
  · skip
    rename_i x0 x1 x2
    injection h with h; injection h with h1 h2; subst h1; subst h2
    refine runs_of_alone sp46_ok rfl (args' := [.lit (.int .i64 x0), .agg [.lit (.int .i64 x1), .lit (.int .i64 x2)]]) (by kernel_rfl) (h := Hint.ite (Hint.go (Hint.go (Hint.go (Hint.go (Hint.go Hint.done))))) (Hint.go (Hint.go (Hint.ite (Hint.go (Hint.go (Hint.go (Hint.go (Hint.ite Hint.done (Hint.ite Hint.done (Hint.ite Hint.done (Hint.ite Hint.done Hint.done)))))))) (Hint.go (Hint.go (Hint.go (Hint.go (Hint.go (Hint.ite Hint.done (Hint.ite Hint.done (Hint.ite Hint.done Hint.done)))))))))))) ?_
    rw [tree46]
    exact ⟨fun h0 => (by simp only [F46r0, F46r1, h0, cond_true]; kernel_rfl), fun h0 => ⟨fun h1 => ⟨fun h2 => (by simp only [F46r0, F46r1, h0, h1, h2, cond_true, cond_false]; kernel_rfl), fun h2 => ⟨fun h3 => (by simp only [F46r0, F46r1, h0, h1, h2, h3, cond_true, cond_false]; kernel_rfl), fun h3 => ⟨fun h4 => (by simp only [F46r0, F46r1, h0, h1, h2, h3, h4, cond_true, cond_false]; kernel_rfl), fun h4 => ⟨fun h5 => (by simp only [F46r0, F46r1, h0, h1, h2, h3, h4, h5, cond_true, cond_false]; kernel_rfl), fun h5 => (by simp only [F46r0, F46r1, h0, h1, h2, h3, h4, h5, cond_true, cond_false]; kernel_rfl)⟩⟩⟩⟩, fun h1 => ⟨fun h2 => (by simp only [F46r0, F46r1, h0, h1, h2, cond_true, cond_false]; kernel_rfl), fun h2 => ⟨fun h3 => (by simp only [F46r0, F46r1, h0, h1, h2, h3, cond_true, cond_false]; kernel_rfl), fun h3 => ⟨fun h4 => (by simp only [F46r0, F46r1, h0, h1, h2, h3, h4, cond_true, cond_false]; kernel_rfl), fun h4 => (by simp only [F46r0, F46r1, h0, h1, h2, h3, h4, cond_false]; kernel_rfl)⟩⟩⟩⟩⟩
  · cases h

def sp9 : CallT := table [(32, S32), (33, S33), (34, S34), (35, S35)]
theorem sp9_ok : SpecOk Go.Vm.G sp9 := SpecOk.cons ok32 (SpecOk.cons ok33 (SpecOk.cons ok34 (SpecOk.cons ok35 (SpecOk.nil))))
/-! "fulling/fullinglaw13.IntervalExamples" -/
def F9r0 : Bool := true
def S9 : Spec
  | [], s => some (.lit (.bool (F9r0 )), s)
  | _, _ => none
theorem tree9 (Q : AV → St → Prop) : funP Go.Vm.G sp9 9 [] St.nil (Hint.go (Hint.go (Hint.go (Hint.go (Hint.go (Hint.go (Hint.go (Hint.go (Hint.go (Hint.go (Hint.go (Hint.go (Hint.go Hint.done))))))))))))) Q = (Q (AV.lit (Value.bool true)) (St.mk 0 0 Tr.nil)) := by kernel_rfl
theorem ok9 : Ok Go.Vm.G 9 S9 := by
  intro args s v s' h
  unfold S9 at h
  split at h
  · skip
    injection h with h; injection h with h1 h2; subst h1; subst h2
    refine runs_of_alone sp9_ok rfl (args' := []) (by kernel_rfl) (h := Hint.go (Hint.go (Hint.go (Hint.go (Hint.go (Hint.go (Hint.go (Hint.go (Hint.go (Hint.go (Hint.go (Hint.go (Hint.go Hint.done))))))))))))) ?_
    rw [tree9]
    exact (by kernel_rfl)
  · cases h


end Go.Vm
