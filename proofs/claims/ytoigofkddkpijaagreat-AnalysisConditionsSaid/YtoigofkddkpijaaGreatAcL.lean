/-
  Holds of the program and of the reference, told by plain words and proved; no conditions but those that the theorems name.
-/
import Derived.Test.YtoigofkddkpijaaGreatAc7
namespace Go.Vm
noncomputable section
def li (n : Int) : AV := .lit (.int .i64 n)
def pr (p : Int × Int) : AV := .agg [.lit (.int .i64 p.1), .lit (.int .i64 p.2)]
def sp17 : CallT := table []
theorem sp17_ok : SpecOk Go.Vm.G sp17 := SpecOk.nil
/-! "fulling/fullingkeep.Pick" -/
def F17r0 (x0 : Int) (x1 : Int) : Int := (bif decide (Int.tmod x0 x1 < 0) then IntKind.wrap IntKind.i64 (Int.tmod x0 x1 + x1) else Int.tmod x0 x1)
def S17 : Spec
  | [.lit (.int .i64 x0), .lit (.int .i64 x1)], s => gate (!(x1 == 0)) (some (.lit (.int .i64 (F17r0 x0 x1)), s))
  | _, _ => none
theorem tree17 (x0 : Int) (x1 : Int) (Q : AV → St → Prop) : funP Go.Vm.G sp17 17 [.lit (.int .i64 x0), .lit (.int .i64 x1)] St.nil (Hint.got 1 2 (AV.lit (Value.int IntKind.i64 (Int.tmod x0 x1))) none (Hint.ite Hint.done Hint.done)) Q = (bin G BinOp.rem 3 (AV.lit (Value.int IntKind.i64 x0)) (AV.lit (Value.int IntKind.i64 x1)) = some (AV.lit (Value.int IntKind.i64 (Int.tmod x0 x1))) ∧ (decide (Int.tmod x0 x1 < 0) = true → Q (AV.lit (Value.int IntKind.i64 (IntKind.wrap IntKind.i64 (Int.tmod x0 x1 + x1)))) St.nil) ∧ (decide (Int.tmod x0 x1 < 0) = false → Q (AV.lit (Value.int IntKind.i64 (Int.tmod x0 x1))) St.nil)) := by kernel_rfl
theorem ok17 : Ok Go.Vm.G 17 S17 := by
  intro args s v s' h
  unfold S17 at h
  split at h
  · skip
    rename_i x0 x1
    obtain ⟨hpre, h⟩ := gate_some h
    injection h with h; injection h with h1 h2; subst h1; subst h2
    refine runs_of_alone sp17_ok rfl (args' := [.lit (.int .i64 x0), .lit (.int .i64 x1)]) (by kernel_rfl) (h := Hint.got 1 2 (AV.lit (Value.int IntKind.i64 (Int.tmod x0 x1))) none (Hint.ite Hint.done Hint.done)) ?_
    rw [tree17]
    exact ⟨(bin_rem (by simpa using hpre)), ⟨fun h0 => (by simp only [F17r0, h0, cond_true]; kernel_rfl), fun h0 => (by simp only [F17r0, h0, cond_false]; kernel_rfl)⟩⟩
  · cases h

def sp50 : CallT := table []
theorem sp50_ok : SpecOk Go.Vm.G sp50 := SpecOk.nil
/-! "fulling/interval.Valid" -/
def F50r0 (x0 : Int) (x1 : Int) : Bool := decide (x0 ≤ x1)
def S50 : Spec
  | [.agg [.lit (.int .i64 x0), .lit (.int .i64 x1)]], s => some (.lit (.bool (F50r0 x0 x1)), s)
  | _, _ => none
theorem tree50 (x0 : Int) (x1 : Int) (Q : AV → St → Prop) : funP Go.Vm.G sp50 50 [.agg [.lit (.int .i64 x0), .lit (.int .i64 x1)]] St.nil (Hint.done) Q = (Q (AV.lit (Value.bool (decide (x0 ≤ x1)))) (St.mk 0 0 Tr.nil)) := by kernel_rfl
theorem ok50 : Ok Go.Vm.G 50 S50 := by
  intro args s v s' h
  unfold S50 at h
  split at h
  · skip
    rename_i x0 x1
    injection h with h; injection h with h1 h2; subst h1; subst h2
    refine runs_of_alone sp50_ok rfl (args' := [.agg [.lit (.int .i64 x0), .lit (.int .i64 x1)]]) (by kernel_rfl) (h := Hint.done) ?_
    rw [tree50]
    exact (by kernel_rfl)
  · cases h

def sp54 : CallT := table []
theorem sp54_ok : SpecOk Go.Vm.G sp54 := SpecOk.nil
/-! "fulling/interval.Contains" -/
def F54r0 (x0 : Int) (x1 : Int) (x2 : Int) : Bool := (bif decide (x2 ≥ x0) then decide (x2 ≤ x1) else false)
def S54 : Spec
  | [.agg [.lit (.int .i64 x0), .lit (.int .i64 x1)], .lit (.int .i64 x2)], s => some (.lit (.bool (F54r0 x0 x1 x2)), s)
  | _, _ => none
theorem tree54 (x0 : Int) (x1 : Int) (x2 : Int) (Q : AV → St → Prop) : funP Go.Vm.G sp54 54 [.agg [.lit (.int .i64 x0), .lit (.int .i64 x1)], .lit (.int .i64 x2)] St.nil (Hint.ite (Hint.go (Hint.go (Hint.go (Hint.go Hint.done)))) (Hint.go (Hint.go (Hint.go (Hint.go Hint.done))))) Q = ((decide (x2 ≥ x0) = true → Q (AV.lit (Value.bool (decide (x2 ≤ x1)))) (St.mk 0 0 Tr.nil)) ∧ (decide (x2 ≥ x0) = false → Q (AV.lit (Value.bool false)) (St.mk 0 0 Tr.nil))) := by kernel_rfl
theorem ok54 : Ok Go.Vm.G 54 S54 := by
  intro args s v s' h
  unfold S54 at h
  split at h
  · skip
    rename_i x0 x1 x2
    injection h with h; injection h with h1 h2; subst h1; subst h2
    refine runs_of_alone sp54_ok rfl (args' := [.agg [.lit (.int .i64 x0), .lit (.int .i64 x1)], .lit (.int .i64 x2)]) (by kernel_rfl) (h := Hint.ite (Hint.go (Hint.go (Hint.go (Hint.go Hint.done)))) (Hint.go (Hint.go (Hint.go (Hint.go Hint.done))))) ?_
    rw [tree54]
    exact ⟨fun h0 => (by simp only [F54r0, h0, cond_true]; kernel_rfl), fun h0 => (by simp only [F54r0, h0, cond_false]; kernel_rfl)⟩
  · cases h

def sp55 : CallT := table [(50, S50)]
theorem sp55_ok : SpecOk Go.Vm.G sp55 := SpecOk.cons ok50 (SpecOk.nil)
/-! "fulling/interval.Intersect" -/
def F55r0 (x0 : Int) (x1 : Int) (x2 : Int) (x3 : Int) : Int := (bif !F50r0 (if x2 > x0 then x2 else x0) (if x3 < x1 then x3 else x1) then 0 else if x2 > x0 then x2 else x0)
def F55r1 (x0 : Int) (x1 : Int) (x2 : Int) (x3 : Int) : Int := (bif !F50r0 (if x2 > x0 then x2 else x0) (if x3 < x1 then x3 else x1) then 0 else if x3 < x1 then x3 else x1)
def F55r2 (x0 : Int) (x1 : Int) (x2 : Int) (x3 : Int) : Bool := (bif !F50r0 (if x2 > x0 then x2 else x0) (if x3 < x1 then x3 else x1) then false else true)
def S55 : Spec
  | [.agg [.lit (.int .i64 x0), .lit (.int .i64 x1)], .agg [.lit (.int .i64 x2), .lit (.int .i64 x3)]], s => some (.tup [.agg [.lit (.int .i64 (F55r0 x0 x1 x2 x3)), .lit (.int .i64 (F55r1 x0 x1 x2 x3))], .lit (.bool (F55r2 x0 x1 x2 x3))], s)
  | _, _ => none
theorem tree55 (x0 : Int) (x1 : Int) (x2 : Int) (x3 : Int) (Q : AV → St → Prop) : funP Go.Vm.G sp55 55 [.agg [.lit (.int .i64 x0), .lit (.int .i64 x1)], .agg [.lit (.int .i64 x2), .lit (.int .i64 x3)]] St.nil (Hint.ite Hint.done Hint.done) Q = (((!F50r0 (if x2 > x0 then x2 else x0) (if x3 < x1 then x3 else x1)) = true → Q (AV.tup [AV.agg [AV.lit (Value.int IntKind.i64 0), AV.lit (Value.int IntKind.i64 0)], AV.lit (Value.bool false)]) (St.mk 0 0 Tr.nil)) ∧ ((!F50r0 (if x2 > x0 then x2 else x0) (if x3 < x1 then x3 else x1)) = false → Q (AV.tup [AV.agg [AV.lit (Value.int IntKind.i64 (if x2 > x0 then x2 else x0)), AV.lit (Value.int IntKind.i64 (if x3 < x1 then x3 else x1))], AV.lit (Value.bool true)]) (St.mk 0 0 Tr.nil))) := by kernel_rfl
theorem ok55 : Ok Go.Vm.G 55 S55 := by
  intro args s v s' h
  unfold S55 at h
  split at h
  · skip
    rename_i x0 x1 x2 x3
    injection h with h; injection h with h1 h2; subst h1; subst h2
    refine runs_of_alone sp55_ok rfl (args' := [.agg [.lit (.int .i64 x0), .lit (.int .i64 x1)], .agg [.lit (.int .i64 x2), .lit (.int .i64 x3)]]) (by kernel_rfl) (h := Hint.ite Hint.done Hint.done) ?_
    rw [tree55]
    exact ⟨fun h0 => (by simp only [F55r0, F55r1, F55r2, h0, cond_true]; kernel_rfl), fun h0 => (by simp only [F55r0, F55r1, F55r2, h0, cond_false]; kernel_rfl)⟩
  · cases h

def sp72 : CallT := table []
theorem sp72_ok : SpecOk Go.Vm.G sp72 := SpecOk.nil
/-! "fulling/fullingref13.Valid" -/
def F72r0 (x0 : Int) (x1 : Int) : Bool := decide (x0 ≤ x1)
def S72 : Spec
  | [.agg [.lit (.int .i64 x0), .lit (.int .i64 x1)]], s => some (.lit (.bool (F72r0 x0 x1)), s)
  | _, _ => none
theorem tree72 (x0 : Int) (x1 : Int) (Q : AV → St → Prop) : funP Go.Vm.G sp72 72 [.agg [.lit (.int .i64 x0), .lit (.int .i64 x1)]] St.nil (Hint.done) Q = (Q (AV.lit (Value.bool (decide (x0 ≤ x1)))) (St.mk 0 0 Tr.nil)) := by kernel_rfl
theorem ok72 : Ok Go.Vm.G 72 S72 := by
  intro args s v s' h
  unfold S72 at h
  split at h
  · skip
    rename_i x0 x1
    injection h with h; injection h with h1 h2; subst h1; subst h2
    refine runs_of_alone sp72_ok rfl (args' := [.agg [.lit (.int .i64 x0), .lit (.int .i64 x1)]]) (by kernel_rfl) (h := Hint.done) ?_
    rw [tree72]
    exact (by kernel_rfl)
  · cases h

def sp56 : CallT := table []
theorem sp56_ok : SpecOk Go.Vm.G sp56 := SpecOk.nil
/-! "fulling/fullingref13.Contains" -/
def F56r0 (x0 : Int) (x1 : Int) (x2 : Int) : Bool := (bif decide (x0 ≤ x2) then decide (x2 ≤ x1) else false)
def S56 : Spec
  | [.agg [.lit (.int .i64 x0), .lit (.int .i64 x1)], .lit (.int .i64 x2)], s => some (.lit (.bool (F56r0 x0 x1 x2)), s)
  | _, _ => none
theorem tree56 (x0 : Int) (x1 : Int) (x2 : Int) (Q : AV → St → Prop) : funP Go.Vm.G sp56 56 [.agg [.lit (.int .i64 x0), .lit (.int .i64 x1)], .lit (.int .i64 x2)] St.nil (Hint.ite (Hint.go (Hint.go (Hint.go (Hint.go Hint.done)))) (Hint.go (Hint.go (Hint.go (Hint.go Hint.done))))) Q = ((decide (x0 ≤ x2) = true → Q (AV.lit (Value.bool (decide (x2 ≤ x1)))) (St.mk 0 0 Tr.nil)) ∧ (decide (x0 ≤ x2) = false → Q (AV.lit (Value.bool false)) (St.mk 0 0 Tr.nil))) := by kernel_rfl
theorem ok56 : Ok Go.Vm.G 56 S56 := by
  intro args s v s' h
  unfold S56 at h
  split at h
  · skip
    rename_i x0 x1 x2
    injection h with h; injection h with h1 h2; subst h1; subst h2
    refine runs_of_alone sp56_ok rfl (args' := [.agg [.lit (.int .i64 x0), .lit (.int .i64 x1)], .lit (.int .i64 x2)]) (by kernel_rfl) (h := Hint.ite (Hint.go (Hint.go (Hint.go (Hint.go Hint.done)))) (Hint.go (Hint.go (Hint.go (Hint.go Hint.done))))) ?_
    rw [tree56]
    exact ⟨fun h0 => (by simp only [F56r0, h0, cond_true]; kernel_rfl), fun h0 => (by simp only [F56r0, h0, cond_false]; kernel_rfl)⟩
  · cases h

def sp57 : CallT := table [(72, S72)]
theorem sp57_ok : SpecOk Go.Vm.G sp57 := SpecOk.cons ok72 (SpecOk.nil)
/-! "fulling/fullingref13.Intersect" -/
def F57r0 (x0 : Int) (x1 : Int) (x2 : Int) (x3 : Int) : Int := (bif !F72r0 (if x2 > x0 then x2 else x0) (if x3 < x1 then x3 else x1) then 0 else if x2 > x0 then x2 else x0)
def F57r1 (x0 : Int) (x1 : Int) (x2 : Int) (x3 : Int) : Int := (bif !F72r0 (if x2 > x0 then x2 else x0) (if x3 < x1 then x3 else x1) then 0 else if x3 < x1 then x3 else x1)
def F57r2 (x0 : Int) (x1 : Int) (x2 : Int) (x3 : Int) : Bool := (bif !F72r0 (if x2 > x0 then x2 else x0) (if x3 < x1 then x3 else x1) then false else true)
def S57 : Spec
  | [.agg [.lit (.int .i64 x0), .lit (.int .i64 x1)], .agg [.lit (.int .i64 x2), .lit (.int .i64 x3)]], s => some (.tup [.agg [.lit (.int .i64 (F57r0 x0 x1 x2 x3)), .lit (.int .i64 (F57r1 x0 x1 x2 x3))], .lit (.bool (F57r2 x0 x1 x2 x3))], s)
  | _, _ => none
theorem tree57 (x0 : Int) (x1 : Int) (x2 : Int) (x3 : Int) (Q : AV → St → Prop) : funP Go.Vm.G sp57 57 [.agg [.lit (.int .i64 x0), .lit (.int .i64 x1)], .agg [.lit (.int .i64 x2), .lit (.int .i64 x3)]] St.nil (Hint.ite Hint.done Hint.done) Q = (((!F72r0 (if x2 > x0 then x2 else x0) (if x3 < x1 then x3 else x1)) = true → Q (AV.tup [AV.agg [AV.lit (Value.int IntKind.i64 0), AV.lit (Value.int IntKind.i64 0)], AV.lit (Value.bool false)]) (St.mk 0 0 Tr.nil)) ∧ ((!F72r0 (if x2 > x0 then x2 else x0) (if x3 < x1 then x3 else x1)) = false → Q (AV.tup [AV.agg [AV.lit (Value.int IntKind.i64 (if x2 > x0 then x2 else x0)), AV.lit (Value.int IntKind.i64 (if x3 < x1 then x3 else x1))], AV.lit (Value.bool true)]) (St.mk 0 0 Tr.nil))) := by kernel_rfl
theorem ok57 : Ok Go.Vm.G 57 S57 := by
  intro args s v s' h
  unfold S57 at h
  split at h
  · skip
    rename_i x0 x1 x2 x3
    injection h with h; injection h with h1 h2; subst h1; subst h2
    refine runs_of_alone sp57_ok rfl (args' := [.agg [.lit (.int .i64 x0), .lit (.int .i64 x1)], .agg [.lit (.int .i64 x2), .lit (.int .i64 x3)]]) (by kernel_rfl) (h := Hint.ite Hint.done Hint.done) ?_
    rw [tree57]
    exact ⟨fun h0 => (by simp only [F57r0, F57r1, F57r2, h0, cond_true]; kernel_rfl), fun h0 => (by simp only [F57r0, F57r1, F57r2, h0, cond_false]; kernel_rfl)⟩
  · cases h

def sp53 : CallT := table []
theorem sp53_ok : SpecOk Go.Vm.G sp53 := SpecOk.nil
theorem tree53 (hs : List (Int × Int)) (n lo hi : Int) (s : St) (Q : AV → St → Prop) : funP Go.Vm.G sp53 53 [.sl .ro (hs.map pr), li n] (s) (Hint.ite (Hint.go (Hint.go (Hint.go (Hint.go (Hint.go Hint.done))))) (Hint.go (Hint.go (Hint.go (Hint.go (Hint.ite Hint.done (Hint.got 3 3 (AV.vp [AV.lit (Value.int IntKind.i64 lo), AV.lit (Value.int IntKind.i64 hi)] 0) none Hint.done))))))) Q = ((decide (n < 1) = true → Q (AV.tup [AV.agg [AV.lit (Value.int IntKind.i64 0), AV.lit (Value.int IntKind.i64 0)], AV.lit (Value.bool false)]) s) ∧ (decide (n < 1) = false → (decide (n > ↑(List.length (List.map pr hs))) = true → Q (AV.tup [AV.agg [AV.lit (Value.int IntKind.i64 0), AV.lit (Value.int IntKind.i64 0)], AV.lit (Value.bool false)]) s) ∧ (decide (n > ↑(List.length (List.map pr hs))) = false → indexAddr G 49 (AV.sl Tok.ro (List.map pr hs)) (AV.lit (Value.int IntKind.i64 (IntKind.wrap IntKind.i64 (n - 1)))) = some (AV.vp [AV.lit (Value.int IntKind.i64 lo), AV.lit (Value.int IntKind.i64 hi)] 0) ∧ Q (AV.tup [AV.agg [AV.lit (Value.int IntKind.i64 lo), AV.lit (Value.int IntKind.i64 hi)], AV.lit (Value.bool true)]) s))) := by kernel_rfl

def sp16 : CallT := table [(54, S54), (55, S55)]
theorem sp16_ok : SpecOk Go.Vm.G sp16 := SpecOk.cons ok54 (SpecOk.cons ok55 (SpecOk.nil))
theorem tree16 (k a b n : Int) (hs : List (Int × Int)) (ls : List Int) (lo1 hi1 lo2 hi2 ln : Int) (q1 q2 : Bool) (s : St) (Q : AV → St → Prop) : funP Go.Vm.G sp16 16 [.agg [li k, li a, li b, li n], .sl .ro (hs.map pr), .sl .ro (ls.map li)] (s) (Hint.got 1 3 (AV.tup [AV.agg [AV.lit (Value.int IntKind.i64 lo1), AV.lit (Value.int IntKind.i64 hi1)], AV.lit (Value.bool q1)]) none (Hint.ite Hint.done (Hint.ite Hint.done (Hint.ite Hint.done (Hint.ite Hint.done (Hint.ite (Hint.got 12 3 (AV.tup [AV.agg [AV.lit (Value.int IntKind.i64 lo2), AV.lit (Value.int IntKind.i64 hi2)], AV.lit (Value.bool q2)]) none (Hint.ite (Hint.go (Hint.go Hint.done)) (Hint.go (Hint.go Hint.done)))) (Hint.ite (Hint.ite (Hint.go (Hint.go (Hint.go (Hint.go (Hint.go (Hint.ite (Hint.go (Hint.go (Hint.go (Hint.ite (Hint.go (Hint.go (Hint.go (Hint.go (Hint.go (Hint.go (Hint.got 16 22 (AV.vp [AV.lit (Value.int IntKind.i64 ln)] 0) none (Hint.go (Hint.go (Hint.go Hint.done)))))))))) (Hint.go (Hint.go (Hint.go (Hint.go (Hint.go (Hint.go (Hint.go (Hint.go (Hint.go Hint.done))))))))))))) (Hint.go (Hint.go (Hint.go (Hint.go (Hint.go (Hint.go (Hint.go (Hint.go (Hint.go (Hint.go (Hint.go (Hint.go (Hint.go Hint.done))))))))))))))))))) (Hint.go (Hint.go (Hint.go (Hint.go (Hint.go (Hint.go (Hint.go (Hint.go (Hint.go (Hint.go (Hint.go (Hint.go (Hint.go (Hint.go (Hint.go (Hint.go (Hint.go (Hint.go (Hint.go Hint.done)))))))))))))))))))) Hint.done))))))) Q = (Runs G 53 [AV.sl Tok.ro (List.map pr hs), AV.lit (Value.int IntKind.i64 a)] s (AV.tup [AV.agg [AV.lit (Value.int IntKind.i64 lo1), AV.lit (Value.int IntKind.i64 hi1)], AV.lit (Value.bool q1)]) s ∧ ((!q1) = true → Q (AV.lit (Value.bool false)) s) ∧ ((!q1) = false → ((k == 1) = true → Q (AV.lit (Value.bool !F54r0 lo1 hi1 0)) s) ∧ ((k == 1) = false → ((k == 2) = true → Q (AV.lit (Value.bool (decide (lo1 ≥ n)))) s) ∧ ((k == 2) = false → ((k == 3) = true → Q (AV.lit (Value.bool (decide (hi1 ≤ n)))) s) ∧ ((k == 3) = false → ((k == 4) = true → Runs G 53 [AV.sl Tok.ro (List.map pr hs), AV.lit (Value.int IntKind.i64 b)] s (AV.tup [AV.agg [AV.lit (Value.int IntKind.i64 lo2), AV.lit (Value.int IntKind.i64 hi2)], AV.lit (Value.bool q2)]) s ∧ (q2 = true → Q (AV.lit (Value.bool !F55r2 lo1 hi1 lo2 hi2)) s) ∧ (q2 = false → Q (AV.lit (Value.bool false)) s)) ∧ ((k == 4) = false → ((k == 5) = true → (decide (b ≥ 1) = true → (decide (b ≤ ↑(List.length (List.map li ls))) = true → (decide (lo1 ≥ 0) = true → indexAddr G 50 (AV.sl Tok.ro (List.map li ls)) (AV.lit (Value.int IntKind.i64 (IntKind.wrap IntKind.i64 (b - 1)))) = some (AV.vp [AV.lit (Value.int IntKind.i64 ln)] 0) ∧ Q (AV.lit (Value.bool (decide (hi1 < ln)))) s) ∧ (decide (lo1 ≥ 0) = false → Q (AV.lit (Value.bool false)) s)) ∧ (decide (b ≤ ↑(List.length (List.map li ls))) = false → Q (AV.lit (Value.bool false)) s)) ∧ (decide (b ≥ 1) = false → Q (AV.lit (Value.bool false)) s)) ∧ ((k == 5) = false → Q (AV.lit (Value.bool false)) s))))))) := by kernel_rfl

def sp18 : CallT := table [(56, S56), (57, S57)]
theorem sp18_ok : SpecOk Go.Vm.G sp18 := SpecOk.cons ok56 (SpecOk.cons ok57 (SpecOk.nil))
theorem tree18 (k a b n : Int) (hs : List (Int × Int)) (ls : List Int) (lo1 hi1 lo2 hi2 ln : Int) (s : St) (Q : AV → St → Prop) : funP Go.Vm.G sp18 18 [.agg [li k, li a, li b, li n], .sl .ro (hs.map pr), .sl .ro (ls.map li)] (s) (Hint.ite (Hint.go (Hint.go (Hint.go (Hint.go (Hint.go (Hint.go Hint.done)))))) (Hint.go (Hint.go (Hint.go (Hint.go (Hint.go (Hint.ite Hint.done (Hint.got 3 4 (AV.vp [AV.lit (Value.int IntKind.i64 lo1), AV.lit (Value.int IntKind.i64 hi1)] 0) none (Hint.ite Hint.done (Hint.ite Hint.done (Hint.ite Hint.done (Hint.ite (Hint.ite (Hint.go (Hint.go (Hint.go (Hint.go (Hint.go (Hint.go Hint.done)))))) (Hint.go (Hint.go (Hint.go (Hint.go (Hint.go (Hint.ite Hint.done (Hint.got 14 5 (AV.vp [AV.lit (Value.int IntKind.i64 lo2), AV.lit (Value.int IntKind.i64 hi2)] 0) none Hint.done)))))))) (Hint.ite (Hint.ite (Hint.go (Hint.go (Hint.go (Hint.go (Hint.go (Hint.ite (Hint.go (Hint.go (Hint.go (Hint.ite (Hint.go (Hint.go (Hint.go (Hint.go (Hint.go (Hint.go (Hint.got 17 22 (AV.vp [AV.lit (Value.int IntKind.i64 ln)] 0) none (Hint.go (Hint.go (Hint.go Hint.done)))))))))) (Hint.go (Hint.go (Hint.go (Hint.go (Hint.go (Hint.go (Hint.go (Hint.go (Hint.go Hint.done))))))))))))) (Hint.go (Hint.go (Hint.go (Hint.go (Hint.go (Hint.go (Hint.go (Hint.go (Hint.go (Hint.go (Hint.go (Hint.go (Hint.go Hint.done))))))))))))))))))) (Hint.go (Hint.go (Hint.go (Hint.go (Hint.go (Hint.go (Hint.go (Hint.go (Hint.go (Hint.go (Hint.go (Hint.go (Hint.go (Hint.go (Hint.go (Hint.go (Hint.go (Hint.go (Hint.go Hint.done)))))))))))))))))))) Hint.done))))))))))))) Q = ((decide (a < 1) = true → Q (AV.lit (Value.bool false)) s) ∧ (decide (a < 1) = false → (decide (a > ↑(List.length (List.map pr hs))) = true → Q (AV.lit (Value.bool false)) s) ∧ (decide (a > ↑(List.length (List.map pr hs))) = false → indexAddr G 49 (AV.sl Tok.ro (List.map pr hs)) (AV.lit (Value.int IntKind.i64 (IntKind.wrap IntKind.i64 (a - 1)))) = some (AV.vp [AV.lit (Value.int IntKind.i64 lo1), AV.lit (Value.int IntKind.i64 hi1)] 0) ∧ ((k == 1) = true → Q (AV.lit (Value.bool !F56r0 lo1 hi1 0)) s) ∧ ((k == 1) = false → ((k == 2) = true → Q (AV.lit (Value.bool (decide (lo1 ≥ n)))) s) ∧ ((k == 2) = false → ((k == 3) = true → Q (AV.lit (Value.bool (decide (hi1 ≤ n)))) s) ∧ ((k == 3) = false → ((k == 4) = true → (decide (b < 1) = true → Q (AV.lit (Value.bool false)) s) ∧ (decide (b < 1) = false → (decide (b > ↑(List.length (List.map pr hs))) = true → Q (AV.lit (Value.bool false)) s) ∧ (decide (b > ↑(List.length (List.map pr hs))) = false → indexAddr G 49 (AV.sl Tok.ro (List.map pr hs)) (AV.lit (Value.int IntKind.i64 (IntKind.wrap IntKind.i64 (b - 1)))) = some (AV.vp [AV.lit (Value.int IntKind.i64 lo2), AV.lit (Value.int IntKind.i64 hi2)] 0) ∧ Q (AV.lit (Value.bool !F57r2 lo1 hi1 lo2 hi2)) s))) ∧ ((k == 4) = false → ((k == 5) = true → (decide (b ≥ 1) = true → (decide (b ≤ ↑(List.length (List.map li ls))) = true → (decide (lo1 ≥ 0) = true → indexAddr G 50 (AV.sl Tok.ro (List.map li ls)) (AV.lit (Value.int IntKind.i64 (IntKind.wrap IntKind.i64 (b - 1)))) = some (AV.vp [AV.lit (Value.int IntKind.i64 ln)] 0) ∧ Q (AV.lit (Value.bool (decide (hi1 < ln)))) s) ∧ (decide (lo1 ≥ 0) = false → Q (AV.lit (Value.bool false)) s)) ∧ (decide (b ≤ ↑(List.length (List.map li ls))) = false → Q (AV.lit (Value.bool false)) s)) ∧ (decide (b ≥ 1) = false → Q (AV.lit (Value.bool false)) s)) ∧ ((k == 5) = false → Q (AV.lit (Value.bool false)) s)))))))) := by kernel_rfl

def sp4 : CallT := table [(17, S17)]
theorem sp4_ok : SpecOk Go.Vm.G sp4 := SpecOk.cons ok17 (SpecOk.nil)
theorem tree4 (k a b n kd : Int) (hs : List (Int × Int)) (ls : List Int) (u1 u2 : Bool) (s : St) (Q : AV → St → Prop) : funP Go.Vm.G sp4 4 [.agg [li k, li a, li b, li n], li kd, .sl .ro (hs.map pr), .sl .ro (ls.map li)] (s) (Hint.got 4 3 (AV.lit (Value.bool u1)) none (Hint.got 4 7 (AV.lit (Value.bool u1)) none (Hint.ite (Hint.go (Hint.go (Hint.go (Hint.got 4 13 (AV.lit (Value.bool u2)) none (Hint.go (Hint.go (Hint.go (Hint.go (Hint.got 4 17 (AV.lit (Value.bool u2)) none (Hint.go (Hint.go (Hint.ite (Hint.got 4 21 (AV.lit (Value.bool true)) none (Hint.go Hint.done)) (Hint.go Hint.done))))))))))))) (Hint.go (Hint.go (Hint.go (Hint.go (Hint.go (Hint.go (Hint.go (Hint.go (Hint.go (Hint.go (Hint.go Hint.done)))))))))))))) Q = (Runs G 16 [AV.agg [AV.lit (Value.int IntKind.i64 k), AV.lit (Value.int IntKind.i64 a), AV.lit (Value.int IntKind.i64 b), AV.lit (Value.int IntKind.i64 n)], AV.sl Tok.ro (List.map pr hs), AV.sl Tok.ro (List.map li ls)] s (AV.lit (Value.bool u1)) s ∧ Runs G 18 [AV.agg [AV.lit (Value.int IntKind.i64 k), AV.lit (Value.int IntKind.i64 a), AV.lit (Value.int IntKind.i64 b), AV.lit (Value.int IntKind.i64 n)], AV.sl Tok.ro (List.map pr hs), AV.sl Tok.ro (List.map li ls)] s (AV.lit (Value.bool u1)) s ∧ ((u1 == u1) = true → Runs G 16 [AV.agg [AV.lit (Value.int IntKind.i64 (F17r0 kd 9)), AV.lit (Value.int IntKind.i64 (F17r0 a 5)), AV.lit (Value.int IntKind.i64 (F17r0 b 5)), AV.lit (Value.int IntKind.i64 n)], AV.sl Tok.ro (List.map pr hs), AV.sl Tok.ro (List.map li ls)] s (AV.lit (Value.bool u2)) s ∧ Runs G 18 [AV.agg [AV.lit (Value.int IntKind.i64 (F17r0 kd 9)), AV.lit (Value.int IntKind.i64 (F17r0 a 5)), AV.lit (Value.int IntKind.i64 (F17r0 b 5)), AV.lit (Value.int IntKind.i64 n)], AV.sl Tok.ro (List.map pr hs), AV.sl Tok.ro (List.map li ls)] s (AV.lit (Value.bool u2)) s ∧ ((u2 == u2) = true → Runs G 3 [] s (AV.lit (Value.bool true)) s ∧ Q (AV.lit (Value.bool true)) s) ∧ ((u2 == u2) = false → Q (AV.lit (Value.bool false)) s)) ∧ ((u1 == u1) = false → Q (AV.lit (Value.bool false)) s)) := by kernel_rfl

theorem indexAddr_pr {hs : List (Int × Int)} {n : Int} (hn : W n) (h0 : ¬ n < 1) (h1 : ¬ n > hs.length) : indexAddr G 49 (.sl .ro (hs.map pr)) (.lit (.int .i64 (IntKind.wrap .i64 (n - 1)))) = some (.vp [.lit (.int .i64 (hs.getD (n - 1).toNat (0, 0)).1), .lit (.int .i64 (hs.getD (n - 1).toNat (0, 0)).2)] 0) := by
  unfold W at hn
  rw [wrap_i64_id (by omega) (by omega)]
  have hl : (n - 1).toNat < hs.length := by omega
  have hv : (hs.map pr)[(n - 1).toNat]? = some (pr (hs.getD (n - 1).toNat (0, 0))) := by
    rw [List.getElem?_map, List.getD_eq_getElem?_getD, List.getElem?_eq_getElem hl]; rfl
  exact indexAddr_sl (v := pr (hs.getD (n - 1).toNat (0, 0))) (by kernel_rfl) (by omega) hv
theorem indexAddr_li {ls : List Int} {n : Int} (hn : W n) (h0 : 1 ≤ n) (h1 : n ≤ ls.length) : indexAddr G 50 (.sl .ro (ls.map li)) (.lit (.int .i64 (IntKind.wrap .i64 (n - 1)))) = some (.vp [.lit (.int .i64 (ls.getD (n - 1).toNat 0))] 0) := by
  unfold W at hn
  rw [wrap_i64_id (by omega) (by omega)]
  have hl : (n - 1).toNat < ls.length := by omega
  have hv : (ls.map li)[(n - 1).toNat]? = some (li (ls.getD (n - 1).toNat 0)) := by
    rw [List.getElem?_map, List.getD_eq_getElem?_getD, List.getElem?_eq_getElem hl]; rfl
  exact indexAddr_sl (v := li (ls.getD (n - 1).toNat 0)) (by kernel_rfl) (by omega) hv
/-- The n-th interval, if there is one. -/
def inside (hs : List (Int × Int)) (n : Int) : Bool := !decide (n < 1) && !decide (n > (hs.length : Int))
def nth (hs : List (Int × Int)) (n : Int) : Int × Int := if inside hs n = true then hs.getD (n - 1).toNat (0, 0) else (0, 0)
theorem run53 (hs : List (Int × Int)) {n : Int} (hn : W n) (s : St) : Runs G 53 [.sl .ro (hs.map pr), li n] s (.tup [.agg [.lit (.int .i64 (nth hs n).1), .lit (.int .i64 (nth hs n).2)], .lit (.bool (inside hs n))]) s := by
  obtain ⟨v, s', R, h1, h2⟩ := runs_of_funP sp53_ok (f := 53) (by kernel_rfl) (args := [.sl .ro (hs.map pr), li n]) (s := s) (Q := fun v s' => v = .tup [.agg [.lit (.int .i64 (nth hs n).1), .lit (.int .i64 (nth hs n).2)], .lit (.bool (inside hs n))] ∧ s' = s) (by
    rw [tree53 hs n (hs.getD (n - 1).toNat (0, 0)).1 (hs.getD (n - 1).toNat (0, 0)).2 s]
    simp only [List.length_map]
    refine ⟨fun h => ⟨?_, trivial⟩, fun h0 => ⟨fun h => ⟨?_, trivial⟩, fun h1 => ⟨indexAddr_pr hn (of_decide_eq_false h0) (of_decide_eq_false h1), ?_, trivial⟩⟩⟩
    · have : inside hs n = false := by simp only [inside, h]; rfl
      simp only [nth, this]; rfl
    · have : inside hs n = false := by simp only [inside, h0, h]; rfl
      simp only [nth, this]; rfl
    · have : inside hs n = true := by simp only [inside, h0, h1]; rfl
      simp only [nth, this, if_true])
  rw [h1, h2] at R; exact R
/-- What both texts say of a condition. -/
def hold (k a b n : Int) (hs : List (Int × Int)) (ls : List Int) : Bool :=
  bif !inside hs a then false else bif k == 1 then !F54r0 (nth hs a).1 (nth hs a).2 0 else bif k == 2 then decide ((nth hs a).1 ≥ n) else bif k == 3 then decide ((nth hs a).2 ≤ n)
  else bif k == 4 then (bif inside hs b then !F55r2 (nth hs a).1 (nth hs a).2 (nth hs b).1 (nth hs b).2 else false)
  else bif k == 5 then (bif decide (b ≥ 1) then bif decide (b ≤ (ls.length : Int)) then bif decide ((nth hs a).1 ≥ 0) then decide ((nth hs a).2 < ls.getD (b - 1).toNat 0) else false else false else false) else false
theorem run16 (k n : Int) {a b : Int} (ha : W a) (hb : W b) (hs : List (Int × Int)) (ls : List Int) (s : St) : Runs G 16 [.agg [li k, li a, li b, li n], .sl .ro (hs.map pr), .sl .ro (ls.map li)] s (.lit (.bool (hold k a b n hs ls))) s := by
  obtain ⟨v, s', R, h1, h2⟩ := runs_of_funP sp16_ok (f := 16) (by kernel_rfl) (args := [.agg [li k, li a, li b, li n], .sl .ro (hs.map pr), .sl .ro (ls.map li)]) (s := s) (Q := fun v s' => v = .lit (.bool (hold k a b n hs ls)) ∧ s' = s) (by
    rw [tree16 k a b n hs ls (nth hs a).1 (nth hs a).2 (nth hs b).1 (nth hs b).2 (ls.getD (b - 1).toNat 0) (inside hs a) (inside hs b) s]
    simp only [List.length_map]
    refine ⟨run53 hs ha s, fun h => ⟨?_, trivial⟩, fun h0 => ⟨fun h => ⟨?_, trivial⟩, fun h1 => ⟨fun h => ⟨?_, trivial⟩, fun h2 => ⟨fun h => ⟨?_, trivial⟩, fun h3 => ⟨fun h => ⟨run53 hs hb s, fun h' => ⟨?_, trivial⟩, fun h' => ⟨?_, trivial⟩⟩, fun h4 =>
      ⟨fun h => ⟨fun h5 => ⟨fun h6 => ⟨fun h7 => ⟨indexAddr_li hb (of_decide_eq_true h5) (of_decide_eq_true h6), ?_, trivial⟩, fun h' => ⟨?_, trivial⟩⟩, fun h' => ⟨?_, trivial⟩⟩, fun h' => ⟨?_, trivial⟩⟩, fun h => ⟨?_, trivial⟩⟩⟩⟩⟩⟩⟩
    all_goals simp only [hold, *, cond_true, cond_false])
  rw [h1, h2] at R; exact R
theorem inside_of {hs : List (Int × Int)} {n : Int} (h0 : decide (n < 1) = false) (h1 : decide (n > (hs.length : Int)) = false) : inside hs n = true := by simp only [inside, h0, h1]; rfl
theorem nth_of {hs : List (Int × Int)} {n : Int} (h : inside hs n = true) : hs.getD (n - 1).toNat (0, 0) = nth hs n := by rw [nth, if_pos h]
theorem F56_54 (x y z : Int) : F56r0 x y z = F54r0 x y z := rfl
theorem F57_55 (x y z t : Int) : F57r2 x y z t = F55r2 x y z t := rfl
theorem run18 (k n : Int) {a b : Int} (ha : W a) (hb : W b) (hs : List (Int × Int)) (ls : List Int) (s : St) : Runs G 18 [.agg [li k, li a, li b, li n], .sl .ro (hs.map pr), .sl .ro (ls.map li)] s (.lit (.bool (hold k a b n hs ls))) s := by
  obtain ⟨v, s', R, h1, h2⟩ := runs_of_funP sp18_ok (f := 18) (by kernel_rfl) (args := [.agg [li k, li a, li b, li n], .sl .ro (hs.map pr), .sl .ro (ls.map li)]) (s := s) (Q := fun v s' => v = .lit (.bool (hold k a b n hs ls)) ∧ s' = s) (by
    rw [tree18 k a b n hs ls (hs.getD (a - 1).toNat (0, 0)).1 (hs.getD (a - 1).toNat (0, 0)).2 (hs.getD (b - 1).toNat (0, 0)).1 (hs.getD (b - 1).toNat (0, 0)).2 (ls.getD (b - 1).toNat 0) s]
    simp only [List.length_map]
    refine ⟨fun h => ⟨?_, trivial⟩, fun p0 => ⟨fun h => ⟨?_, trivial⟩, fun p1 => ⟨indexAddr_pr ha (of_decide_eq_false p0) (of_decide_eq_false p1), ?_⟩⟩⟩
    · have : inside hs a = false := by simp only [inside, h]; rfl
      simp only [hold, this]; rfl
    · have : inside hs a = false := by simp only [inside, p0, h]; rfl
      simp only [hold, this]; rfl
    have hi := inside_of p0 p1
    rw [nth_of hi]
    refine ⟨fun h => ⟨?_, trivial⟩, fun h1 => ⟨fun h => ⟨?_, trivial⟩, fun h2 => ⟨fun h => ⟨?_, trivial⟩, fun h3 => ⟨fun h => ⟨fun h' => ⟨?_, trivial⟩, fun p2 => ⟨fun h' => ⟨?_, trivial⟩, fun p3 => ⟨indexAddr_pr hb (of_decide_eq_false p2) (of_decide_eq_false p3), ?_, trivial⟩⟩⟩, fun h4 =>
      ⟨fun h => ⟨fun h5 => ⟨fun h6 => ⟨fun h7 => ⟨indexAddr_li hb (of_decide_eq_true h5) (of_decide_eq_true h6), ?_, trivial⟩, fun h' => ⟨?_, trivial⟩⟩, fun h' => ⟨?_, trivial⟩⟩, fun h' => ⟨?_, trivial⟩⟩, fun h => ⟨?_, trivial⟩⟩⟩⟩⟩⟩
    case refine_4 =>
      have : inside hs b = false := by simp only [inside, h']; rfl
      simp only [hold, hi, h1, h2, h3, h, this, cond_true, cond_false, Bool.not_true]
    case refine_5 =>
      have : inside hs b = false := by simp only [inside, p2, h']; rfl
      simp only [hold, hi, h1, h2, h3, h, this, cond_true, cond_false, Bool.not_true]
    case refine_6 =>
      have hj := inside_of p2 p3
      rw [nth_of hj, F57_55]
      simp only [hold, hi, h1, h2, h3, h, hj, cond_true, cond_false, Bool.not_true]
    all_goals simp only [hold, hi, F56_54, *, cond_true, cond_false, Bool.not_true])
  rw [h1, h2] at R; exact R
theorem F17_W (n m : Int) (h0 : 0 < m) (h1 : m < 4611686018427387904) : W (F17r0 n m) := by
  unfold F17r0
  have h2 := Int.tmod_lt_of_pos n h0
  have h3 : -m < n.tmod m := by
    have := Int.lt_tmod_of_pos n h0
    omega
  cases h : decide (n.tmod m < 0) with
  | true => rw [cond_true]; exact W.wrap _
  | false => rw [cond_false]; have := of_decide_eq_false h; unfold W; omega
theorem law4 (k a b n kd : Int) (hs : List (Int × Int)) (ls : List Int) (ha : W a) (hb : W b) (s : St) : ∃ s', Runs G 4 [.agg [li k, li a, li b, li n], li kd, .sl .ro (hs.map pr), .sl .ro (ls.map li)] s (.lit (.bool true)) s' := by
  obtain ⟨v, s', R, h1⟩ := runs_of_funP sp4_ok (f := 4) (by kernel_rfl) (args := [.agg [li k, li a, li b, li n], li kd, .sl .ro (hs.map pr), .sl .ro (ls.map li)]) (s := s) (Q := fun v _ => v = .lit (.bool true)) (by
    rw [tree4 k a b n kd hs ls (hold k a b n hs ls) (hold (F17r0 kd 9) (F17r0 a 5) (F17r0 b 5) n hs ls) s]
    refine ⟨run16 k n ha hb hs ls s, run18 k n ha hb hs ls s, fun _ => ⟨run16 _ n (F17_W a 5 (by decide) (by decide)) (F17_W b 5 (by decide) (by decide)) hs ls s, run18 _ n (F17_W a 5 (by decide) (by decide)) (F17_W b 5 (by decide) (by decide)) hs ls s, fun _ => ⟨law3 s, rfl⟩, fun h => ?_⟩, fun h => ?_⟩
    · simp at h
    · simp at h)
  subst h1
  exact ⟨s', R⟩
end
end Go.Vm
