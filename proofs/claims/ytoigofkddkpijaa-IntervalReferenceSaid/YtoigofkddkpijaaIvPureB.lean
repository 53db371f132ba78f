/-
  Intervals and words: what the operations on intervals give holds what the operations on words give; no conditions but those that the theorems name.
-/
import Derived.Test.YtoigofkddkpijaaIv2
namespace Go.Vm

/-! The reference and the program agree -/
theorem F48_F32 (a b c d : Int) : F48r0 a b c d = F32r0 a b c d ∧ F48r1 a b c d = F32r1 a b c d ∧ F48r2 a b c d = F32r2 a b c d := ⟨rfl, rfl, rfl⟩
theorem F49_F37 (a b c d : Int) : F49r0 a b c d = F37r0 a b c d ∧ F49r1 a b c d = F37r1 a b c d := ⟨rfl, rfl⟩
theorem F50_F38 (a b c d : Int) : F50r0 a b c d = F38r0 a b c d ∧ F50r1 a b c d = F38r1 a b c d := ⟨rfl, rfl⟩
theorem F52_F35 (a b : Int) : F52r0 a b = F35r0 a b := rfl
theorem F53_F34 (a b n : Int) : F53r0 a b n = F34r0 a b n := rfl
theorem F51_F45 (a b c d e f : Int) : F51r0 a b c d e f = F45r0 a b c d e f ∧ F51r1 a b c d e f = F45r1 a b c d e f := ⟨rfl, rfl⟩
theorem F46_F42 (o a b : Int) : F46r0 o a b = F42r0 o a b ∧ F46r1 o a b = F42r1 o a b := by
  have e1 : F52r0 a b = F35r0 a b := rfl
  have e2 : F86r0 a b = F70r0 a b := rfl
  have e3 : F87r0 (F44r0 o a) = F71r0 (F85r0 o a) := rfl
  have e4 : F87r1 (F44r0 o a) = F71r1 (F85r0 o a) := rfl
  unfold F46r0 F46r1 F42r0 F42r1
  rw [e1, e2, e3, e4]
  cases F35r0 a b <;> cases (o != 20) <;> cases (o != 21) <;> exact ⟨rfl, rfl⟩
theorem F88_ok {x y : Int} (hx : W x) (hy : W y) : F88r1 x y = decide (W (x + y)) := by
  unfold W at hx hy
  unfold F88r1
  have h := wrap_i64 (x + y)
  by_cases hw : W (x + y)
  · rw [decide_eq_true hw]
    unfold W at hw
    rw [wrap_i64_id (by omega) (by omega)]
    by_cases h1 : x < 0 <;> by_cases h2 : y < 0 <;> simp [h1, h2] <;> omega
  · rw [decide_eq_false hw]
    unfold W at hw
    by_cases h1 : x < 0 <;> by_cases h2 : y < 0 <;> simp [h1, h2] <;> split at h <;> omega
theorem F90_ok {x y : Int} (hx : W x) (hy : W y) : F90r1 x y = decide (W (x - y)) := by
  unfold W at hx hy
  unfold F90r1
  have h := wrap_i64 (x - y)
  by_cases hw : W (x - y)
  · rw [decide_eq_true hw]
    unfold W at hw
    rw [wrap_i64_id (by omega) (by omega)]
    by_cases h1 : x < 0 <;> by_cases h2 : y < 0 <;> simp [h1, h2] <;> omega
  · rw [decide_eq_false hw]
    unfold W at hw
    by_cases h1 : x < 0 <;> by_cases h2 : y < 0 <;> simp [h1, h2] <;> split at h <;> omega
theorem F91_val (x y : Int) : F91r0 x y = IntKind.wrap .i64 (x * y) := by
  unfold F91r0
  have z : IntKind.wrap .i64 0 = 0 := by decide
  by_cases h1 : x = 0
  · subst h1; rw [Int.zero_mul, z]; rfl
  · by_cases h2 : y = 0
    · subst h2; rw [Int.mul_zero, z]; cases x == 0 <;> rfl
    · have e1 : (x == 0) = false := by simpa using h1
      have e2 : (y == 0) = false := by simpa using h2
      rw [e1, e2]; rfl
theorem F91_ok {x y : Int} (hx : W x) (hy : W y) : F91r1 x y = decide (W (x * y)) := by
  unfold F91r1
  by_cases h1 : x = 0
  · subst h1
    rw [Int.zero_mul, decide_eq_true (by decide : W 0)]; rfl
  · have e1 : (x == 0) = false := by simpa using h1
    by_cases h2 : y = 0
    · subst h2
      rw [Int.mul_zero, decide_eq_true (by decide : W 0), e1]; rfl
    · have e2 : (y == 0) = false := by simpa using h2
      rw [e1, e2, cond_false, cond_false]
      by_cases h3 : x = -1
      · subst h3
        unfold W at *
        have : ((-1 : Int) == -1) = true := rfl
        rw [this, cond_true]
        by_cases k : y = -9223372036854775808
        · subst k; decide
        · have k' : (y != -9223372036854775808) = true := by simpa using k
          have k2 : ((-1 : Int) != -9223372036854775808) = true := rfl
          rw [k', k2, cond_true]; symm; apply decide_eq_true; omega
      · have e3 : (x == -1) = false := by simpa using h3
        rw [e3, cond_false]
        by_cases h4 : y = -1
        · subst h4
          unfold W at *
          have : ((-1 : Int) == -1) = true := rfl
          rw [this, cond_true]
          by_cases k : x = -9223372036854775808
          · subst k; decide
          · have k' : (x != -9223372036854775808) = true := by simpa using k
            have k2 : ((-1 : Int) != -9223372036854775808) = true := rfl
            rw [k', k2, cond_true]; symm; apply decide_eq_true; omega
        · have e4 : (y == -1) = false := by simpa using h4
          rw [e4, cond_false, Bool.eq_iff_iff, beq_iff_eq, decide_eq_true_eq]
          have hz := wrap_i64 (x * y)
          have hzr := wrap_i64_range (x * y)
          generalize hzz : IntKind.wrap .i64 (x * y) = z at *
          -- the quotient is a word
          have hq : W (z.tdiv y) := by
            by_cases hy0 : 0 < y
            · exact tdiv_word (by unfold W; omega) hy0
            · have half : ∀ w : Int, 0 ≤ w → w ≤ 9223372036854775808 → 0 ≤ w.tdiv (-y) ∧ w.tdiv (-y) ≤ 4611686018427387904 := fun w hw hw2 => by
                have k := tdiv_anti hw (by decide : (0 : Int) < 2) (by omega : 2 ≤ -y)
                rw [Int.tdiv_eq_ediv_of_nonneg (b := 2) hw] at k
                exact ⟨by rw [Int.tdiv_eq_ediv_of_nonneg hw]; exact Int.ediv_nonneg hw (by omega), by omega⟩
              have e : z.tdiv (-y) = -(z.tdiv y) := Int.tdiv_neg ..
              unfold W
              by_cases hz0 : 0 ≤ z
              · have := half z hz0 (by omega); omega
              · have := half (-z) (by omega) (by omega)
                rw [Int.neg_tdiv] at this; omega
          have hqe : IntKind.wrap .i64 (z.tdiv y) = z.tdiv y := by unfold W at hq; exact wrap_i64_id (by omega) (by omega)
          rw [hqe]
          have hr := Int.tmod_add_mul_tdiv z y
          have hrl : -(if 0 < y then y else -y) < z.tmod y ∧ z.tmod y < (if 0 < y then y else -y) := by
            have b : ∀ (z y : Int), 0 < y → -y < z.tmod y ∧ z.tmod y < y := fun z y h => by
              have k1 := Int.tmod_lt_of_pos z h
              have k2 := Int.tmod_lt_of_pos (-z) h
              rw [Int.neg_tmod] at k2; omega
            split
            · exact b z y (by omega)
            · have := b z (-y) (by omega)
              rw [Int.tmod_neg] at this; exact this
          constructor
          · intro hxq
            rw [hxq, Int.mul_comm y x] at hr
            unfold W at *
            generalize x * y = p at *
            split at hrl <;> split at hz <;> omega
          · intro hw
            unfold W at hw
            have : z = x * y := by rw [← hzz]; exact wrap_i64_id (by omega) (by omega)
            rw [this]; exact Int.mul_tdiv_cancel _ h2
theorem F92_val (p q r s : Int) (ok : Bool) : F92r0 p q r s ok = (bif !ok then -9223372036854775808 else min (min p q) (min r s)) ∧ F92r1 p q r s ok = (bif !ok then 9223372036854775807 else max (max p q) (max r s)) := by
  unfold F92r0 F92r1
  cases ok
  · exact ⟨rfl, rfl⟩
  · simp only [Bool.not_true, cond_false]
    constructor <;> (repeat' split) <;> omega
/-- One less than the least power of two above n. -/
def Ones (n x : Int) : Prop := ∃ k : Nat, k ≤ 63 ∧ x = 2 ^ k - 1 ∧ n < 2 ^ k ∧ (2 : Int) ^ k ≤ 2 * n + (if n = 0 then 1 else 0)
theorem ones_step {n m X : Int} (k : Nat) (hm : m = 2 ^ k - 1) (hk : k ≤ 63) (hl : (k = 0 ∧ 0 ≤ n) ∨ (2 : Int) ^ k ≤ 2 * n) (hX : (2 : Int) ^ (k + 1) ≤ 2 * n → Ones n X) : Ones n (bif decide (m < n) then X else m) := by
  by_cases h : m < n
  · rw [decide_eq_true h, cond_true]
    exact hX (by rw [Int.pow_succ]; omega)
  · rw [decide_eq_false h, cond_false]
    refine ⟨k, hk, hm, by omega, ?_⟩
    rcases hl with ⟨rfl, h0⟩ | hl
    · have : n = 0 := by simp at hm; omega
      subst this; decide
    · split <;> omega
theorem ones_last {n : Int} (h1 : n ≤ 9223372036854775807) (h : (2 : Int) ^ 63 ≤ 2 * n) : Ones n 9223372036854775807 :=
  ⟨63, by decide, by decide, by rw [show (2 : Int) ^ 63 = 9223372036854775808 by decide]; omega, by split <;> omega⟩
theorem F114_val {n : Int} (h0 : 0 ≤ n) (h1 : n ≤ 9223372036854775807) : Ones n (F114r0 n) :=
  ones_step 0 (by decide) (by decide) (.inl ⟨rfl, h0⟩) (fun h => ones_step 1 (by decide) (by decide) (.inr h) (fun h => ones_step 2 (by decide) (by decide) (.inr h) (fun h => ones_step 3 (by decide) (by decide) (.inr h) (fun h => ones_step 4 (by decide) (by decide) (.inr h) (fun h => ones_step 5 (by decide) (by decide) (.inr h) (fun h => ones_step 6 (by decide) (by decide) (.inr h) (fun h => ones_step 7 (by decide) (by decide) (.inr h) (fun h => ones_step 8 (by decide) (by decide) (.inr h) (fun h => ones_step 9 (by decide) (by decide) (.inr h) (fun h => ones_step 10 (by decide) (by decide) (.inr h) (fun h => ones_step 11 (by decide) (by decide) (.inr h) (fun h => ones_step 12 (by decide) (by decide) (.inr h) (fun h => ones_step 13 (by decide) (by decide) (.inr h) (fun h => ones_step 14 (by decide) (by decide) (.inr h) (fun h => ones_step 15 (by decide) (by decide) (.inr h) (fun h => ones_step 16 (by decide) (by decide) (.inr h) (fun h => ones_step 17 (by decide) (by decide) (.inr h) (fun h => ones_step 18 (by decide) (by decide) (.inr h) (fun h => ones_step 19 (by decide) (by decide) (.inr h) (fun h => ones_step 20 (by decide) (by decide) (.inr h) (fun h => ones_step 21 (by decide) (by decide) (.inr h) (fun h => ones_step 22 (by decide) (by decide) (.inr h) (fun h => ones_step 23 (by decide) (by decide) (.inr h) (fun h => ones_step 24 (by decide) (by decide) (.inr h) (fun h => ones_step 25 (by decide) (by decide) (.inr h) (fun h => ones_step 26 (by decide) (by decide) (.inr h) (fun h => ones_step 27 (by decide) (by decide) (.inr h) (fun h => ones_step 28 (by decide) (by decide) (.inr h) (fun h => ones_step 29 (by decide) (by decide) (.inr h) (fun h => ones_step 30 (by decide) (by decide) (.inr h) (fun h => ones_step 31 (by decide) (by decide) (.inr h) (fun h => ones_step 32 (by decide) (by decide) (.inr h) (fun h => ones_step 33 (by decide) (by decide) (.inr h) (fun h => ones_step 34 (by decide) (by decide) (.inr h) (fun h => ones_step 35 (by decide) (by decide) (.inr h) (fun h => ones_step 36 (by decide) (by decide) (.inr h) (fun h => ones_step 37 (by decide) (by decide) (.inr h) (fun h => ones_step 38 (by decide) (by decide) (.inr h) (fun h => ones_step 39 (by decide) (by decide) (.inr h) (fun h => ones_step 40 (by decide) (by decide) (.inr h) (fun h => ones_step 41 (by decide) (by decide) (.inr h) (fun h => ones_step 42 (by decide) (by decide) (.inr h) (fun h => ones_step 43 (by decide) (by decide) (.inr h) (fun h => ones_step 44 (by decide) (by decide) (.inr h) (fun h => ones_step 45 (by decide) (by decide) (.inr h) (fun h => ones_step 46 (by decide) (by decide) (.inr h) (fun h => ones_step 47 (by decide) (by decide) (.inr h) (fun h => ones_step 48 (by decide) (by decide) (.inr h) (fun h => ones_step 49 (by decide) (by decide) (.inr h) (fun h => ones_step 50 (by decide) (by decide) (.inr h) (fun h => ones_step 51 (by decide) (by decide) (.inr h) (fun h => ones_step 52 (by decide) (by decide) (.inr h) (fun h => ones_step 53 (by decide) (by decide) (.inr h) (fun h => ones_step 54 (by decide) (by decide) (.inr h) (fun h => ones_step 55 (by decide) (by decide) (.inr h) (fun h => ones_step 56 (by decide) (by decide) (.inr h) (fun h => ones_step 57 (by decide) (by decide) (.inr h) (fun h => ones_step 58 (by decide) (by decide) (.inr h) (fun h => ones_step 59 (by decide) (by decide) (.inr h) (fun h => ones_step 60 (by decide) (by decide) (.inr h) (fun h => ones_step 61 (by decide) (by decide) (.inr h) (fun h => ones_step 62 (by decide) (by decide) (.inr h) (fun h => ones_last h1 h)))))))))))))))))))))))))))))))))))))))))))))))))))))))))))))))
theorem ones_one {n x : Int} {k : Nat} (h : Ones n x) (h1 : n < 2 ^ k) (h2 : (2 : Int) ^ k ≤ 2 * n + (if n = 0 then 1 else 0)) : x = 2 ^ k - 1 := by
  obtain ⟨j, _, e, j1, j2⟩ := h
  have up : ∀ a b : Nat, a < b → (2 : Int) ^ a * 2 ≤ 2 ^ b := fun a b h => by
    rw [← Int.pow_succ]; exact_mod_cast Nat.pow_le_pow_right (by decide) h
  have pj := pow_pos' j
  have pk := pow_pos' k
  by_cases hz : n = 0
  · rw [if_pos hz] at j2 h2
    omega
  · rw [if_neg hz] at j2 h2
    rcases Nat.lt_trichotomy j k with h | h | h
    · have := up j k h; omega
    · rw [e, h]
    · have := up k j h; omega
theorem F114_ones {n : Int} (h0 : 0 ≤ n) (h1 : n ≤ 9223372036854775807) : F114r0 n = IntKind.wrap .i64 (IntKind.wrap .i64 (1 * 2 ^ min (Int.toNat (IntKind.wrap .u64 (F112r0 (IntKind.wrap .u64 n)))) 64) - 1) := by
  obtain ⟨k, _, k2, k3, k4⟩ := ones_val h0 h1
  rw [k4]; exact ones_one (F114_val h0 h1) k2 k3
/-- The reference's operations on intervals that are not of one word each. -/
def E0 (o a b c d : Int) : Int := (bif o == 4 then F89r0 (F88r0 a c) (F88r1 a c) (F88r0 b d) (F88r1 b d) else (bif o == 5 then F89r0 (F90r0 a d) (F90r1 a d) (F90r0 b c) (F90r1 b c) else (bif o == 6 then F92r0 (F91r0 a c) (F91r0 a d) (F91r0 b c) (F91r0 b d) (F91r1 a c && F91r1 a d && F91r1 b c && F91r1 b d) else (bif o == 7 then (bif decide (c < 1) then -9223372036854775808 else F92r0 (IntKind.wrap .i64 (Int.tdiv a c)) (IntKind.wrap .i64 (Int.tdiv a d)) (IntKind.wrap .i64 (Int.tdiv b c)) (IntKind.wrap .i64 (Int.tdiv b d)) true) else (bif o == 8 then (bif decide (c < 1) then -9223372036854775808 else F93r0 a b c d) else (bif o == 9 then F94r0 o a b c d else (bif o == 10 then F94r0 o a b c d else (bif o == 11 then F94r0 o a b c d else (bif o == 12 then F95r0 o a b c d else (bif o == 13 then F95r0 o a b c d else (bif o == 14 then F95r0 o a b c d else F96r0 o a b c d)))))))))))
def E1 (o a b c d : Int) : Int := (bif o == 4 then F89r1 (F88r0 a c) (F88r1 a c) (F88r0 b d) (F88r1 b d) else (bif o == 5 then F89r1 (F90r0 a d) (F90r1 a d) (F90r0 b c) (F90r1 b c) else (bif o == 6 then F92r1 (F91r0 a c) (F91r0 a d) (F91r0 b c) (F91r0 b d) (F91r1 a c && F91r1 a d && F91r1 b c && F91r1 b d) else (bif o == 7 then (bif decide (c < 1) then 9223372036854775807 else F92r1 (IntKind.wrap .i64 (Int.tdiv a c)) (IntKind.wrap .i64 (Int.tdiv a d)) (IntKind.wrap .i64 (Int.tdiv b c)) (IntKind.wrap .i64 (Int.tdiv b d)) true) else (bif o == 8 then (bif decide (c < 1) then 9223372036854775807 else F93r1 a b c d) else (bif o == 9 then F94r1 o a b c d else (bif o == 10 then F94r1 o a b c d else (bif o == 11 then F94r1 o a b c d else (bif o == 12 then F95r1 o a b c d else (bif o == 13 then F95r1 o a b c d else (bif o == 14 then F95r1 o a b c d else F96r1 o a b c d)))))))))))
theorem F47_eq {o a b c d : Int} (h1 : 4 ≤ o) (h2 : o ≤ 19) (hab : a ≤ b) (hcd : c ≤ d) :
    F47r0 o a b c d = (bif a == b && c == d then F41r0 o a c else E0 o a b c d) ∧ F47r1 o a b c d = (bif a == b && c == d then F41r0 o a c else E1 o a b c d) := by
  have e1 : decide (o < 4) = false := decide_eq_false (by omega)
  have e2 : decide (o > 19) = false := decide_eq_false (by omega)
  have e3 : F52r0 a b = true := decide_eq_true hab
  have e4 : F52r0 c d = true := decide_eq_true hcd
  unfold F47r0 F47r1 E0 E1
  simp only [e1, e2, e3, e4, cond_false, Bool.not_true, F86r0, F87r0, F87r1]
  constructor
  · cases a == b <;> cases c == d <;> cases F91r1 a c <;> cases F91r1 a d <;> cases F91r1 b c <;> rfl
  · cases a == b <;> cases c == d <;> cases F91r1 a c <;> cases F91r1 a d <;> cases F91r1 b c <;> rfl


theorem same_add {a b c d : Int} (ha : W a) (hb : W b) (hc : W c) (hd : W d) : E0 4 a b c d = D0 4 a b c d ∧ E1 4 a b c d = D1 4 a b c d := by
  show F89r0 (F88r0 a c) (F88r1 a c) (F88r0 b d) (F88r1 b d) = F73ar0 a c b d ∧ F89r1 (F88r0 a c) (F88r1 a c) (F88r0 b d) (F88r1 b d) = F73ar1 a c b d
  unfold F89r0 F89r1 F73ar0 F73ar1
  rw [F88_ok ha hc, F88_ok hb hd, F74_ok ha hc, F74_ok hb hd]
  exact ⟨rfl, rfl⟩
theorem same_sub {a b c d : Int} (ha : W a) (hb : W b) (hc : W c) (hd : W d) : E0 5 a b c d = D0 5 a b c d ∧ E1 5 a b c d = D1 5 a b c d := by
  show F89r0 (F90r0 a d) (F90r1 a d) (F90r0 b c) (F90r1 b c) = F73br0 a d b c ∧ F89r1 (F90r0 a d) (F90r1 a d) (F90r0 b c) (F90r1 b c) = F73br1 a d b c
  unfold F89r0 F89r1 F73br0 F73br1
  rw [F90_ok ha hd, F90_ok hb hc, F75_ok ha hd, F75_ok hb hc]
  exact ⟨rfl, rfl⟩
theorem same_mul {a b c d : Int} (ha : W a) (hb : W b) (hc : W c) (hd : W d) : E0 6 a b c d = D0 6 a b c d ∧ E1 6 a b c d = D1 6 a b c d := by
  show F92r0 (F91r0 a c) (F91r0 a d) (F91r0 b c) (F91r0 b d) (F91r1 a c && F91r1 a d && F91r1 b c && F91r1 b d) = F76ar0 a b c d ∧ F92r1 (F91r0 a c) (F91r0 a d) (F91r0 b c) (F91r0 b d) (F91r1 a c && F91r1 a d && F91r1 b c && F91r1 b d) = F76ar1 a b c d
  rw [(F92_val _ _ _ _ _).1, (F92_val _ _ _ _ _).2, F91_ok ha hc, F91_ok ha hd, F91_ok hb hc, F91_ok hb hd, F91_val, F91_val, F91_val, F91_val]
  obtain ⟨k1, k2⟩ := F76a_val ha hb hc hd
  by_cases w : W (a * c) ∧ W (a * d) ∧ W (b * c) ∧ W (b * d)
  · obtain ⟨e1, e2⟩ := k1 w
    rw [e1, e2, decide_eq_true w.1, decide_eq_true w.2.1, decide_eq_true w.2.2.1, decide_eq_true w.2.2.2]
    unfold W at w
    rw [wrap_i64_id (n := a * c) (by omega) (by omega), wrap_i64_id (n := a * d) (by omega) (by omega), wrap_i64_id (n := b * c) (by omega) (by omega), wrap_i64_id (n := b * d) (by omega) (by omega)]
    exact ⟨rfl, rfl⟩
  · obtain ⟨e1, e2⟩ := k2 w
    rw [e1, e2]
    have : (decide (W (a * c)) && decide (W (a * d)) && decide (W (b * c)) && decide (W (b * d))) = false := by
      rw [Bool.eq_false_iff]; intro h
      simp only [Bool.and_eq_true, decide_eq_true_eq] at h
      exact w ⟨h.1.1.1, h.1.1.2, h.1.2, h.2⟩
    rw [this]; exact ⟨rfl, rfl⟩
theorem same_div {a b c d : Int} (ha : W a) (hb : W b) (hcd : c ≤ d) : E0 7 a b c d = D0 7 a b c d ∧ E1 7 a b c d = D1 7 a b c d := by
  show (bif decide (c < 1) then -9223372036854775808 else F92r0 (IntKind.wrap .i64 (Int.tdiv a c)) (IntKind.wrap .i64 (Int.tdiv a d)) (IntKind.wrap .i64 (Int.tdiv b c)) (IntKind.wrap .i64 (Int.tdiv b d)) true) = (bif decide (c < 1) then -9223372036854775808 else F76br0 a b c d) ∧ (bif decide (c < 1) then 9223372036854775807 else F92r1 (IntKind.wrap .i64 (Int.tdiv a c)) (IntKind.wrap .i64 (Int.tdiv a d)) (IntKind.wrap .i64 (Int.tdiv b c)) (IntKind.wrap .i64 (Int.tdiv b d)) true) = (bif decide (c < 1) then 9223372036854775807 else F76br1 a b c d)
  by_cases h : c < 1
  · rw [decide_eq_true h]; exact ⟨rfl, rfl⟩
  · rw [decide_eq_false h, cond_false, cond_false, cond_false, cond_false]
    have hc : 0 < c := by omega
    have hd : 0 < d := by omega
    have v : ∀ {s t : Int}, W s → 0 < t → IntKind.wrap .i64 (s.tdiv t) = s.tdiv t := fun hs ht => F78_val hs ht
    rw [v ha hc, v ha hd, v hb hc, v hb hd, (F92_val _ _ _ _ _).1, (F92_val _ _ _ _ _).2]
    obtain ⟨e1, e2⟩ := F76b_val ha hb hc hd
    rw [e1, e2]; exact ⟨rfl, rfl⟩
theorem same_rem {a b c d : Int} (ha : W a) (hb : W b) (hd : W d) (hcd : c ≤ d) : E0 8 a b c d = D0 8 a b c d ∧ E1 8 a b c d = D1 8 a b c d := by
  show (bif decide (c < 1) then -9223372036854775808 else F93r0 a b c d) = F79r0 a b c d ∧ (bif decide (c < 1) then 9223372036854775807 else F93r1 a b c d) = F79r1 a b c d
  unfold F93r0 F93r1 F79r0 F79r1
  by_cases h : c < 1
  · rw [decide_eq_true h]; exact ⟨rfl, rfl⟩
  · simp only [decide_eq_false h, cond_false]
    unfold W at *
    rw [wrap_i64_id (n := 1 - d) (by omega) (by omega), wrap_i64_id (n := d - 1) (by omega) (by omega)]
    constructor
    · by_cases p : a < 0
      · have : ¬ a ≥ 0 := by omega
        simp only [p, this, decide_true, decide_false, cond_true, cond_false]
      · have : a ≥ 0 := by omega
        simp only [p, this, decide_true, decide_false, cond_true, cond_false]
    · by_cases p : b > 0
      · have : ¬ b ≤ 0 := by omega
        simp only [p, this, decide_true, decide_false, cond_true, cond_false]
      · have : b ≤ 0 := by omega
        simp only [p, this, decide_true, decide_false, cond_true, cond_false]
theorem same_and (a b c d : Int) : E0 9 a b c d = D0 9 a b c d ∧ E1 9 a b c d = D1 9 a b c d := by
  show F94r0 9 a b c d = F80r0 9 a b c d ∧ F94r1 9 a b c d = F80r1 9 a b c d
  have e9 : ((9 : Int) == 9) = true := rfl
  unfold F94r0 F94r1 F80r0 F80r1
  simp only [e9, cond_true, and_self]
theorem same_bits {o a b c d : Int} (ho : o = 10 ∨ o = 11) (hb : W b) (hd : W d) (hab : a ≤ b) (hcd : c ≤ d) : F94r0 o a b c d = F80r0 o a b c d ∧ F94r1 o a b c d = F80r1 o a b c d := by
  unfold F94r0 F94r1 F80r0 F80r1
  have e9 : (o == 9) = false := by simp; omega
  simp only [e9, cond_false]
  unfold W at *
  by_cases p : a < 0
  · have p' : ¬ a ≥ 0 := by omega
    simp only [p, p', decide_true, decide_false, cond_true, cond_false]
    cases o == 10 <;> cases o == 11 <;> exact ⟨rfl, rfl⟩
  · have p' : a ≥ 0 := by omega
    by_cases q : c < 0
    · have q' : ¬ c ≥ 0 := by omega
      simp only [p, p', q, q', decide_true, decide_false, cond_true, cond_false]
      cases o == 10 <;> cases o == 11 <;> exact ⟨rfl, rfl⟩
    · have q' : c ≥ 0 := by omega
      simp only [p, p', q, q', decide_true, decide_false, cond_true, cond_false]
      rw [F114_ones (n := if d > b then d else b) (by split <;> omega) (by split <;> omega)]
      rcases ho with rfl | rfl
      · exact ⟨rfl, rfl⟩
      · exact ⟨rfl, rfl⟩
theorem same_shift {o a b c d : Int} : F95r0 o a b c d = F81r0 o a b c d ∧ F95r1 o a b c d = F81r1 o a b c d := by
  unfold F95r0 F95r1 F81r0 F81r1 F89r0 F89r1 F115r0 F115r1 F86r0 F70r0
  have hk : IntKind.wrap .i64 ((BitVec.toNat (BitVec.ofInt 64 c &&& BitVec.ofInt 64 63) : Nat) : Int) = c % 64 := by
    rw [and_shift, wrap_i64_id (by omega) (by omega)]
  have hk2 : IntKind.wrap .u64 (c % 64) = c % 64 := wru_id (by omega) (by omega)
  have hk3 : IntKind.wrap .i64 (64 - c % 64) = 64 - c % 64 := wrap_i64_id (by omega) (by omega)
  simp only [hk, hk2, hk3]
  have b1 : ∀ x y : Int, (!(x == y)) = (x != y) := fun _ _ => rfl
  simp only [b1]
  have n1 : (if 0 < a then 0 else a) = (bif decide (a ≥ 0) then 0 else a) := by
    by_cases h : 0 < a
    · have : a ≥ 0 := by omega
      simp [h, this]
    · by_cases h' : a ≥ 0
      · have : a = 0 := by omega
        simp [this]
      · simp [h, h']
  have n2 : (if -1 > b then -1 else b) = (bif decide (b < 0) then -1 else b) := by
    by_cases h : -1 > b
    · have : b < 0 := by omega
      simp [h, this]
    · by_cases h' : b < 0
      · have : b = -1 := by omega
        simp [this]
      · simp [h, h']
  rw [n1, n2]
  exact ⟨rfl, rfl⟩
theorem same_cmp (o a b c d : Int) : F96r0 o a b c d = F82r0 o a b c d ∧ F96r1 o a b c d = F82r1 o a b c d := by
  have m1 : (if c < a then c else a) = min a c := by split <;> omega
  have m2 : (if d > b then d else b) = max b d := by split <;> omega
  unfold F96r0 F96r1 F82r0 F82r1
  rw [m1, m2]
  have e48 : F48r2 a b c d = F32r2 a b c d := rfl
  have e0 : ∀ y n, F116r0 y n = F113r0 y n := fun _ _ => rfl
  have e1 : ∀ y n, F116r1 y n = F113r1 y n := fun _ _ => rfl
  simp only [e48, e0, e1]
  by_cases h1 : a < 0
  · have h1' : min a c < 0 := by omega
    by_cases h2 : b ≥ 0
    · have h2' : max b d ≥ 0 := by omega
      simp [h1, h1', h2, h2']
    · by_cases h3 : d ≥ 0
      · have h2' : max b d ≥ 0 := by omega
        simp [h1, h1', h2, h2', h3]
      · have h2' : ¬ max b d ≥ 0 := by omega
        simp [h1, h1', h2, h2', h3]
  · by_cases h4 : c < 0
    · have h1' : min a c < 0 := by omega
      by_cases h2 : b ≥ 0
      · have h2' : max b d ≥ 0 := by omega
        simp [h1, h1', h2, h2', h4]
      · by_cases h3 : d ≥ 0
        · have h2' : max b d ≥ 0 := by omega
          simp [h1, h1', h2, h2', h3, h4]
        · have h2' : ¬ max b d ≥ 0 := by omega
          simp [h1, h1', h2, h2', h3, h4]
    · have h1' : ¬ min a c < 0 := by omega
      simp [h1, h1', h4]
theorem F47_F33 {o a b c d : Int} (ha : W a) (hb : W b) (hc : W c) (hd : W d) : F47r0 o a b c d = F33r0 o a b c d ∧ F47r1 o a b c d = F33r1 o a b c d := by
  by_cases hab : a ≤ b
  · by_cases hcd : c ≤ d
    · by_cases h1 : 4 ≤ o
      · by_cases h2 : o ≤ 19
        · obtain ⟨p1, p2⟩ := F33_eq h1 h2 hab hcd
          obtain ⟨q1, q2⟩ := F47_eq h1 h2 hab hcd
          rw [p1, p2, q1, q2]
          have key : E0 o a b c d = D0 o a b c d ∧ E1 o a b c d = D1 o a b c d := by
            by_cases ho : 15 ≤ o
            · have cases : o = 15 ∨ o = 16 ∨ o = 17 ∨ o = 18 ∨ o = 19 := by omega
              rcases cases with rfl | rfl | rfl | rfl | rfl
              · show F96r0 15 a b c d = F82r0 15 a b c d ∧ F96r1 15 a b c d = F82r1 15 a b c d
                exact same_cmp _ a b c d
              · show F96r0 16 a b c d = F82r0 16 a b c d ∧ F96r1 16 a b c d = F82r1 16 a b c d
                exact same_cmp _ a b c d
              · show F96r0 17 a b c d = F82r0 17 a b c d ∧ F96r1 17 a b c d = F82r1 17 a b c d
                exact same_cmp _ a b c d
              · show F96r0 18 a b c d = F82r0 18 a b c d ∧ F96r1 18 a b c d = F82r1 18 a b c d
                exact same_cmp _ a b c d
              · show F96r0 19 a b c d = F82r0 19 a b c d ∧ F96r1 19 a b c d = F82r1 19 a b c d
                exact same_cmp _ a b c d
            · have cases : o = 4 ∨ o = 5 ∨ o = 6 ∨ o = 7 ∨ o = 8 ∨ o = 9 ∨ o = 10 ∨ o = 11 ∨ o = 12 ∨ o = 13 ∨ o = 14 := by omega
              rcases cases with rfl | rfl | rfl | rfl | rfl | rfl | rfl | rfl | rfl | rfl | rfl
              · exact same_add ha hb hc hd
              · exact same_sub ha hb hc hd
              · exact same_mul ha hb hc hd
              · exact same_div ha hb hcd
              · exact same_rem ha hb hd hcd
              · exact same_and a b c d
              · exact same_bits (.inl rfl) hb hd hab hcd
              · exact same_bits (.inr rfl) hb hd hab hcd
              · show F95r0 12 a b c d = F81r0 12 a b c d ∧ F95r1 12 a b c d = F81r1 12 a b c d
                exact same_shift
              · show F95r0 13 a b c d = F81r0 13 a b c d ∧ F95r1 13 a b c d = F81r1 13 a b c d
                exact same_shift
              · show F95r0 14 a b c d = F81r0 14 a b c d ∧ F95r1 14 a b c d = F81r1 14 a b c d
                exact same_shift
          rw [key.1, key.2]; exact ⟨rfl, rfl⟩
        · have e1 : decide (o < 4) = false := decide_eq_false (by omega)
          have e2 : decide (o > 19) = true := decide_eq_true (by omega)
          have e3 : F52r0 a b = true := decide_eq_true hab
          have e4 : F52r0 c d = true := decide_eq_true hcd
          unfold F47r0 F47r1 F33r0 F33r1
          simp only [e1, e2, e3, e4, cond_false, cond_true, Bool.not_true, and_self]
      · have e1 : decide (o < 4) = true := decide_eq_true (by omega)
        have e3 : F52r0 a b = true := decide_eq_true hab
        have e4 : F52r0 c d = true := decide_eq_true hcd
        unfold F47r0 F47r1 F33r0 F33r1
        simp only [e1, e3, e4, cond_false, cond_true, Bool.not_true, and_self]
    · have e3 : F52r0 a b = true := decide_eq_true hab
      have e4 : F52r0 c d = false := decide_eq_false hcd
      have e5 : F35r0 a b = true := decide_eq_true hab
      have e6 : F35r0 c d = false := decide_eq_false hcd
      unfold F47r0 F47r1 F33r0 F33r1
      simp only [e3, e4, e5, e6, cond_false, cond_true, Bool.not_true, Bool.not_false]
      cases decide (o < 4) <;> cases decide (o > 19) <;> exact ⟨rfl, rfl⟩
  · have e3 : F52r0 a b = false := decide_eq_false hab
    have e5 : F35r0 a b = false := decide_eq_false hab
    unfold F47r0 F47r1 F33r0 F33r1
    simp only [e3, e5, cond_true, Bool.not_false]
    cases decide (o < 4) <;> cases decide (o > 19) <;> exact ⟨rfl, rfl⟩
theorem ref_all : (∀ o a b, F46r0 o a b = F42r0 o a b) ∧ (∀ o a b, F46r1 o a b = F42r1 o a b) ∧ (∀ a b c d, F48r0 a b c d = F32r0 a b c d) ∧ (∀ a b c d, F48r1 a b c d = F32r1 a b c d) ∧ (∀ a b c d, F48r2 a b c d = F32r2 a b c d) ∧
    (∀ a b c d, F49r0 a b c d = F37r0 a b c d) ∧ (∀ a b c d, F49r1 a b c d = F37r1 a b c d) ∧ (∀ a b c d, F50r0 a b c d = F38r0 a b c d) ∧ (∀ a b c d, F50r1 a b c d = F38r1 a b c d) ∧
    (∀ a b c d e f, F51r0 a b c d e f = F45r0 a b c d e f) ∧ (∀ a b c d e f, F51r1 a b c d e f = F45r1 a b c d e f) ∧ (∀ a b n, F53r0 a b n = F34r0 a b n) ∧ (∀ a b, F52r0 a b = F35r0 a b) :=
  ⟨fun o a b => (F46_F42 o a b).1, fun o a b => (F46_F42 o a b).2, fun _ _ _ _ => rfl, fun _ _ _ _ => rfl, fun _ _ _ _ => rfl, fun _ _ _ _ => rfl, fun _ _ _ _ => rfl, fun _ _ _ _ => rfl, fun _ _ _ _ => rfl, fun _ _ _ _ _ _ => rfl, fun _ _ _ _ _ _ => rfl, fun _ _ _ => rfl, fun _ _ => rfl⟩

end Go.Vm
