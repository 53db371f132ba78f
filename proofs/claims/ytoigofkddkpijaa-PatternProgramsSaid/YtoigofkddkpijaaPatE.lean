/-
  The Pattern functions: what they do, proved; no conditions but those that the theorems name.
-/
import Derived.Test.YtoigofkddkpijaaPatD
import Derived.Test.YtoigofkddkpijaaPatV
namespace Go.Vm
noncomputable section
/-! ### Operations that may stand in a pattern -/
theorem ok_range {o : Int} (h : F100r0 o = true) : 1 ≤ o ∧ o ≤ 29 := by
  unfold F100r0 at h
  simp only [cond_eq_ite, beq_iff_eq, decide_eq_true_eq, ge_iff_le] at h
  repeat' split at h
  all_goals first
    | omega
    | (simp only [beq_iff_eq] at h; omega)
theorem ok_fin {R : Int → Bool} (h : ((List.range 29).all fun k => !F100r0 (1 + (k : Int)) || R (1 + (k : Int))) = true) {o : Int} (ho : F100r0 o = true) : R o = true := by
  obtain ⟨h0, h1⟩ := ok_range ho
  have := List.all_eq_true.1 h (o - 1).toNat (by rw [List.mem_range]; omega)
  rw [show 1 + (((o - 1).toNat : Nat) : Int) = o by omega, ho] at this
  simpa using this
/-- The sorts of an operation's operands; its own sort. -/
def kdO (o : Int) : List Int := if F100r0 o = true then (List.range (F19r0 o).toNat).map (fun (i : Nat) => F61r0 o (i : Int)) else []
def ownO (o : Int) : Int := if F100r0 o = true then F101r0 o else 0
theorem ar_small {o : Int} (h : F100r0 o = true) : 0 ≤ F19r0 o ∧ F19r0 o ≤ 3 := by
  have := ok_fin (R := fun o => decide (0 ≤ F19r0 o) && decide (F19r0 o ≤ 3)) (by kernel_rfl) h
  simpa using this
theorem kdO_len {o : Int} (h : F100r0 o = true) : ((kdO o).length : Int) = F19r0 o := by
  unfold kdO
  rw [if_pos h, List.length_map, List.length_range]
  have := ar_small h
  omega
theorem kdO_get {o : Int} (h : F100r0 o = true) {i : Nat} (hi : i < (kdO o).length) : (kdO o)[i] = F61r0 o (i : Int) := by
  have h2 : (kdO o) = (List.range (F19r0 o).toNat).map (fun (i : Nat) => F61r0 o (i : Int)) := by unfold kdO; rw [if_pos h]
  simp only [h2, List.getElem_map, List.getElem_range]
theorem not_ok_ar {o : Int} (h : F117r1 o = false) : F100r0 o = false := by
  cases ho : F100r0 o with
  | false => rfl
  | true =>
    have := ok_fin (R := fun o => F117r1 o) (by kernel_rfl) ho
    rw [this] at h; cases h
theorem sorts_run (s : St) (o : Int) : Runs G 97 [li o] s (.tup [.sl .ro ((kdO o).map li), li (ownO o), .lit (.bool (F100r0 o))]) s := by
  have none : F100r0 o = false → (AV.tup [.sl .ro ((kdO o).map li), li (ownO o), .lit (.bool (F100r0 o))]) = .tup [.sl .ro [], .lit (.int .i64 0), .lit (.bool false)] := fun h => by
    unfold kdO ownO; rw [h]; rfl
  by_cases h22o : o = 22
  · obtain ⟨x, s', R, h1, h2⟩ := runs_of_funP sp97f_ok (f := 97) (by kernel_rfl) (args := [li o]) (s := s) (Q := fun v s' => v = .tup [.sl .ro ((kdO o).map li), li (ownO o), .lit (.bool (F100r0 o))] ∧ s' = s) (by
      rw [tree97f o (kdO o) s]
      refine ⟨fun h => ?_, fun h1 => ⟨fun h => ?_, fun h23 => ⟨fun h => ?_, fun h24 => ⟨fun h => ?_, fun h27 => ⟨fun h => ?_, fun h29 => ⟨fun h => ?_, fun h28 => ⟨fun h => ?_, fun hA => ⟨fun h => ?_, fun h4 => ⟨fun h => ?_, fun h22 => ?_⟩⟩⟩⟩⟩⟩⟩⟩⟩
      · rw [beq_iff_eq] at h; subst h; exact ⟨by kernel_rfl, rfl⟩
      · rw [beq_iff_eq] at h; subst h; exact ⟨by kernel_rfl, rfl⟩
      · rw [beq_iff_eq] at h; subst h; exact ⟨by kernel_rfl, rfl⟩
      · rw [beq_iff_eq] at h; subst h; exact ⟨by kernel_rfl, rfl⟩
      · rw [beq_iff_eq] at h; subst h; exact ⟨by kernel_rfl, rfl⟩
      · rw [beq_iff_eq] at h; subst h; exact ⟨by kernel_rfl, rfl⟩
      · rw [Bool.not_eq_true'] at h; exact ⟨(none (not_ok_ar h)).symm, rfl⟩
      · refine ⟨(none ?_).symm, rfl⟩
        have := of_decide_eq_true h
        cases ho : F100r0 o with
        | false => rfl
        | true =>
          have := ok_fin (R := fun o => o == 1 || decide (4 ≤ o)) (by kernel_rfl) ho
          rw [h1, Bool.false_or] at this
          have := of_decide_eq_true this
          omega
      · refine ⟨(none ?_).symm, rfl⟩
        have := of_decide_eq_true h
        cases ho : F100r0 o with
        | false => rfl
        | true =>
          have := ok_fin (R := fun o => o == 23 || o == 24 || o == 27 || o == 29 || o == 28 || decide (o ≤ 22)) (by kernel_rfl) ho
          rw [h23, h24, h27, h29, h28, Bool.false_or, Bool.false_or, Bool.false_or, Bool.false_or, Bool.false_or] at this
          have := of_decide_eq_true this
          omega
      · exact ⟨by rw [h22o]; kernel_rfl, by rw [h22o]; kernel_rfl, rfl⟩)
    rw [h1, h2] at R; exact R
  · obtain ⟨x, s', R, h1, h2⟩ := runs_of_funP sp97_ok (f := 97) (by kernel_rfl) (args := [li o]) (s := s) (Q := fun v s' => v = .tup [.sl .ro ((kdO o).map li), li (ownO o), .lit (.bool (F100r0 o))] ∧ s' = s) (by
      rw [tree97 o (kdO o) s]
      refine ⟨fun h => ?_, fun h1 => ⟨fun h => ?_, fun h23 => ⟨fun h => ?_, fun h24 => ⟨fun h => ?_, fun h27 => ⟨fun h => ?_, fun h29 => ⟨fun h => ?_, fun h28 => ⟨fun h => ?_, fun hA => ⟨fun h => ?_, fun h4 => ⟨fun h => ?_, fun h22 => ?_⟩⟩⟩⟩⟩⟩⟩⟩⟩
      · rw [beq_iff_eq] at h; subst h; exact ⟨by kernel_rfl, rfl⟩
      · rw [beq_iff_eq] at h; subst h; exact ⟨by kernel_rfl, rfl⟩
      · rw [beq_iff_eq] at h; subst h; exact ⟨by kernel_rfl, rfl⟩
      · rw [beq_iff_eq] at h; subst h; exact ⟨by kernel_rfl, rfl⟩
      · rw [beq_iff_eq] at h; subst h; exact ⟨by kernel_rfl, rfl⟩
      · rw [beq_iff_eq] at h; subst h; exact ⟨by kernel_rfl, rfl⟩
      · rw [Bool.not_eq_true'] at h; exact ⟨(none (not_ok_ar h)).symm, rfl⟩
      · refine ⟨(none ?_).symm, rfl⟩
        have := of_decide_eq_true h
        cases ho : F100r0 o with
        | false => rfl
        | true =>
          have := ok_fin (R := fun o => o == 1 || decide (4 ≤ o)) (by kernel_rfl) ho
          rw [h1, Bool.false_or] at this
          have := of_decide_eq_true this
          omega
      · refine ⟨(none ?_).symm, rfl⟩
        have := of_decide_eq_true h
        cases ho : F100r0 o with
        | false => rfl
        | true =>
          have := ok_fin (R := fun o => o == 23 || o == 24 || o == 27 || o == 29 || o == 28 || decide (o ≤ 22)) (by kernel_rfl) ho
          rw [h23, h24, h27, h29, h28, Bool.false_or, Bool.false_or, Bool.false_or, Bool.false_or, Bool.false_or] at this
          have := of_decide_eq_true this
          omega
      · have h4 := of_decide_eq_false h4
        have h22 := of_decide_eq_false h22
        have h22' := h22o
        have : o = 4 ∨ o = 5 ∨ o = 6 ∨ o = 7 ∨ o = 8 ∨ o = 9 ∨ o = 10 ∨ o = 11 ∨ o = 12 ∨ o = 13 ∨ o = 14 ∨ o = 15 ∨ o = 16 ∨ o = 17 ∨ o = 18 ∨ o = 19 ∨ o = 20 ∨ o = 21 := by omega
        rcases this with rfl | rfl | rfl | rfl | rfl | rfl | rfl | rfl | rfl | rfl | rfl | rfl | rfl | rfl | rfl | rfl | rfl | rfl <;> exact ⟨by kernel_rfl, by kernel_rfl, rfl⟩)
    rw [h1, h2] at R; exact R

/-- The immediate of a pattern's operation is valid. -/
def immO (o m w im : Int) : Bool := if w < 0 ∨ im < w then false else if 0 < w then (m == 0 && F99r0 o) else F102r0 o m
theorem imm_zero {o : Int} (ho : F100r0 o = true) (m : Int) : F102r0 o m = (if o = 23 ∨ o = 28 then decide (m ≥ 0) && decide (m < 4) else if o = 27 then decide (m ≥ 1) && decide (m ≤ 1000016) else if o = 1 then true else m == 0) := by
  have h := ok_fin (R := fun o => (o == 23 || o == 28 || o == 27 || o == 1 || decide (F119r0 o < 0)) && (!(o == 23) || F119r0 o == 3) && (!(o == 28) || F119r0 o == 3) && (!(o == 27) || F119r0 o == 1000016)) (by kernel_rfl) ho
  simp only [Bool.and_eq_true, Bool.or_eq_true, beq_iff_eq, Bool.not_eq_true', beq_eq_false_iff_ne, decide_eq_true_eq] at h
  obtain ⟨⟨⟨h1, h2⟩, h3⟩, h4⟩ := h
  unfold F102r0
  by_cases e1 : o = 1
  · subst e1; rfl
  have e1' : (o == 1) = false := by simpa using e1
  rw [e1', cond_false]
  by_cases e23 : o = 23
  · subst e23
    rw [show F119r0 23 = 3 by rcases h2 with h | h; exact absurd rfl h; exact h]
    simp only [true_or, if_true]
    by_cases q : m ≥ 0 <;> by_cases r : m ≤ 3 <;> simp [q, r, show m < 4 ↔ m ≤ 3 by omega]
  by_cases e28 : o = 28
  · subst e28
    rw [show F119r0 28 = 3 by rcases h3 with h | h; exact absurd rfl h; exact h]
    simp only [or_true, if_true]
    by_cases q : m ≥ 0 <;> by_cases r : m ≤ 3 <;> simp [q, r, show m < 4 ↔ m ≤ 3 by omega]
  by_cases e27 : o = 27
  · subst e27
    rw [show F119r0 27 = 1000016 by rcases h4 with h | h; exact absurd rfl h; exact h]
    simp only [show ¬ ((27 : Int) = 23 ∨ (27 : Int) = 28) by decide, if_false, if_true]
    by_cases q : m ≥ 1
    · have q' : m ≥ 0 := by omega
      have q2 : m > 0 := by omega
      by_cases r : m ≤ 1000016 <;> simp [q, q', q2, r]
    · by_cases q' : m ≥ 0
      · have : m = 0 := by omega
        subst this; rfl
      · simp [q, q']
  have hn : F119r0 o < 0 := by
    rcases h1 with (((h | h) | h) | h) | h
    · exact absurd h e23
    · exact absurd h e28
    · exact absurd h e27
    · exact absurd h e1
    · exact h
  rw [decide_eq_true hn, cond_true, if_neg (by simp [e23, e28]), if_neg e27, if_neg e1]
theorem imm_run (s : St) {o im : Int} (ho : F100r0 o = true) (him : 0 ≤ im) (v m w : Int) (ks : List AV) : Runs G 98 [.agg [li v, li o, li m, li w, .sl .ro ks], li im] s (.lit (.bool (immO o m w im))) s := by
  have hF : F118r0 o = F99r0 o := rfl
  obtain ⟨x, s', R, h1, h2⟩ := runs_of_funP sp98_ok (f := 98) (by kernel_rfl) (args := [.agg [li v, li o, li m, li w, .sl .ro ks], li im]) (s := s) (Q := fun v s' => v = .lit (.bool (immO o m w im)) ∧ s' = s) (by
    rw [tree98 v o m w im ks s]
    have fin : ∀ b : Bool, b = immO o m w im → (AV.lit (.bool b) = .lit (.bool (immO o m w im)) ∧ s = s) := fun b h => ⟨by rw [h], rfl⟩
    refine ⟨fun hw => ?_, fun hw => ?_⟩
    · have hw : w ≠ 0 := by simpa using hw
      refine ⟨fun h1 => ⟨fun h2 => ⟨fun h3 => fin _ ?_, fun h3 => fin _ ?_⟩, fun h2 => fin _ ?_⟩, fun h1 => fin _ ?_⟩
      · have h3 := of_decide_eq_true h3
        unfold immO
        rw [hF] at h1
        rw [h1, h2]
        by_cases q : w ≤ im
        · rw [decide_eq_true q, if_neg (by omega), if_pos (by omega)]; rfl
        · rw [decide_eq_false q, if_pos (by omega)]
      · have h3 := of_decide_eq_false h3
        unfold immO; rw [if_pos (by omega)]
      · unfold immO
        rw [h2, Bool.false_and]
        by_cases q : w < 0 ∨ im < w
        · rw [if_pos q]
        · rw [if_neg q, if_pos (by omega)]
      · unfold immO
        rw [hF] at h1
        rw [h1, Bool.and_false]
        by_cases q : w < 0 ∨ im < w
        · rw [if_pos q]
        · rw [if_neg q, if_pos (by omega)]
    · have hw : w = 0 := by simpa using hw
      have e : immO o m w im = F102r0 o m := by unfold immO; rw [if_neg (by omega), if_neg (by omega)]
      rw [e, imm_zero ho m] at fin ⊢
      refine ⟨fun h23 => ?_, fun h23 => ⟨fun h28 => ?_, fun h28 => ⟨fun h27 => ?_, fun h27 => ⟨fun h1 => ?_, fun h1 => ?_⟩⟩⟩⟩
      · have h23 : o = 23 := by simpa using h23
        rw [if_pos (.inl h23)] at fin ⊢
        exact ⟨fun h => fin _ (by rw [h, Bool.true_and]), fun h => fin _ (by rw [h, Bool.false_and])⟩
      · have h28 : o = 28 := by simpa using h28
        rw [if_pos (.inr h28)] at fin ⊢
        exact ⟨fun h => fin _ (by rw [h, Bool.true_and]), fun h => fin _ (by rw [h, Bool.false_and])⟩
      · have h23 : o ≠ 23 := by simpa using h23
        have h28 : o ≠ 28 := by simpa using h28
        have h27 : o = 27 := by simpa using h27
        rw [if_neg (by simp [h23, h28]), if_pos h27] at fin ⊢
        exact ⟨fun h => fin _ (by rw [h, Bool.true_and]), fun h => fin _ (by rw [h, Bool.false_and])⟩
      · have h23 : o ≠ 23 := by simpa using h23
        have h28 : o ≠ 28 := by simpa using h28
        have h27 : o ≠ 27 := by simpa using h27
        have h1 : o = 1 := by simpa using h1
        rw [if_neg (by simp [h23, h28]), if_neg h27, if_pos h1] at fin ⊢
        exact fin _ rfl
      · have h23 : o ≠ 23 := by simpa using h23
        have h28 : o ≠ 28 := by simpa using h28
        have h27 : o ≠ 27 := by simpa using h27
        have h1 : o ≠ 1 := by simpa using h1
        rw [if_neg (by simp [h23, h28]), if_neg h27, if_neg h1] at fin ⊢
        exact fin _ rfl)
  rw [h1, h2] at R; exact R
end
end Go.Vm
