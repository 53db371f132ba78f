/-
  The Pattern functions: what they do, proved; no conditions but those that the theorems name.
-/
import Derived.Test.YtoigofkddkpijaaPatJ
namespace Go.Vm
noncomputable section
/-! ### What a compiled pattern keeps: plain -/
mutual
theorem pv_vle (im : Int) : ∀ (p : P) (sort : Int) (vs : List Int), (pv im p sort vs).1 = true → Vle vs.length p
  | .mk v o m w ks, sort, vs, h => by
    unfold pv at h
    unfold Vle
    split at h
    · rename_i hv
      split at h
      · exact ⟨by omega, pvs_vle im ks (kdO o) vs (by rename_i q; exact q.2.1) h⟩
      · cases h
    · split at h
      · cases h
      · rename_i q
        have hk : ks.length = 0 := Classical.byContradiction fun e => q (.inr (.inr (.inr (.inr (.inr e)))))
        have hv : v ≤ vs.length := by
          by_cases e : (vs.length : Int) < v
          · exact absurd (.inr (.inl e)) q
          · omega
        refine ⟨hv, ?_⟩
        have : ks = [] := List.length_eq_zero_iff.1 hk
        subst this; unfold Vles; trivial
theorem pvs_vle (im : Int) : ∀ (ks : List P) (ds vs : List Int), ks.length = ds.length → (pvs im ks ds vs).1 = true → Vles vs.length ks
  | [], ds, vs, _, _ => by unfold Vles; trivial
  | k :: ks, [], vs, hl, _ => by simp at hl
  | k :: ks, d :: ds, vs, hl, h => by
    unfold pvs at h
    unfold Vles
    split at h
    · rename_i q
      have h1 := pv_vle im k d vs q
      have h2 := pvs_vle im ks ds _ (by simpa using hl) h
      rw [pv_len] at h2
      exact ⟨h1, h2⟩
    · cases h
end
mutual
theorem Vle.mono {n n' : Int} (h : n ≤ n') : ∀ p : P, Vle n p → Vle n' p
  | .mk v o m w ks, hp => by
    unfold Vle at hp ⊢
    exact ⟨Int.le_trans hp.1 h, Vles.mono h ks hp.2⟩
theorem Vles.mono {n n' : Int} (h : n ≤ n') : ∀ ks : List P, Vles n ks → Vles n' ks
  | [], _ => by unfold Vles; trivial
  | k :: ks, hp => by
    unfold Vles at hp ⊢
    exact ⟨Vle.mono h k hp.1, Vles.mono h ks hp.2⟩
end
theorem nsz_pos : ∀ p : P, 1 ≤ nsz p
  | .mk v o m w ks => by unfold nsz; omega
theorem nszs_len : ∀ ks : List P, ks.length ≤ nszs ks
  | [] => by simp
  | k :: ks => by
    have h1 := nsz_pos k
    have h2 := nszs_len ks
    unfold nszs; rw [List.length_cons]; omega

/-- The law's walk through the instructions: the registers given, the registers opened. -/
def chk : List Ins → Int → List Bool → Option (Int × List Bool)
  | [], g, O => some (g, O)
  | x :: l, g, O =>
    if x.a < 0 ∨ g ≤ x.a ∨ 64 ≤ x.a ∨ O.getD x.a.toNat false = true then none
    else if x.k = 2 then (if x.b < 0 ∨ g ≤ x.b ∨ 64 ≤ x.b ∨ O.getD x.b.toNat false = true then none else chk l g O)
    else if x.k ≠ 1 ∨ x.b ≠ g then none
    else chk l (IntKind.wrap .i64 (g + F19r0 x.o)) (O.set x.a.toNat true)
theorem chk_cons (x : Ins) (l : List Ins) (g : Int) (O : List Bool) : chk (x :: l) g O =
    if x.a < 0 ∨ g ≤ x.a ∨ 64 ≤ x.a ∨ O.getD x.a.toNat false = true then none
    else if x.k = 2 then (if x.b < 0 ∨ g ≤ x.b ∨ 64 ≤ x.b ∨ O.getD x.b.toNat false = true then none else chk l g O)
    else if x.k ≠ 1 ∨ x.b ≠ g then none
    else chk l (IntKind.wrap .i64 (g + F19r0 x.o)) (O.set x.a.toNat true) := rfl
theorem chk_app : ∀ (l l' : List Ins) (g : Int) (O : List Bool), chk (l ++ l') g O = (chk l g O).bind fun r => chk l' r.1 r.2
  | [], l', g, O => rfl
  | x :: l, l', g, O => by
    rw [List.cons_append, chk_cons, chk_cons]
    split
    · rfl
    · split
      · split
        · rfl
        · exact chk_app l l' g O
      · split
        · rfl
        · exact chk_app l l' _ _

/-- Register q is not opened. -/
def Shut (O : List Bool) (q : Int) : Prop := O.getD q.toNat false = false
theorem Shut.set_ne {O : List Bool} {q r : Int} (h : Shut O q) (hq : 0 ≤ q) (hr : 0 ≤ r) (hne : q ≠ r) : Shut (O.set r.toNat true) q := by
  unfold Shut at h ⊢
  rw [List.getD_eq_getElem?_getD, List.getElem?_set_ne (by omega), ← List.getD_eq_getElem?_getD]
  exact h
/-- What holds ahead of a part at register r: r is given and shut, and no variable's; the variables' registers are given and shut; what is not given is shut. -/
structure Ahead (c : Prg) (O : List Bool) : Prop where
  len : O.length = 64
  next : 0 < c.next
  vars : ∀ x, x ∈ c.vars → x = -1 ∨ (0 ≤ x ∧ x < c.next ∧ Shut O x)
  free : ∀ q, c.next ≤ q → Shut O q
/-- What a part (or some) with its own registers S brings. -/
structure Behind (c c' : Prg) (O O' : List Bool) (S : Int → Prop) : Prop where
  ahead : Ahead c' O'
  next : c.next ≤ c'.next
  new : ∃ l, c'.l = c.l ++ l ∧ chk l c.next O = some (c'.next, O')
  shut : ∀ q, 0 ≤ q → q < c.next → ¬ S q → Shut O q → Shut O' q
  vars : ∀ x, x ∈ c'.vars → x = -1 ∨ x ∈ c.vars ∨ S x ∨ c.next ≤ x

theorem room_mem {vs : List Int} {v x : Int} (h : x ∈ room vs v) : x ∈ vs ∨ x = -1 := by
  unfold room at h
  rcases List.mem_append.1 h with h | h
  · exact .inl h
  · exact .inr (List.eq_of_mem_replicate h)
theorem getD_mem {vs : List Int} {i : Nat} {d : Int} (h : i < vs.length) : vs.getD i d ∈ vs := by
  rw [List.getD_eq_getElem?_getD, List.getElem?_eq_getElem h]
  exact List.getElem_mem h

mutual
theorem pc_ok (im : Int) : ∀ (p : P) (sort : Int) (vs : List Int) (r : Int) (c : Prg) (O : List Bool), (pv im p sort vs).1 = true → Ahead c O → 0 ≤ r → r < c.next → Shut O r → (∀ x, x ∈ c.vars → x ≠ r) → c.next + nsz p ≤ 65 →
    (pc p r c).next = c.next + nsz p - 1 ∧ ∃ O', Behind c (pc p r c) O O' (fun q => q = r)
  | .mk v o m w ks, sort, vs, r, c, O, hv, hA, h0, h1, h2, h3, h4 => by
    unfold pv at hv
    unfold nsz at h4 ⊢
    unfold pc
    split at hv
    · rename_i hv0
      subst hv0
      split at hv
      · rename_i hg
        obtain ⟨g1, g2, _, _⟩ := hg
        have hs := nszs_len ks
        have hF : F19r0 o = ks.length := by rw [← kdO_len g1, g2]
        rw [if_neg (by omega)]
        have hw : IntKind.wrap .i64 (c.next + ks.length) = c.next + ks.length := by
          have := hA.next
          exact wrap_i64_id (by omega) (by omega)
        rw [hw]
        have hlt : r.toNat < O.length := by rw [hA.len]; have := hA.next; omega
        -- behind the binding
        have hA1 : Ahead ⟨c.l ++ [⟨1, r, c.next, o, m, w⟩], c.next + ks.length, c.vars⟩ (O.set r.toNat true) := by
          refine ⟨by rw [List.length_set]; exact hA.len, by have := hA.next; show 0 < c.next + _; omega, fun x hx => ?_, fun q hq => ?_⟩
          · rcases hA.vars x hx with e | ⟨e1, e2, e3⟩
            · exact .inl e
            · exact .inr ⟨e1, by show x < c.next + _; omega, e3.set_ne e1 h0 (h3 x hx)⟩
          · have hq : c.next + (ks.length : Int) ≤ q := hq
            exact (hA.free q (by omega)).set_ne (by have := hA.next; omega) h0 (by omega)
        obtain ⟨k1, O', k2⟩ := pcs_ok im ks (kdO o) vs c.next 0 ⟨c.l ++ [⟨1, r, c.next, o, m, w⟩], c.next + ks.length, c.vars⟩ (O.set r.toNat true) g2 hv hA1 (by have := hA.next; omega) (by show c.next + (0 : Nat) + (ks.length : Int) ≤ c.next + ks.length; omega)
          (fun q q1 q2 => by
            have q1 : c.next + ((0 : Nat) : Int) ≤ q := q1
            exact (hA.free q (by omega)).set_ne (by have := hA.next; omega) h0 (by omega))
          (fun x hx => by
            show ¬ (c.next + ((0 : Nat) : Int) ≤ x ∧ _)
            rcases hA.vars x hx with e | ⟨e1, e2, e3⟩
            · have := hA.next; omega
            · omega) (by show c.next + (ks.length : Int) + nszs ks - ks.length ≤ 64; omega)
        have k1 : (pcs ks c.next 0 ⟨c.l ++ [⟨1, r, c.next, o, m, w⟩], c.next + ks.length, c.vars⟩).next = c.next + ks.length + nszs ks - ks.length := k1
        refine ⟨by rw [k1]; omega, O', k2.ahead, ?_, ?_, ?_, ?_⟩
        · have := k2.next
          have this : c.next + (ks.length : Int) ≤ _ := this
          omega
        · obtain ⟨l, e1, e2⟩ := k2.new
          refine ⟨⟨1, r, c.next, o, m, w⟩ :: l, by rw [e1]; simp, ?_⟩
          have e2 : chk l (c.next + ks.length) (O.set r.toNat true) = _ := e2
          unfold chk
          have hb : ¬ (r < 0 ∨ c.next ≤ r ∨ 64 ≤ r ∨ O.getD r.toNat false = true) := by
            unfold Shut at h2
            rw [h2]
            rintro (q | q | q | q)
            · omega
            · omega
            · omega
            · cases q
          simp only [if_neg hb]
          rw [if_neg (by decide), if_neg (by simp)]
          show chk l (IntKind.wrap .i64 (c.next + F19r0 o)) (O.set r.toNat true) = _
          rw [hF, hw]
          exact e2
        · intro q q0 q1 q2 q3
          exact k2.shut q q0 (by show q < c.next + _; omega) (by show ¬ (c.next + _ ≤ q ∧ q < c.next + _ + _); omega) (q3.set_ne q0 h0 q2)
        · intro x hx
          rcases k2.vars x hx with e | e | e | e
          · exact .inl e
          · exact .inr (.inl e)
          · have e : c.next + ((0 : Nat) : Int) ≤ x ∧ x < c.next + ((0 : Nat) : Int) + ks.length := e
            exact .inr (.inr (.inr (by omega)))
          · have e : c.next + (ks.length : Int) ≤ x := e
            exact .inr (.inr (.inr (by omega)))
      · cases hv
    · rename_i hv0
      split at hv
      · cases hv
      · rename_i q
        have hk : ks.length = 0 := Classical.byContradiction fun e => q (.inr (.inr (.inr (.inr (.inr e)))))
        have hks : ks = [] := List.length_eq_zero_iff.1 hk
        subst hks
        have hv1 : 0 < v := by
          by_cases e : v < 1
          · exact absurd (.inl e) q
          · omega
        rw [if_pos hv1]
        have hlen : (v - 1).toNat < (room c.vars v).length := by rw [room_len]; omega
        have hz : nszs [] = 0 := by unfold nszs; rfl
        rw [hz]
        split
        · rename_i ho
          refine ⟨by show c.next = _; omega, O, ⟨hA.len, hA.next, fun x hx => ?_, hA.free⟩, Int.le_refl _, ?_, fun q _ _ _ h => h, fun x hx => ?_⟩
          · rcases room_mem hx with e | e
            · exact hA.vars x e
            · exact .inl e
          · refine ⟨_, rfl, ?_⟩
            generalize hy : (room c.vars v).getD (v - 1).toNat 0 = y at ho
            have hmem : y ∈ room c.vars v := by rw [← hy]; exact getD_mem hlen
            have hyv : 0 ≤ y ∧ y < c.next ∧ Shut O y := by
              rcases room_mem hmem with e | e
              · rcases hA.vars y e with e | e
                · omega
                · exact e
              · omega
            unfold chk
            have hb : ¬ (r < 0 ∨ c.next ≤ r ∨ 64 ≤ r ∨ O.getD r.toNat false = true) := by
              unfold Shut at h2
              rw [h2]
              rintro (q | q | q | q)
              · omega
              · omega
              · omega
              · cases q
            have hb2 : ¬ (y < 0 ∨ c.next ≤ y ∨ 64 ≤ y ∨ O.getD y.toNat false = true) := by
              have := hyv.2.2
              unfold Shut at this
              rw [this]
              rintro (q | q | q | q)
              · omega
              · omega
              · omega
              · cases q
            simp only [if_neg hb, if_neg hb2]
            rfl
          · rcases room_mem hx with e | e
            · exact .inr (.inl e)
            · exact .inl e
        · refine ⟨by show c.next = _; omega, O, ⟨hA.len, hA.next, fun x hx => ?_, hA.free⟩, Int.le_refl _, ⟨[], by simp, rfl⟩, fun q _ _ _ h => h, fun x hx => ?_⟩
          · rcases List.mem_or_eq_of_mem_set hx with e | e
            · rcases room_mem e with e | e
              · exact hA.vars x e
              · exact .inl e
            · subst e; exact .inr ⟨h0, h1, h2⟩
          · rcases List.mem_or_eq_of_mem_set hx with e | e
            · rcases room_mem e with e | e
              · exact .inr (.inl e)
              · exact .inl e
            · exact .inr (.inr (.inl e))
theorem pcs_ok (im : Int) : ∀ (ks : List P) (ds vs : List Int) (b : Int) (i : Nat) (c : Prg) (O : List Bool), ks.length = ds.length → (pvs im ks ds vs).1 = true → Ahead c O → 0 ≤ b → b + i + ks.length ≤ c.next → (∀ q, b + i ≤ q → q < b + i + ks.length → Shut O q) → (∀ x, x ∈ c.vars → ¬ (b + i ≤ x ∧ x < b + i + ks.length)) → c.next + nszs ks - ks.length ≤ 64 →
    (pcs ks b i c).next = c.next + nszs ks - ks.length ∧ ∃ O', Behind c (pcs ks b i c) O O' (fun q => b + i ≤ q ∧ q < b + i + ks.length)
  | [], ds, vs, b, i, c, O, hl, hv, hA, h0, h1, h2, h3, h4 => by
    unfold pcs nszs
    exact ⟨by simp, O, hA, Int.le_refl _, ⟨[], by simp, rfl⟩, fun q _ _ _ h => h, fun x hx => .inr (.inl hx)⟩
  | k :: ks, [], vs, b, i, c, O, hl, hv, hA, h0, h1, h2, h3, h4 => by simp at hl
  | k :: ks, d :: ds, vs, b, i, c, O, hl, hv, hA, h0, h1, h2, h3, h4 => by
    unfold pvs at hv
    split at hv
    · rename_i q
      have hs := nszs_len ks
      have hn := hA.next
      have hkp := nsz_pos k
      unfold nszs at h4
      rw [List.length_cons] at h1 h2 h3 h4
      unfold pcs nszs
      rw [wrap_i64_id (n := b + i) (by omega) (by omega), List.length_cons]
      obtain ⟨e1, O1, B1⟩ := pc_ok im k d vs (b + i) c O q hA (by omega) (by omega) (h2 _ (by omega) (by omega)) (fun x hx e => h3 x hx (by omega)) (by omega)
      have hb := B1.next
      obtain ⟨e2, O2, B2⟩ := pcs_ok im ks ds _ b (i + 1) (pc k (b + i) c) O1 (by simpa using hl) hv B1.ahead h0 (by rw [e1]; omega)
        (fun q q1 q2 => B1.shut q (by omega) (by omega) (by omega) (h2 q (by omega) (by omega)))
        (fun x hx => by
          rcases B1.vars x hx with e | e | e | e
          · omega
          · have := h3 x e; omega
          · omega
          · omega) (by rw [e1]; omega)
      have hb2 := B2.next
      refine ⟨by rw [e2, e1]; omega, O2, B2.ahead, by omega, ?_, fun q q0 q1 q2 q3 => B2.shut q q0 (by omega) (by omega) (B1.shut q q0 q1 (by omega) q3), fun x hx => ?_⟩
      · obtain ⟨l1, a1, a2⟩ := B1.new
        obtain ⟨l2, a3, a4⟩ := B2.new
        refine ⟨l1 ++ l2, by rw [a3, a1, List.append_assoc], ?_⟩
        rw [chk_app, a2]
        exact a4
      · rcases B2.vars x hx with e | e | e | e
        · exact .inl e
        · rcases B1.vars x e with e | e | e | e
          · exact .inl e
          · exact .inr (.inl e)
          · exact .inr (.inr (.inl (by omega)))
          · exact .inr (.inr (.inr e))
        · exact .inr (.inr (.inl (by omega)))
        · exact .inr (.inr (.inr (by omega)))
    · cases hv
end

/-- True sizes: no wrap where they are small. -/
theorem psizes_nsz : ∀ (ks : List P) (a : Int), (∀ k, k ∈ ks → psize k = nsz k) → 0 ≤ a → a + nszs ks ≤ 1000000 → psizes ks a = a + nszs ks
  | [], a, _, _, _ => by unfold psizes nszs; simp
  | k :: ks, a, h, h0, h1 => by
    unfold nszs at h1 ⊢
    unfold psizes
    rw [h k List.mem_cons_self, wrap_i64_id (by omega) (by omega), psizes_nsz ks _ (fun k hk => h k (List.mem_cons_of_mem _ hk)) (by omega) (by omega)]
    omega
theorem nsz_mem : ∀ {ks : List P} {k : P}, k ∈ ks → nsz k ≤ nszs ks
  | [], k, h => by cases h
  | q :: ks, k, h => by
    unfold nszs
    rcases List.mem_cons.1 h with rfl | h
    · omega
    · have := nsz_mem h; omega
theorem psize_nsz : ∀ (p : P), nsz p ≤ 1000000 → psize p = nsz p
  | .mk v o m w ks, h => by
    unfold nsz at h ⊢
    unfold psize
    rw [psizes_nsz ks 1 (fun k hk => psize_nsz k (by have := nsz_mem hk; omega)) (by omega) (by omega)]
    omega
theorem Small.nsz : ∀ (d : Nat) (p : P), Small d p → nsz p ≤ 4 ^ d
  | 0, _, h => by unfold Small at h; exact h.elim
  | d + 1, .mk v o m w ks, h => by
    unfold Small at h
    unfold Go.Vm.nsz
    obtain ⟨_, _, _, _, h1, h2⟩ := h
    have key : ∀ l : List P, Smalls d l → nszs l ≤ l.length * 4 ^ d := fun l => by
      induction l with
      | nil => intro _; unfold nszs; simp
      | cons k l ih =>
        intro h
        unfold Smalls at h
        unfold nszs
        have h3 := Small.nsz d k h.1
        have h4 := ih h.2
        rw [List.length_cons, Nat.add_mul, Nat.one_mul]; omega
    have h3 := key ks h2
    have h4 : ks.length * 4 ^ d ≤ 3 * 4 ^ d := Nat.mul_le_mul_right _ h1
    have h5 : 1 ≤ 4 ^ d := Nat.one_le_pow _ _ (by decide)
    rw [Nat.pow_succ]; omega
/-- The law: every register is bound before it is used, and opened at most once; there are as many as the pattern has parts. -/
theorem chk_valid {p : P} (hv : pvalid p 6 6 = true) (hn : nsz p ≤ 1000000) : ∃ O', chk (pc p 0 ⟨[], 1, []⟩).l 1 (List.replicate 64 false) = some (psize p, O') := by
  unfold pvalid at hv
  simp only [Bool.and_eq_true, decide_eq_true_eq] at hv
  obtain ⟨⟨_, h1⟩, h2⟩ := hv
  rw [psize_nsz p hn] at h1 ⊢
  have hsh : ∀ q, Shut (List.replicate 64 false) q := fun q => by
    unfold Shut
    rw [List.getD_eq_getElem?_getD, List.getElem?_replicate]
    split <;> rfl
  obtain ⟨e, O', B⟩ := pc_ok 6 p 0 (List.replicate 6 0) 0 ⟨[], 1, []⟩ (List.replicate 64 false) h2 ⟨by simp, by decide, fun x hx => (by cases hx), fun q _ => hsh q⟩ (Int.le_refl _) (by decide) (hsh 0) (fun x hx => (by cases hx)) (by show (1 : Int) + nsz p ≤ 65; omega)
  obtain ⟨l, a1, a2⟩ := B.new
  have e : (pc p 0 ⟨[], 1, []⟩).next = 1 + nsz p - 1 := e
  rw [e] at a2
  have a2 : chk l 1 (List.replicate 64 false) = _ := a2
  refine ⟨O', ?_⟩
  rw [a1, List.nil_append, a2, show (1 : Int) + nsz p - 1 = nsz p by omega]
end
end Go.Vm
