/-
  The Pattern functions: what they do, proved; no conditions but those that the theorems name.
-/
import Derived.Test.YtoigofkddkpijaaPatA
namespace Go.Vm
noncomputable section
/-! ### Words of the reader -/
theorem F22_eq' {n m : Int} (h0 : 0 < m) (h1 : m < 4611686018427387904) : 0 ≤ F22r0 n m ∧ F22r0 n m < m := by
  rw [F22_eq h0 h1]
  exact ⟨Int.emod_nonneg n (by omega), Int.emod_lt_of_pos n h0⟩
theorem elI_mem (xs : List Int) (i : Nat) : elI xs i ∈ xs ∨ elI xs i = 0 := by
  unfold elI
  rw [List.getD_eq_getElem?_getD]
  cases h : xs[i]? with
  | none => exact .inr rfl
  | some x => exact .inl (List.mem_of_getElem? h)
theorem F39_W {x y : Int} (hy : W y) : W (F39r0 x y) := by
  unfold F39r0
  cases decide (F22r0 x 24 < 10) with
  | true =>
    rw [cond_true]
    rcases elI_mem [0, 1, -1, 2, -9223372036854775808, 9223372036854775807, 4294967296, -2147483648, 63, 64] (Int.toNat (F22r0 x 24)) with h | h
    · simp only [List.mem_cons, List.not_mem_nil, or_false] at h
      unfold W; omega
    · rw [h]; unfold W; omega
  | false =>
    rw [cond_false]
    cases decide (F22r0 x 24 < 22) with
    | true => exact W.wrap _
    | false => exact hy
theorem tmod_range {m k : Int} (hm : 0 ≤ m) (hk : 0 < k) : 0 ≤ m.tmod k ∧ m.tmod k < k := ⟨Int.tmod_nonneg k hm, Int.tmod_lt_of_pos m hk⟩
theorem op3 {m : Int} (hm : 0 ≤ m) : 27 ≤ elI [27, 28, 29] (m.tmod 3).toNat ∧ elI [27, 28, 29] (m.tmod 3).toNat ≤ 29 := by
  obtain ⟨h1, h2⟩ := tmod_range hm (show (0 : Int) < 3 by decide)
  have : (m.tmod 3).toNat = 0 ∨ (m.tmod 3).toNat = 1 ∨ (m.tmod 3).toNat = 2 := by omega
  rcases this with h | h | h <;> rw [h] <;> decide
theorem op19 {m : Int} (hm : 0 ≤ m) : 4 ≤ IntKind.wrap .i64 (4 + m.tmod 19) ∧ IntKind.wrap .i64 (4 + m.tmod 19) ≤ 29 := by
  obtain ⟨h1, h2⟩ := tmod_range hm (show (0 : Int) < 19 by decide)
  rw [wrap_i64_id (by omega) (by omega)]; omega
theorem arity_small {op : Int} (h0 : 4 ≤ op) (h1 : op ≤ 29) : 0 ≤ F19r0 op ∧ F19r0 op ≤ 3 := by
  have key : ((List.range 26).all fun k => decide (0 ≤ F19r0 (4 + (k : Int))) && decide (F19r0 (4 + (k : Int)) ≤ 3)) = true := by kernel_rfl
  have := List.all_eq_true.1 key (op - 4).toNat (by rw [List.mem_range]; omega)
  rw [show 4 + (((op - 4).toNat : Nat) : Int) = op by omega] at this
  simpa using this

/-! ### Operands -/
theorem append_kid {u : St} {tk : Tok} {ks : List P} (p : P) (h : (tk = .nil ∧ ks = []) ∨ ∃ id, tk = .tk id ∧ HasRow u id 5) (hl : ks.length ≤ 3) :
    ∃ t1, builtinX G 58 Fr.empty u (some 99) .append [22, 22] [.sl tk (encs ks), .sl .full [enc p]] = some (.sl (.tk u.next) (encs ks ++ [enc p]), some (Fr.empty, t1)) ∧ (t1 = u.grow0 5 ∨ ∃ id, tk = .tk id ∧ t1 = u.grow1 id 5) := by
  obtain ⟨ti, ei, t1, t2, t3, t4⟩ := sliceOfB_of (show sliceOfB G 22 24 5 = true by kernel_rfl)
  have hb : ∃ i, G.ty 24 = some i ∧ (Nat.blt 0 i.size && Nat.blt 0 i.bytes && Nat.ble i.bytes 1000000 && i.zero.any fun z => Nat.beq z.cells.size i.size) = true := by
    have : (match G.ty 24 with | some i => (Nat.blt 0 i.size && Nat.blt 0 i.bytes && Nat.ble i.bytes 1000000 && i.zero.any fun z => Nat.beq z.cells.size i.size) | none => false) = true := by kernel_rfl
    split at this
    · rename_i i hi; exact ⟨i, hi, this⟩
    · cases this
  obtain ⟨ei', t3', t5⟩ := hb
  rw [t3] at t3'; injection t3' with t3'; subst t3'
  simp only [Bool.and_eq_true] at t5
  obtain ⟨⟨⟨q1, q2⟩, q3⟩, q4⟩ := t5
  have q3 := Nat.le_of_ble_eq_true q3
  have hc : (Nat.blt 0 ei.size && Nat.blt 0 ei.bytes && sized ei.size [enc p] && ei.zero.any fun z => Nat.beq z.cells.size ei.size) = true := by
    rw [q1, q2, q4, t4]
    cases p; rfl
  rcases h with ⟨rfl, rfl⟩ | ⟨id, rfl, hr⟩
  · refine ⟨u.grow0 5, ?_, .inl rfl⟩
    have := append_nil (Γ := G) (f := 58) (s := u) (d := some 99) (tk := .full) (y := enc p) (ys := []) t1 t1 t2 t2 t3 (by kernel_rfl) hc (Nat.ble_eq_true_of_le (by simp; omega))
    rw [t4] at this
    exact this
  · refine ⟨u.grow1 id 5, ?_, .inr ⟨id, rfl, rfl⟩⟩
    have := append_tk (Γ := G) (f := 58) (s := u) (d := some 99) (tk := .full) (id := id) (y := enc p) (es := encs ks) (ys := []) (by rw [t4]; exact hr) t1 t1 t2 t2 t3 (by kernel_rfl) hc (Nat.ble_eq_true_of_le (by
      rw [encs_len]; simp only [List.length_singleton]
      have : (ks.length + 1) * ei.bytes ≤ 4 * 1000000 := Nat.mul_le_mul (by omega) q3
      omega))
    rw [t4] at this
    exact this

abbrev ts58 : List Nat := [0, 2, 3, 4, 10, 13, 14, 15, 17]
abbrev ls58 : List Nat := [10, 14]
theorem live58 : (firstRegion (loopAt G 58 19)).bind (G.live 58) = some (ts58, ls58) := by kernel_rfl
theorem keep58 (b : Nat) (deep vars m ar i op : Int) (st : Bool) (z : List AV) (tk : Tok) (ks : List AV) (v1 o1 m1 w1 : Int) (ks1 : List AV) (s u1 t1 : St) :
    (E58x0 b deep vars m ar i op st z tk ks v1 o1 m1 w1 ks1 s u1 t1).keep ts58 ls58 = H58 b deep vars m ar (IntKind.wrap .i64 (i + 1)) op st z (.tk u1.next) (ks ++ [.agg [li v1, li o1, li m1, li w1, .sl .ro ks1]]) v1 o1 m1 w1 ks1 s u1 t1 := by kernel_rfl

/-- What a call of Pattern brings. -/
def PostP (d b : Nat) (l : Int) (s : St) (v : AV) (s' : St) : Prop := ∃ p zs', v = enc p ∧ Small d p ∧ Words zs' ∧ Rd s' b zs' l ∧ Keep s.next b s s'

theorem kids_run {b d : Nat} {l deep vars : Int} {st : Bool} (hd : 0 ≤ deep ∧ deep ≤ 10)
    (IH : ∀ (s : St) (zs : List Int) (sort : Int), Words zs → Rd s b zs l → ∃ v s', Runs G 58 [.hp b 0, li sort, li (deep + 1), li vars, .lit (.bool st)] s v s' ∧ PostP d b l s v s')
    (m op : Int) (z : List AV) (ar N : Nat) (har : ar ≤ 3) (s0 : St) : ∀ (j i : Nat) (ks : List P) (tk : Tok) (s : St) (zs : List Int), ar = i + j → ks.length = i → Smalls d ks → Words zs → Rd s b zs l →
      ((tk = .nil ∧ ks = []) ∨ ∃ id, tk = .tk id ∧ HasRow s id 5 ∧ N ≤ id ∧ id ≠ b) → N ≤ s.next → ∀ g : Fr, g.keep ts58 ls58 = H58 b deep vars m ar i op st z tk (encs ks) 0 0 0 0 [] s0 s0 s0 →
      ∃ tk' ks' s' zs', LoopN G 58 (loopAt G 58 19) ts58 ls58 g s (.exit 0) (E58x1 b deep vars m ar ar op st z tk' (encs ks') 0 0 0 0 [] s0 s0 s0) s' ∧ ks'.length = ar ∧ Smalls d ks' ∧ Words zs' ∧ Rd s' b zs' l ∧ Keep N b s s'
  | 0, i, ks, tk, s, zs, hi, hk, hs, hw, hr, ht, hN, g, hg => by
    subst hk
    have hi : ar = ks.length := by omega
    obtain ⟨x, g', s', h', E, K1, K2, K3⟩ := execP_sound sp58_ok (f := 58) (loopAt G 58 19) (H58 b deep vars m ar ks.length op st z tk (encs ks) 0 0 0 0 [] s0 s0 s0) s _ (fun x g' s' _ => x = .exit 0 ∧ g' = E58x1 b deep vars m ar ar op st z tk (encs ks) 0 0 0 0 [] s0 s0 s0 ∧ s' = s) (by
      rw [show H58 b deep vars m ar ks.length op st z tk (encs ks) 0 0 0 0 [] s0 s0 s0 = H58 b deep vars m ar ks.length op st z tk (encs ks) 0 0 0 0 [] s s s from rfl, round58]
      refine ⟨fun h => ?_, fun _ => ⟨rfl, ?_, rfl⟩⟩
      · have := of_decide_eq_true h; omega
      · rw [← hi]; rfl)
    subst K1; subst K2; subst K3
    rw [← hg] at E
    exact ⟨tk, ks, _, zs, LoopN.last (by simp) E, hi.symm, hs, hw, hr, Keep.refl _ _ _⟩
  | j + 1, i, ks, tk, s, zs, hi, hk, hs, hw, hr, ht, hN, g, hg => by
    subst hk
    obtain ⟨v, u1, R, p, zs1, rfl, hp, hw1, hr1, hk1⟩ := IH s zs (F61r0 op ks.length) hw hr
    have hb : b < s.next := by obtain ⟨_, h⟩ := hr; exact h.next
    have hb1 : b < u1.next := Nat.lt_of_lt_of_le hb hk1.next
    have ht1 : (tk = .nil ∧ ks = []) ∨ ∃ id, tk = .tk id ∧ HasRow u1 id 5 := by
      rcases ht with h | ⟨id, h1, h2, h3, h4⟩
      · exact .inl h
      · exact .inr ⟨id, h1, h2.keep hk1 h4 h2.next⟩
    obtain ⟨t1, ha, hcase⟩ := append_kid p ht1 (by omega)
    have hlk : u1.lock ≤ u1.next := by
      obtain ⟨_, h⟩ := hr1
      have := h.lock; have := h.next; omega
    have hN1 : N ≤ u1.next := Nat.le_trans hN hk1.next
    have hrow : HasRow t1 u1.next 5 := by
      rcases hcase with rfl | ⟨id, _, rfl⟩
      · exact HasRow.new0 hlk
      · exact HasRow.new1 hlk
    have hr2 : Rd t1 b zs1 l := by
      obtain ⟨tk1, h⟩ := hr1
      rcases hcase with rfl | ⟨id, e, rfl⟩
      · exact ⟨tk1, h.grow0⟩
      · rcases ht1 with ⟨e', _⟩ | ⟨id', e', h'⟩
        · rw [e'] at e; cases e
        · rw [e'] at e; injection e with e; subst e
          exact ⟨tk1, h.grow1 h'⟩
    have hkp : Keep N b u1 t1 := by
      rcases hcase with rfl | ⟨id, e, rfl⟩
      · exact Keep.grow0 hN1
      · rcases ht with ⟨e', _⟩ | ⟨id', e', _, h', _⟩
        · rw [e'] at e; cases e
        · rw [e'] at e; injection e with e; subst e
          exact Keep.grow1 hN1 h'
    have hnx : t1.next = u1.next + 1 := by rcases hcase with rfl | ⟨id, _, rfl⟩ <;> rfl
    obtain ⟨v1, o1, m1, w1, ks1⟩ := p
    obtain ⟨x, g', s', h', E, K1, K2, K3⟩ := execP_sound sp58_ok (f := 58) (loopAt G 58 19) (H58 b deep vars m ar ks.length op st z tk (encs ks) v1 o1 m1 w1 (encs ks1) s u1 t1) s _ (fun x g' s' _ => x = .normal ∧ g' = E58x0 b deep vars m ar ks.length op st z tk (encs ks) v1 o1 m1 w1 (encs ks1) s u1 t1 ∧ s' = t1) (by
      rw [round58]
      refine ⟨fun _ => ⟨?_, ha, rfl, rfl, rfl⟩, fun h => ?_⟩
      · rw [wrap_i64_id (by omega) (by omega)]; exact R
      · have := of_decide_eq_false h; omega)
    subst K1; subst K2; subst K3
    have hg' : g.keep ts58 ls58 = H58 b deep vars m ar ks.length op st z tk (encs ks) v1 o1 m1 w1 (encs ks1) s u1 s' := hg
    rw [← hg'] at E
    obtain ⟨tk', ks', s2, zs2, L, e1, e2, e3, e4, e5⟩ := kids_run hd IH m op z ar N har s0 j (ks.length + 1) (ks ++ [.mk v1 o1 m1 w1 ks1]) (.tk u1.next) s' zs1 (by omega) (by simp) (Smalls_app d ks _ hs (by unfold Smalls; exact ⟨hp, by unfold Smalls; trivial⟩)) hw1 hr2 (.inr ⟨u1.next, rfl, hrow, hN1, by omega⟩) (by omega) (E58x0 b deep vars m ar ks.length op st z tk (encs ks) v1 o1 m1 w1 (encs ks1) s u1 s') (by
      rw [keep58, encs_app, wrap_i64_id (by omega) (by omega)]
      rfl)
    exact ⟨tk', ks', s2, zs2, LoopN.more E L, e1, e2, e3, e4, ((hk1.less hN).trans hkp).trans e5⟩
end
end Go.Vm
