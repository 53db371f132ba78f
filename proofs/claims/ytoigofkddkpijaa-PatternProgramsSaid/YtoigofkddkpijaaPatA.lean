/-
  The Pattern functions: what they do, proved; no conditions but those that the theorems name.
-/
import Derived.Test.YtoigofkddkpijaaPatT
namespace Go.Vm
noncomputable section
/-! ### Patterns -/
/-- A pattern: its variable, operation, immediate, immediate variable, operands. -/
inductive P where
  | mk (v o m w : Int) (ks : List P)
mutual
def enc : P → AV
  | .mk v o m w ks => .agg [li v, li o, li m, li w, .sl .ro (encs ks)]
def encs : List P → List AV
  | [] => []
  | p :: ps => enc p :: encs ps
end
theorem encs_app : ∀ (a b : List P), encs (a ++ b) = encs a ++ encs b
  | [], b => rfl
  | p :: a, b => by simp only [List.cons_append, encs, encs_app a b]
theorem encs_len : ∀ a : List P, (encs a).length = a.length
  | [] => rfl
  | p :: a => by simp only [encs, List.length_cons, encs_len a]
theorem encs_get : ∀ (a : List P) (i : Nat) (p : P), a[i]? = some p → (encs a)[i]? = some (enc p)
  | [], i, p, h => by simp at h
  | q :: a, 0, p, h => by simp only [List.getElem?_cons_zero, Option.some.injEq] at h; subst h; rfl
  | q :: a, i + 1, p, h => by simp only [encs, List.getElem?_cons_succ] at h ⊢; exact encs_get a i p h
def P.ks : P → List P | .mk _ _ _ _ ks => ks
mutual
/-- Of words, with few operands, not deep. -/
def Small : Nat → P → Prop
  | 0, _ => False
  | d + 1, .mk v o m w ks => W v ∧ W o ∧ W m ∧ W w ∧ ks.length ≤ 3 ∧ Smalls d ks
def Smalls : Nat → List P → Prop
  | _, [] => True
  | d, k :: ks => Small d k ∧ Smalls d ks
end
theorem Smalls_app : ∀ (d : Nat) (a b : List P), Smalls d a → Smalls d b → Smalls d (a ++ b)
  | d, [], b, _, h => by simpa using h
  | d, p :: a, b, h1, h2 => by
    simp only [List.cons_append]
    unfold Smalls at h1 ⊢
    exact ⟨h1.1, Smalls_app d a b h1.2 h2⟩

/-! ### The reader in the store -/
def Words (zs : List Int) : Prop := ∀ z, z ∈ zs → W z
/-- The reader lies at b with these seeds left. -/
def Rd (s : St) (b : Nat) (zs : List Int) (l : Int) : Prop := ∃ tk, Has s b [.sl tk (zs.map li), li l]
/-- What lies below N stays, but for b. -/
structure Keep (N b : Nat) (s s' : St) : Prop where
  lock : s'.lock = s.lock
  next : s.next ≤ s'.next
  get : ∀ id, id < N → id ≠ b → s'.objs.get id = s.objs.get id
theorem Keep.refl (N b : Nat) (s : St) : Keep N b s s := ⟨rfl, Nat.le_refl _, fun _ _ _ => rfl⟩
theorem Keep.trans {N b : Nat} {s s1 s2 : St} (h : Keep N b s s1) (h' : Keep N b s1 s2) : Keep N b s s2 :=
  ⟨h'.lock.trans h.lock, Nat.le_trans h.next h'.next, fun id h1 h2 => (h'.get id h1 h2).trans (h.get id h1 h2)⟩
theorem Keep.less {N N' b : Nat} {s s' : St} (h : Keep N b s s') (hn : N' ≤ N) : Keep N' b s s' := ⟨h.lock, h.next, fun id h1 h2 => h.get id (Nat.lt_of_lt_of_le h1 hn) h2⟩
theorem Keep.upd {N b : Nat} {s : St} {cs : List AV} : Keep N b s (s.upd b cs) :=
  ⟨rfl, Nat.le_refl _, fun id _ h => by unfold St.upd; rw [Tr.get_set, if_neg h]⟩
theorem Keep.grow0 {N b sz : Nat} {s : St} (h : N ≤ s.next) : Keep N b s (s.grow0 sz) :=
  ⟨rfl, Nat.le_succ _, fun id h1 _ => by unfold St.grow0; rw [Tr.get_set, if_neg (by omega)]⟩
theorem Keep.grow1 {N b sz id : Nat} {s : St} (h : N ≤ s.next) (hid : N ≤ id) : Keep N b s (s.grow1 id sz) :=
  ⟨rfl, Nat.le_succ _, fun i h1 _ => by unfold St.grow1; rw [Tr.get_set, if_neg (by omega), Tr.get_put, if_neg (by omega)]⟩
theorem Has.keep {N b b' : Nat} {s s' : St} {cs : List AV} (h : Has s b' cs) (k : Keep N b s s') (hb : b' ≠ b) (hN : b' < N) : Has s' b' cs :=
  ⟨by rw [k.get b' hN hb]; exact h.get, by rw [k.lock]; exact h.lock, Nat.lt_of_lt_of_le h.next k.next⟩
theorem HasRow.keep {N b id sz : Nat} {s s' : St} (h : HasRow s id sz) (k : Keep N b s s') (hb : id ≠ b) (hN : id < N) : HasRow s' id sz :=
  ⟨by rw [k.get id hN hb]; exact h.get, by rw [k.lock]; exact h.lock, Nat.lt_of_lt_of_le h.next k.next⟩

def sizeB (Γ : Ctx) (t : TypeId) (n : Nat) : Bool := match Γ.ty t with | some i => Nat.beq i.size n | none => false
theorem sizeB_of {Γ : Ctx} {t : TypeId} {n : Nat} (h : sizeB Γ t n = true) : ∃ i, Γ.ty t = some i ∧ i.size = n := by
  unfold sizeB at h
  split at h
  · rename_i i hi; exact ⟨i, hi, Nat.eq_of_beq_eq_true h⟩
  · cases h
def sliceOfB (Γ : Ctx) (t e : TypeId) (n : Nat) : Bool := match Γ.ty t with
  | some ti => (match ti.und with | .slice e' => Nat.beq e e' | _ => false) && sizeB Γ e n
  | none => false
theorem sliceOfB_of {Γ : Ctx} {t e : TypeId} {n : Nat} (h : sliceOfB Γ t e n = true) : ∃ ti ei, Γ.ty t = some ti ∧ ti.und = .slice e ∧ Γ.ty e = some ei ∧ ei.size = n := by
  unfold sliceOfB at h
  split at h
  · rename_i ti hti
    simp only [Bool.and_eq_true] at h
    obtain ⟨h1, h2⟩ := h
    obtain ⟨ei, h3, h4⟩ := sizeB_of h2
    split at h1
    · rename_i e' he
      exact ⟨ti, ei, hti, by rw [he, Nat.eq_of_beq_eq_true h1], h3, h4⟩
    · cases h1
  · cases h
/-- A slice from a place on. -/
theorem sliceB_from {Γ : Ctx} {s : St} {t e : TypeId} {n : Nat} {tk : Tok} {es : List AV} {k : IntKind} {m : Nat} (h : sliceOfB Γ t e n = true) (hall : ∀ x, x ∈ es → x.cells.length = n) (hm : m ≤ es.length) :
    sliceB Γ s t (.sl tk es) (some (.lit (.int k m))) none = some (.sl (loTok tk) (es.drop m)) := by
  obtain ⟨ti, ei, t1, t2, t3, t4⟩ := sliceOfB_of h
  have ha : (es.all fun v => Nat.beq v.cells.length n) = true := by
    rw [List.all_eq_true]; intro x hx; rw [hall x hx]; exact Nat.beq_refl n
  have h0 : (0 : Int) ≤ (m : Int) := Int.natCast_nonneg m
  have b1 : Nat.ble es.length es.length = true := Nat.ble_eq_true_of_le (Nat.le_refl _)
  have b2 : Nat.ble m es.length = true := Nat.ble_eq_true_of_le hm
  simp only [sliceB, slice, t1, natOpt, asNat, if_pos h0, Option.map_some, t2, t3, t4, ha, Int.toNat_natCast, Option.getD_none, Option.getD_some, b1, b2, Option.isNone_some, Bool.false_or, Bool.and_self, cond_true, Option.elim]
theorem next_run {s : St} {b : Nat} {zs : List Int} {l : Int} (h : Rd s b zs l) (hw : Words zs) :
    ∃ n zs' s', Runs G 57 [.hp b 0] s (li n) s' ∧ W n ∧ Words zs' ∧ Rd s' b zs' l ∧ Keep s.next b s s' ∧ s'.next = s.next := by
  obtain ⟨tk, h⟩ := h
  cases zs with
  | nil =>
    obtain ⟨v, s', R, h1, h2⟩ := runs_of_funP sp57e_ok (f := 57) (by kernel_rfl) (args := [.hp b 0]) (s := s) (Q := fun v s' => v = li 0 ∧ s' = s) (by
      rw [tree57e tk l s b]
      exact ⟨loadAt_hp h (by kernel_rfl), rfl, rfl⟩)
    subst h1; subst h2
    exact ⟨0, [], _, R, by unfold W; omega, hw, ⟨tk, h⟩, Keep.refl _ _ _, rfl⟩
  | cons z r =>
    have hs : sliceB G s 26 (.sl tk (li z :: r.map li)) (some (.lit (.int .i64 1))) none = some (.sl (loTok tk) (r.map li)) :=
      sliceB_from (n := 1) (m := 1) (e := 3) (by kernel_rfl) (fun x hx => by
        rcases List.mem_cons.1 hx with rfl | hx
        · rfl
        · obtain ⟨y, _, rfl⟩ := List.mem_map.1 hx; rfl) (by simp)
    obtain ⟨i26, ti26, ts26⟩ := sizeB_of (show sizeB G 26 1 = true by kernel_rfl)
    have hst := storeB_upd (Γ := G) (t := 26) (off := 0) (v := .sl (loTok tk) (r.map li)) h ti26 (by rw [ts26]; rfl) rfl
    have hh : Has (s.upd b [.sl (loTok tk) (r.map li), li l]) b [.sl (loTok tk) (r.map li), li l] := h.upd
    obtain ⟨v, s', R, h1, h2⟩ := runs_of_funP sp57c_ok (f := 57) (by kernel_rfl) (args := [.hp b 0]) (s := s) (Q := fun v s' => v = li z ∧ s' = s.upd b [.sl (loTok tk) (r.map li), li l]) (by
      rw [tree57c tk l z (r.map li) s (s.upd b [.sl (loTok tk) (r.map li), li l]) b]
      exact ⟨loadAt_hp h (by kernel_rfl), loadAt_hp h (by kernel_rfl), loadAt_hp h (by kernel_rfl), hs, hst, rfl, rfl⟩)
    subst h1; subst h2
    exact ⟨z, r, _, R, hw z (by simp), fun y hy => hw y (by simp [hy]), ⟨_, hh⟩, Keep.upd, rfl⟩
end
end Go.Vm
