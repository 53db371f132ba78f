/-
  The Pattern functions: what they do, proved; no conditions but those that the theorems name.
-/
import Derived.Test.YtoigofkddkpijaaPatH
import Derived.Test.YtoigofkddkpijaaPatY
namespace Go.Vm
noncomputable section
/-! ### Compile -/
theorem clear_mask {ms : List Nat} {i : Nat} (e : Eff) : ∀ rs : List Rec, (∀ q, q ∈ rs → (ms.getD i 0).testBit q.i = true) → clear ms i e rs = true
  | [], _ => rfl
  | q :: r, h => by
    have ih := clear_mask e r fun q hq => h q (List.mem_cons_of_mem _ hq)
    have hq := h q List.mem_cons_self
    unfold clear
    rw [hq, ih]
    cases (q.e.loud || e.loud) <;> cases q.e.clash e <;> rfl

structure Ins where
  k : Int
  a : Int
  b : Int
  o : Int
  m : Int
  w : Int
def encI (i : Ins) : AV := .agg [li i.k, li i.a, li i.b, li i.o, li i.m, li i.w]
/-- The instructions, the first free register, the registers of the variables. -/
structure Prg where
  l : List Ins
  next : Int
  vars : List Int
/-- Room for v variables. -/
def room (vs : List Int) (v : Int) : List Int := vs ++ List.replicate (v.toNat - vs.length) (-1)
mutual
def pc : P → Int → Prg → Prg
  | .mk v o m w ks, r, c =>
    if 0 < v then
      if 0 ≤ (room c.vars v).getD (v - 1).toNat 0 then ⟨c.l ++ [⟨2, r, (room c.vars v).getD (v - 1).toNat 0, 0, 0, 0⟩], c.next, room c.vars v⟩
      else ⟨c.l, c.next, (room c.vars v).set (v - 1).toNat r⟩
    else pcs ks c.next 0 ⟨c.l ++ [⟨1, r, c.next, o, m, w⟩], IntKind.wrap .i64 (c.next + ks.length), c.vars⟩
def pcs : List P → Int → Nat → Prg → Prg
  | [], _, _, c => c
  | k :: ks, b, i, c => pcs ks b (i + 1) (pc k (IntKind.wrap .i64 (b + i)) c)
end
mutual
/-- How many parts it has. -/
def nsz : P → Nat
  | .mk _ _ _ _ ks => 1 + nszs ks
def nszs : List P → Nat
  | [] => 0
  | k :: ks => nsz k + nszs ks
end
mutual
/-- No variable beyond n. -/
def Vle (n : Int) : P → Prop
  | .mk v _ _ _ ks => v ≤ n ∧ Vles n ks
def Vles (n : Int) : List P → Prop
  | [] => True
  | k :: ks => Vle n k ∧ Vles n ks
end

/-- What lies below N stays. -/
structure Kept (N : Nat) (s s' : St) : Prop where
  lock : s'.lock = s.lock
  next : s.next ≤ s'.next
  get : ∀ id, id < N → s'.objs.get id = s.objs.get id
theorem Kept.refl (N : Nat) (s : St) : Kept N s s := ⟨rfl, Nat.le_refl _, fun _ _ => rfl⟩
theorem Kept.trans {N : Nat} {s s1 s2 : St} (h : Kept N s s1) (h' : Kept N s1 s2) : Kept N s s2 :=
  ⟨h'.lock.trans h.lock, Nat.le_trans h.next h'.next, fun id q => (h'.get id q).trans (h.get id q)⟩
theorem Kept.upd {N b : Nat} {s : St} {cs : List AV} (h : N ≤ b) : Kept N s (s.upd b cs) :=
  ⟨rfl, Nat.le_refl _, fun id q => by unfold St.upd; rw [Tr.get_set, if_neg (by omega)]⟩
theorem Kept.grow0 {N sz : Nat} {s : St} (h : N ≤ s.next) : Kept N s (s.grow0 sz) :=
  ⟨rfl, Nat.le_succ _, fun id h1 => by unfold St.grow0; rw [Tr.get_set, if_neg (by omega)]⟩
theorem Kept.grow1 {N sz id : Nat} {s : St} (h : N ≤ s.next) (hid : N ≤ id) : Kept N s (s.grow1 id sz) :=
  ⟨rfl, Nat.le_succ _, fun i h1 => by unfold St.grow1; rw [Tr.get_set, if_neg (by omega), Tr.get_put, if_neg (by omega)]⟩
theorem Kept.new {N : Nat} {s : St} {cs : List AV} (h : N ≤ s.next) : Kept N s (s.new cs) :=
  ⟨rfl, Nat.le_succ _, fun id h1 => by show (s.objs.set _ _).get id = _; rw [Tr.get_set, if_neg (by omega)]⟩
/-- A row of its own takes the place of another. -/
def St.moveRow (s : St) (id : Nat) (cs : List AV) : St := { s with next := s.next + 1, objs := (s.objs.put id none).set s.next (.cells cs) }
theorem Kept.moveRow {N id : Nat} {s : St} {cs : List AV} (h : N ≤ s.next) (hid : N ≤ id) : Kept N s (s.moveRow id cs) :=
  ⟨rfl, Nat.le_succ _, fun i h1 => by unfold St.moveRow; rw [Tr.get_set, if_neg (by omega), Tr.get_put, if_neg (by omega)]⟩
theorem Has.new_ne {s : St} {b : Nat} {cs cs' : List AV} (h : Has s b cs) : Has (s.new cs') b cs :=
  ⟨by have := h.next; show (s.objs.set _ _).get b = _; rw [Tr.get_set, if_neg (by omega)]; exact h.get, h.lock, Nat.lt_succ_of_lt h.next⟩
theorem Has.moveRow_ne {s : St} {b id : Nat} {cs cs' : List AV} (h : Has s b cs) (hb : b ≠ id) : Has (s.moveRow id cs') b cs :=
  ⟨by have := h.next; unfold St.moveRow; rw [Tr.get_set, if_neg (by omega), Tr.get_put, if_neg hb]; exact h.get, h.lock, Nat.lt_succ_of_lt h.next⟩
theorem Has.moveRow {s : St} {id : Nat} {cs : List AV} (h : s.lock ≤ s.next) : Has (s.moveRow id cs) s.next cs :=
  ⟨by unfold St.moveRow; rw [Tr.get_set, if_pos rfl], h, Nat.lt_succ_self _⟩
theorem HasRow.new_ne {s : St} {b sz : Nat} {cs' : List AV} (h : HasRow s b sz) : HasRow (s.new cs') b sz :=
  ⟨by have := h.next; show (s.objs.set _ _).get b = _; rw [Tr.get_set, if_neg (by omega)]; exact h.get, h.lock, Nat.lt_succ_of_lt h.next⟩
theorem HasRow.moveRow_ne {s : St} {b id sz : Nat} {cs' : List AV} (h : HasRow s b sz) (hb : b ≠ id) : HasRow (s.moveRow id cs') b sz :=
  ⟨by have := h.next; unfold St.moveRow; rw [Tr.get_set, if_neg (by omega), Tr.get_put, if_neg hb]; exact h.get, h.lock, Nat.lt_succ_of_lt h.next⟩
theorem Has.ne_row {s : St} {b id sz : Nat} {cs : List AV} (h : Has s b cs) (hr : HasRow s id sz) : b ≠ id := fun e => by
  have h1 := h.get; have h2 := hr.get; rw [e, h2] at h1; cases h1

def RowL (N : Nat) (tk : Tok) (l : List Ins) (s : St) : Prop := (tk = .nil ∧ l = []) ∨ ∃ id, tk = .tk id ∧ HasRow s id 6 ∧ N ≤ id
def RowV (N b : Nat) (V : AV) (vs : List Int) (s : St) : Prop := (V = .sl .nil [] ∧ vs = []) ∨ ∃ id, V = .rs 3 1 id 0 vs.length ∧ Has s id (vs.map li) ∧ N ≤ id ∧ id ≠ b ∧ vs ≠ []
/-- The program under construction lies at b. -/
structure PSt (N b : Nat) (c : Prg) (s : St) (tk : Tok) (V : AV) : Prop where
  has : Has s b [.sl tk (c.l.map encI), li c.next, V]
  low : N ≤ b
  rowL : RowL N tk c.l s
  rowV : RowV N b V c.vars s
theorem PSt.lk {N b : Nat} {c : Prg} {s : St} {tk : Tok} {V : AV} (h : PSt N b c s tk V) : s.lock ≤ s.next := by have := h.has.lock; have := h.has.next; omega
theorem PSt.nx {N b : Nat} {c : Prg} {s : St} {tk : Tok} {V : AV} (h : PSt N b c s tk V) : N ≤ s.next := by have := h.low; have := h.has.next; omega
/-- Another number of registers. -/
theorem PSt.setNext {N b : Nat} {c : Prg} {s : St} {tk : Tok} {V : AV} (h : PSt N b c s tk V) (n : Int) : storeB G s 3 (.hp b 1) (li n) = some (s.upd b [.sl tk (c.l.map encI), li n, V]) ∧ PSt N b ⟨c.l, n, c.vars⟩ (s.upd b [.sl tk (c.l.map encI), li n, V]) tk V ∧ Kept N s (s.upd b [.sl tk (c.l.map encI), li n, V]) := by
  obtain ⟨i, h1, _, h2⟩ := scalB_of (show scalB G 3 = true by kernel_rfl)
  refine ⟨storeB_upd (off := 1) h.has h1 (by rw [h2]; rfl) rfl, ⟨h.has.upd, h.low, ?_, ?_⟩, Kept.upd h.low⟩
  · rcases h.rowL with q | ⟨id, q1, q2, q3⟩
    · exact .inl q
    · exact .inr ⟨id, q1, q2.upd (h.has.ne_row q2).symm, q3⟩
  · rcases h.rowV with q | ⟨id, q1, q2, q3, q4, q5⟩
    · exact .inl q
    · exact .inr ⟨id, q1, q2.upd_ne q4, q3, q4, q5⟩
/-- One more instruction. -/
theorem PSt.push {N b d : Nat} {c : Prg} {s : St} {tk : Tok} {V : AV} (h : PSt N b c s tk V) (x : Ins) (hd : (some d).any (G.hard 55) = false) (hl : c.l.length ≤ 1000000) :
    ∃ s1 s2, builtinX G 55 Fr.empty s (some d) .append [25, 25] [.sl tk (c.l.map encI), .sl .full [encI x]] = some (.sl (.tk s.next) (c.l.map encI ++ [encI x]), some (Fr.empty, s1)) ∧
      storeB G s1 25 (.hp b 0) (.sl (.tk s.next) (c.l.map encI ++ [encI x])) = some s2 ∧ PSt N b ⟨c.l ++ [x], c.next, c.vars⟩ s2 (.tk s.next) V ∧ Kept N s s2 := by
  obtain ⟨ti, ei, t1, t2, t3, t4⟩ := sliceOfB_of (show sliceOfB G 25 30 6 = true by kernel_rfl)
  have hb : ∃ i, G.ty 30 = some i ∧ (Nat.blt 0 i.size && Nat.blt 0 i.bytes && Nat.ble i.bytes 1000000 && i.zero.any fun z => Nat.beq z.cells.size i.size) = true := by
    have : (match G.ty 30 with | some i => (Nat.blt 0 i.size && Nat.blt 0 i.bytes && Nat.ble i.bytes 1000000 && i.zero.any fun z => Nat.beq z.cells.size i.size) | none => false) = true := by kernel_rfl
    split at this
    · rename_i i hi; exact ⟨i, hi, this⟩
    · cases this
  obtain ⟨ei', t3', t5⟩ := hb
  rw [t3] at t3'; injection t3' with t3'; subst t3'
  simp only [Bool.and_eq_true] at t5
  obtain ⟨⟨⟨q1, q2⟩, q3⟩, q4⟩ := t5
  have q3 := Nat.le_of_ble_eq_true q3
  have hc : (Nat.blt 0 ei.size && Nat.blt 0 ei.bytes && sized ei.size [encI x] && ei.zero.any fun z => Nat.beq z.cells.size ei.size) = true := by
    rw [q1, q2, q4, t4]; rfl
  have main : ∃ s1, builtinX G 55 Fr.empty s (some d) .append [25, 25] [.sl tk (c.l.map encI), .sl .full [encI x]] = some (.sl (.tk s.next) (c.l.map encI ++ [encI x]), some (Fr.empty, s1)) ∧ HasRow s1 s.next 6 ∧ Has s1 b [.sl tk (c.l.map encI), li c.next, V] ∧ RowV N b V c.vars s1 ∧ Kept N s s1 := by
    rcases h.rowL with ⟨e1, e2⟩ | ⟨id, e1, hr, e3⟩
    · subst e1
      refine ⟨s.grow0 6, ?_, HasRow.new0 h.lk, h.has.grow0, ?_, Kept.grow0 h.nx⟩
      · rw [e2]
        have := append_nil (Γ := G) (f := 55) (s := s) (d := some d) (tk := .full) (y := encI x) (ys := []) t1 t1 t2 t2 t3 hd hc (Nat.ble_eq_true_of_le (by simp; omega))
        rw [t4] at this
        exact this
      · rcases h.rowV with q | ⟨id, q1, q2, q3, q4, q5⟩
        · exact .inl q
        · exact .inr ⟨id, q1, q2.grow0, q3, q4, q5⟩
    · subst e1
      refine ⟨s.grow1 id 6, ?_, HasRow.new1 h.lk, h.has.grow1 hr, ?_, Kept.grow1 h.nx e3⟩
      · have := append_tk (Γ := G) (f := 55) (s := s) (d := some d) (tk := .full) (id := id) (y := encI x) (es := c.l.map encI) (ys := []) (by rw [t4]; exact hr) t1 t1 t2 t2 t3 hd hc (Nat.ble_eq_true_of_le (by
          rw [List.length_map]; simp only [List.length_singleton]
          have : (c.l.length + 1) * ei.bytes ≤ 1000001 * 1000000 := Nat.mul_le_mul (by omega) q3
          omega))
        rw [t4] at this
        exact this
      · rcases h.rowV with q | ⟨id, q1, q2, q3, q4, q5⟩
        · exact .inl q
        · exact .inr ⟨id, q1, q2.grow1 hr, q3, q4, q5⟩
  obtain ⟨s1, m1, m2, m3, m4, m5⟩ := main
  obtain ⟨i25, u1, u2⟩ := sizeB_of (show sizeB G 25 1 = true by kernel_rfl)
  refine ⟨s1, s1.upd b [.sl (.tk s.next) (c.l.map encI ++ [encI x]), li c.next, V], m1, storeB_upd (off := 0) m3 u1 (by rw [u2]; rfl) rfl, ⟨?_, h.low, ?_, ?_⟩, m5.trans (Kept.upd h.low)⟩
  · show Has _ b [.sl (.tk s.next) ((c.l ++ [x]).map encI), li c.next, V]
    rw [List.map_append]
    exact m3.upd
  · exact .inr ⟨s.next, rfl, m2.upd (m3.ne_row m2).symm, h.nx⟩
  · rcases m4 with q | ⟨id, q1, q2, q3, q4, q5⟩
    · exact .inl q
    · exact .inr ⟨id, q1, q2.upd_ne q4, q3, q4, q5⟩
/-- Room for one more variable. -/
theorem PSt.room1 {N b : Nat} {c : Prg} {s : St} {tk : Tok} {V : AV} (h : PSt N b c s tk V) (hl : c.vars.length ≤ 1000) :
    ∃ s1 s2, builtinX G 55 Fr.empty s (some 27) .append [26, 26] [V, .sl .full [li (-1)]] = some (.rs 3 1 s.next 0 (c.vars.length + 1), some (Fr.empty, s1)) ∧
      storeB G s1 26 (.hp b 2) (.rs 3 1 s.next 0 (c.vars.length + 1)) = some s2 ∧ PSt N b ⟨c.l, c.next, c.vars ++ [-1]⟩ s2 tk (.rs 3 1 s.next 0 (c.vars.length + 1)) ∧ Kept N s s2 := by
  obtain ⟨ti, ei, t1, t2, t3, t4⟩ := sliceOfB_of (show sliceOfB G 26 3 1 = true by kernel_rfl)
  have hb : ∃ i, G.ty 3 = some i ∧ (Nat.blt 0 i.size && Nat.blt 0 i.bytes && Nat.ble i.bytes 1000 && i.zero.any fun z => Nat.beq z.cells.size i.size) = true := by
    have : (match G.ty 3 with | some i => (Nat.blt 0 i.size && Nat.blt 0 i.bytes && Nat.ble i.bytes 1000 && i.zero.any fun z => Nat.beq z.cells.size i.size) | none => false) = true := by kernel_rfl
    split at this
    · rename_i i hi; exact ⟨i, hi, this⟩
    · cases this
  obtain ⟨ei', t3', t5⟩ := hb
  rw [t3] at t3'; injection t3' with t3'; subst t3'
  simp only [Bool.and_eq_true] at t5
  obtain ⟨⟨⟨q1, q2⟩, q3⟩, q4⟩ := t5
  have q3 := Nat.le_of_ble_eq_true q3
  have hc : (Nat.blt 0 ei.size && Nat.blt 0 ei.bytes && sized ei.size [li (-1)] && ei.zero.any fun z => Nat.beq z.cells.size ei.size) = true := by
    rw [q1, q2, q4, t4]; rfl
  have hh : (some 27).any (G.hard 55) = true := by kernel_rfl
  have hn : s.next ≠ b := by have := h.has.next; omega
  have main : ∃ s1, builtinX G 55 Fr.empty s (some 27) .append [26, 26] [V, .sl .full [li (-1)]] = some (.rs 3 1 s.next 0 (c.vars.length + 1), some (Fr.empty, s1)) ∧ Has s1 s.next ((c.vars ++ [-1]).map li) ∧ Has s1 b [.sl tk (c.l.map encI), li c.next, V] ∧ RowL N tk c.l s1 ∧ Kept N s s1 := by
    rcases h.rowV with ⟨e1, e2⟩ | ⟨id, e1, hr, e3, e4, e5⟩
    · subst e1
      refine ⟨s.new ((c.vars ++ [-1]).map li), ?_, Has.new h.lk _, h.has.new_ne, ?_, Kept.new h.nx⟩
      · rw [e2]
        have hl' : Nat.ble ((([] : List AV).length + ([li (-1)] : List AV).length) * ei.bytes) 140737488355328 = true := Nat.ble_eq_true_of_le (by simp; omega)
        simp only [builtinX, t1, t2, t3, append, content, hc, cond_true, appendTo, hl', hh, grown, List.nil_append, withSt]
        rw [t4]; rfl
      · rcases h.rowL with q | ⟨id, q1, q2, q3⟩
        · exact .inl q
        · exact .inr ⟨id, q1, q2.new_ne, q3⟩
    · subst e1
      have hid := hr.next
      refine ⟨s.moveRow id ((c.vars ++ [-1]).map li), ?_, Has.moveRow h.lk, h.has.moveRow_ne (Ne.symm e4), ?_, Kept.moveRow h.nx e3⟩
      · have hpos : 0 < c.vars.length := List.length_pos_iff.2 e5
        have b1 : Nat.ble ((c.vars.length + 1) * ei.bytes) 140737488355328 = true := Nat.ble_eq_true_of_le (by
          have : (c.vars.length + 1) * ei.bytes ≤ 1001 * 1000 := Nat.mul_le_mul (by omega) q3
          omega)
        have b2 : Nat.beq (c.vars.length * 1) (c.vars.map li).length = true := by rw [List.length_map, Nat.mul_one]; exact Nat.beq_refl _
        have b3 : Nat.blt 0 c.vars.length = true := by rw [Nat.blt_eq]; exact hpos
        have b4 : Nat.ble s.lock id = true := Nat.ble_eq_true_of_le hr.lock
        have b5 : Nat.beq 1 ei.size = true := by rw [t4]; rfl
        simp only [builtinX, t1, t2, t3, append, content, hc, cond_true, appendTo, St.cellsAt, hr.get, b1, b2, b3, b4, b5, Nat.beq_refl, Bool.and_self, withSt, List.length_singleton, List.map_append]
        rfl
      · rcases h.rowL with q | ⟨id', q1, q2, q3⟩
        · exact .inl q
        · exact .inr ⟨id', q1, q2.moveRow_ne (hr.ne_row q2).symm, q3⟩
  obtain ⟨s1, m1, m2, m3, m4, m5⟩ := main
  obtain ⟨i26, u1, u2⟩ := sizeB_of (show sizeB G 26 1 = true by kernel_rfl)
  refine ⟨s1, s1.upd b [.sl tk (c.l.map encI), li c.next, .rs 3 1 s.next 0 (c.vars.length + 1)], m1, storeB_upd (off := 2) m3 u1 (by rw [u2]; rfl) rfl, ⟨m3.upd, h.low, ?_, ?_⟩, m5.trans (Kept.upd h.low)⟩
  · rcases m4 with q | ⟨id, q1, q2, q3⟩
    · exact .inl q
    · exact .inr ⟨id, q1, q2.upd (m3.ne_row q2).symm, q3⟩
  · exact .inr ⟨s.next, by rw [List.length_append, List.length_singleton], m2.upd_ne hn, h.nx, hn, by simp⟩
/-- A variable's register is written. -/
theorem PSt.setVar {N b id x : Nat} {c : Prg} {s : St} {tk : Tok} (h : PSt N b c s tk (.rs 3 1 id 0 c.vars.length)) (hx : x < c.vars.length) (r : Int) :
    ∃ s2, storeB G s 3 (.hp id x) (li r) = some s2 ∧ PSt N b ⟨c.l, c.next, c.vars.set x r⟩ s2 tk (.rs 3 1 id 0 c.vars.length) ∧ Kept N s s2 := by
  rcases h.rowV with ⟨e1, e2⟩ | ⟨id', e1, hr, e3, e4, e5⟩
  · cases e1
  · injection e1 with _ _ e1; subst e1
    refine ⟨_, store_row hr hx r, ⟨h.has.upd_ne e4.symm, h.low, ?_, .inr ⟨id, by rw [List.length_set], hr.upd, e3, e4, by simpa using e5⟩⟩, Kept.upd e3⟩
    rcases h.rowL with q | ⟨id', q1, q2, q3⟩
    · exact .inl q
    · exact .inr ⟨id', q1, q2.upd (hr.ne_row q2).symm, q3⟩
end
end Go.Vm
