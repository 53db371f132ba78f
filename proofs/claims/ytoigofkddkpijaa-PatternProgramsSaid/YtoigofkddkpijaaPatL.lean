/-
  The Pattern functions: what they do, proved; no conditions but those that the theorems name.
-/
import Derived.Test.YtoigofkddkpijaaPatK
namespace Go.Vm
noncomputable section
/-! ### Compile -/
/-- What a call of Compile brings: the instructions, the registers of the variables (as a row, or none). -/
def RegsR (R : AV) (vs : List Int) (s : St) : Prop := (R = .sl .ro [] ∧ vs = []) ∨ ∃ id, R = .rs 3 1 id 0 vs.length ∧ Has s id (vs.map li) ∧ vs ≠ []
def CompPost (p : P) (s : St) (x : AV) (s' : St) : Prop := Onto s s' ∧ ((pvalid p 6 6 = false ∧ x = .tup [.sl .ro [], .sl .ro []]) ∨ (pvalid p 6 6 = true ∧ ∃ R, x = .tup [.sl .ro ((pc p 0 ⟨[], 1, []⟩).l.map encI), R] ∧ RegsR R (pc p 0 ⟨[], 1, []⟩).vars s'))
theorem compile14 (p : P) (hp : Narrow p) (hn : nsz p ≤ 1000000) (s : St) (hs : s.lock ≤ s.next) : ∃ x s', Runs G 14 [enc p] s x s' ∧ CompPost p s x s' := by
  obtain ⟨x, u1, R15, rfl, g1⟩ := valid15 p hp (n := 6) (by decide) 6 s hs
  have hu : u1.lock ≤ u1.next := by rw [g1.lock]; exact Nat.le_trans hs g1.next
  generalize hq : pvalid p 6 6 = q at R15
  cases q with
  | false =>
    obtain ⟨v, o, m, w, ks⟩ := p
    refine runs_of_funP sp14n_ok (f := 14) (by kernel_rfl) (args := [enc (.mk v o m w ks)]) (s := s) (Q := CompPost (.mk v o m w ks) s) (by
      show funP G sp14n 14 [.agg [li v, li o, li m, li w, .sl .ro (encs ks)]] s _ _
      rw [tree14n v o m w 0 .nil [] (encs ks) 0 0 false s u1 u1]
      exact ⟨R15, fun _ => ⟨g1, .inl ⟨hq, rfl⟩⟩, fun h => by cases h⟩)
  | true =>
    have hv : Vle 1000 p := by
      have h := hq
      unfold pvalid at h
      simp only [Bool.and_eq_true] at h
      exact (pv_vle 6 p 0 _ h.2).mono (by simp)
    have h0 : PSt u1.next u1.next ⟨[], 1, []⟩ (u1.new [.sl .nil [], li 1, .sl .nil []]) .nil (.sl .nil []) :=
      ⟨Has.new hu _, Nat.le_refl _, .inl ⟨rfl, rfl⟩, .inl ⟨rfl, rfl⟩⟩
    obtain ⟨x, u2, R55, rfl, k1, tk, V, h2⟩ := compile_run p hp hv 0 ⟨[], 1, []⟩ _ _ _ h0 (by simp) (by show 0 + nsz p ≤ 1000000; omega)
    have g2 : Onto s u2 := g1.trans ⟨k1.lock, Nat.le_trans (Nat.le_succ _) k1.next, fun id h => (k1.get id h).trans ((Onto.new u1 _).get id h)⟩
    have hld := loadAt_hp (Γ := G) (t := 25) (off := 0) h2.has (v := .sl tk ((pc p 0 ⟨[], 1, []⟩).l.map encI)) (by kernel_rfl)
    have hld2 := loadAt_hp (Γ := G) (t := 26) (off := 2) h2.has (v := V) (by kernel_rfl)
    have hrow := h2.rowV
    generalize hc : pc p 0 ⟨[], 1, []⟩ = c at hld hld2 hrow
    obtain ⟨v, o, m, w, ks⟩ := p
    rcases hrow with ⟨e1, e2⟩ | ⟨id, e1, e2, _, _, e5⟩
    · subst e1
      refine runs_of_funP sp14n_ok (f := 14) (by kernel_rfl) (args := [enc (.mk v o m w ks)]) (s := s) (Q := CompPost (.mk v o m w ks) s) (by
        show funP G sp14n 14 [.agg [li v, li o, li m, li w, .sl .ro (encs ks)]] s _ _
        rw [tree14n v o m w 0 tk (c.l.map encI) (encs ks) 0 0 true s u1 u2]
        exact ⟨R15, fun h => (by cases h), fun _ => ⟨R55, hld, hld2, g2, .inr ⟨hq, _, by rw [hc], .inl ⟨rfl, by rw [hc]; exact e2⟩⟩⟩⟩)
    · subst e1
      refine runs_of_funP sp14r_ok (f := 14) (by kernel_rfl) (args := [enc (.mk v o m w ks)]) (s := s) (Q := CompPost (.mk v o m w ks) s) (by
        show funP G sp14r 14 [.agg [li v, li o, li m, li w, .sl .ro (encs ks)]] s _ _
        rw [tree14r v o m w 0 tk (c.l.map encI) (encs ks) id c.vars.length true s u1 u2]
        exact ⟨R15, fun h => (by cases h), fun _ => ⟨R55, hld, hld2, g2, .inr ⟨hq, _, by rw [hc], .inr ⟨id, by rw [hc], by rw [hc]; exact e2, by rw [hc]; exact e5⟩⟩⟩⟩)

/-! ### The law of programs -/
def lb (b : Bool) : AV := .lit (.bool b)
def arrOfB (Γ : Ctx) (t n e sz : Nat) : Bool := match Γ.ty t with
  | some ti => (match ti.und with | .array n' e' => Nat.beq n n' && Nat.beq e e' | _ => false) && sizeB Γ e sz
  | none => false
theorem indexAddr_arr {Γ : Ctx} {t n e sz k : Nat} {i : Int} (h : arrOfB Γ t n e sz = true) (h0 : 0 ≤ i) (h1 : i.toNat < n) : indexAddr Γ t (.lp k 0) (li i) = some (.lp k (i.toNat * sz)) := by
  unfold arrOfB at h
  split at h
  · rename_i ti hti
    simp only [Bool.and_eq_true] at h
    obtain ⟨h2, h3⟩ := h
    obtain ⟨ei, h4, h5⟩ := sizeB_of h3
    split at h2
    · rename_i n' e' he
      simp only [Bool.and_eq_true] at h2
      have e1 := Nat.eq_of_beq_eq_true h2.1
      have e2 := Nat.eq_of_beq_eq_true h2.2
      subst e1; subst e2
      have hb : Nat.blt i.toNat n = true := by rw [Nat.blt_eq]; exact h1
      simp only [indexAddr, hti, li, asNat, if_pos h0, he, h4, hb, cond_true, ptrAdd, h5, Nat.zero_add]
    · cases h2
  · cases h
theorem load_bit {O : List Bool} {x : Nat} (hx : x < O.length) : loadAt G 4 (some (O.map lb, x)) = some (lb (O.getD x false)) := by
  obtain ⟨i, h1, h2, _⟩ := scalB_of (show scalB G 4 = true by kernel_rfl)
  have : (O.map lb)[x]? = some (lb (O.getD x false)) := by
    rw [List.getElem?_map, List.getElem?_eq_getElem hx, List.getD_eq_getElem?_getD, List.getElem?_eq_getElem hx]; rfl
  simp only [loadAt, h1, partAt, h2, cond_false, this]
theorem opx_storeL {Γ : Ctx} {f : FuncId} {g : Fr} {s : St} {dst : Option Tmp} {t : TypeId} {p x : Operand} {k off : Nat} {cs : List AV} {i : TI} {b : Bool} (hp : g.ev p = .lp k off) (hx : g.ev x = lb b) (hl : g.lo.get k = some (.own cs)) (hi : Γ.ty t = some i) (hs : i.size = 1) (ho : off < cs.length) :
    opx Γ noCall f g s dst (.store t p x) = some (.any, some ({ g with lo := g.lo.set k (.own (cs.set off (lb b))) }, s)) := by
  have h1 : escape g s (lb b) = some (lb b, none) := rfl
  have h2 : ((lb b).isPart && Nat.beq (lb b).cells.length i.size) = true := by rw [hs]; rfl
  have h3 : Nat.ble (off + (lb b).cells.length) cs.length = true := Nat.ble_eq_true_of_le (by show off + 1 ≤ _; omega)
  have h4 : setAll cs off (lb b).cells = cs.set off (lb b) := rfl
  simp only [opx, hi, hx, h1, thenOut, h2, cond_true, hp, storeAt, hl, h3, h4]
theorem indexAddr_ins {es : List Ins} {i : Nat} {x : Ins} (h : es[i]? = some x) : indexAddr G 25 (.sl .ro (es.map encI)) (.lit (.int .i64 i)) = some (.vp [.lit (.int .i64 x.k), .lit (.int .i64 x.a), .lit (.int .i64 x.b), .lit (.int .i64 x.o), .lit (.int .i64 x.m), .lit (.int .i64 x.w)] 0) :=
  indexAddr_sl (v := encI x) (by kernel_rfl) (Int.natCast_nonneg i) (by rw [Int.toNat_natCast, List.getElem?_map, h]; rfl)

abbrev ts4 : List Nat := [3, 6, 7, 33, 34, 35]
abbrev ls4 : List Nat := [3, 7]
theorem live4 : (firstRegion (loopAt G 4 8)).bind (G.live 4) = some (ts4, ls4) := by kernel_rfl
theorem keep4a (given len i v o m w : Int) (ks es z z1 : List AV) (xa xb : Nat) (kn a bb op mm iv : Int) (qa qb : Bool) (s s0 : St) :
    (E4x7 given len i v o m w ks es z z1 xa xb kn a bb op mm iv qa qb s).keep ts4 ls4 = H4 given len (IntKind.wrap .i64 (i + 1)) v o m w ks es z [] 0 0 0 0 0 0 0 0 true true s0 := by kernel_rfl
theorem keep4b (given len i v o m w : Int) (ks es z z1 : List AV) (xa xb : Nat) (kn a bb op mm iv : Int) (qa qb : Bool) (s s0 : St) :
    (E4x10 given len i v o m w ks es z z1 xa xb kn a bb op mm iv qa qb s).keep ts4 ls4 = H4 (IntKind.wrap .i64 (given + F19r0 op)) len (IntKind.wrap .i64 (i + 1)) v o m w ks es z1 [] 0 0 0 0 0 0 0 0 true true s0 := by kernel_rfl

set_option maxRecDepth 100000 in
theorem law4_loop {v o m w : Int} {ks : List AV} {es : List Ins} (hes : es.length ≤ 1000000) (s : St) (gN : Int) (ON : List Bool) : ∀ (j i : Nat) (g : Int) (O : List Bool), es.length = i + j → O.length = 64 → chk (es.drop i) g O = some (gN, ON) →
    ∀ f : Fr, f.keep ts4 ls4 = H4 g es.length i v o m w ks (es.map encI) (O.map lb) [] 0 0 0 0 0 0 0 0 true true s →
      LoopN G 4 (loopAt G 4 8) ts4 ls4 f s (.exit 0) (E4x11 gN es.length es.length v o m w ks (es.map encI) (ON.map lb) [] 0 0 0 0 0 0 0 0 true true s) s
  | 0, i, g, O, hi, hO, hc, f, hf => by
    have hi : i = es.length := by omega
    subst hi
    rw [List.drop_length] at hc
    injection hc with hc; injection hc with e1 e2; subst e1; subst e2
    obtain ⟨x, g', s', h', E, K1, K2, K3⟩ := execP_sound sp4_ok (f := 4) (loopAt G 4 8) (H4 g es.length es.length v o m w ks (es.map encI) (O.map lb) [] 0 0 0 0 0 0 0 0 true true s) s _ (fun x g' s' _ => x = .exit 0 ∧ g' = E4x11 g es.length es.length v o m w ks (es.map encI) (O.map lb) [] 0 0 0 0 0 0 0 0 true true s ∧ s' = s) (by
      rw [round4]
      exact ⟨fun h => by have := of_decide_eq_true h; omega, fun _ => ⟨rfl, rfl, rfl⟩⟩)
    subst K1; subst K2; subst K3
    rw [← hf] at E
    exact LoopN.last (by simp) E
  | j + 1, i, g, O, hi, hO, hc, f, hf => by
    have hlt : i < es.length := by omega
    have hget : es[i]? = some es[i] := List.getElem?_eq_getElem hlt
    rw [List.drop_eq_getElem_cons hlt, chk_cons] at hc
    generalize hy : es[i] = y at hc hget
    have hx := indexAddr_ins hget
    by_cases hb : y.a < 0 ∨ g ≤ y.a ∨ 64 ≤ y.a ∨ O.getD y.a.toNat false = true
    · rw [if_pos hb] at hc; cases hc
    · rw [if_neg hb] at hc
      have a0 : ¬ y.a < 0 := fun e => hb (.inl e)
      have a1 : ¬ g ≤ y.a := fun e => hb (.inr (.inl e))
      have a2 : ¬ 64 ≤ y.a := fun e => hb (.inr (.inr (.inl e)))
      have a3 : O.getD y.a.toNat false = false := by
        cases h : O.getD y.a.toNat false with
        | false => rfl
        | true => exact absurd (.inr (.inr (.inr h))) hb
      have ia : indexAddr G 35 (.lp 7 0) (.lit (.int .i64 y.a)) = some (.lp 7 y.a.toNat) := by
        have := indexAddr_arr (Γ := G) (t := 35) (n := 64) (e := 4) (sz := 1) (k := 7) (i := y.a) (by kernel_rfl) (by omega) (by omega)
        rw [Nat.mul_one] at this; exact this
      have la := load_bit (O := O) (x := y.a.toNat) (by omega)
      rw [a3] at la
      by_cases hk : y.k = 2
      · rw [if_pos hk] at hc
        by_cases hb2 : y.b < 0 ∨ g ≤ y.b ∨ 64 ≤ y.b ∨ O.getD y.b.toNat false = true
        · rw [if_pos hb2] at hc; cases hc
        · rw [if_neg hb2] at hc
          have b0 : ¬ y.b < 0 := fun e => hb2 (.inl e)
          have b1 : ¬ g ≤ y.b := fun e => hb2 (.inr (.inl e))
          have b2 : ¬ 64 ≤ y.b := fun e => hb2 (.inr (.inr (.inl e)))
          have b3 : O.getD y.b.toNat false = false := by
            cases h : O.getD y.b.toNat false with
            | false => rfl
            | true => exact absurd (.inr (.inr (.inr h))) hb2
          have ib : indexAddr G 35 (.lp 7 0) (.lit (.int .i64 y.b)) = some (.lp 7 y.b.toNat) := by
            have := indexAddr_arr (Γ := G) (t := 35) (n := 64) (e := 4) (sz := 1) (k := 7) (i := y.b) (by kernel_rfl) (by omega) (by omega)
            rw [Nat.mul_one] at this; exact this
          have lbb := load_bit (O := O) (x := y.b.toNat) (by omega)
          rw [b3] at lbb
          obtain ⟨x, g', s', h', E, K1, K2, K3⟩ := execP_sound sp4_ok (f := 4) (loopAt G 4 8) (H4 g es.length i v o m w ks (es.map encI) (O.map lb) [] y.a.toNat y.b.toNat y.k y.a y.b y.o y.m y.w false false s) s _ (fun x g' s' _ => x = .normal ∧ g' = E4x7 g es.length i v o m w ks (es.map encI) (O.map lb) [] y.a.toNat y.b.toNat y.k y.a y.b y.o y.m y.w false false s ∧ s' = s) (by
            rw [round4]
            exact ⟨fun _ => ⟨hx, fun q => absurd (of_decide_eq_true q) a0, fun _ => ⟨fun q => absurd (of_decide_eq_true q) a1, fun _ => ⟨fun q => absurd (of_decide_eq_true q) a2, fun _ => ⟨ia, la, fun q => (by cases q), fun _ => ⟨fun _ => ⟨fun q => absurd (of_decide_eq_true q) b0, fun _ => ⟨fun q => absurd (of_decide_eq_true q) b1, fun _ => ⟨ib, lbb, fun q => (by cases q), fun _ => ⟨rfl, rfl, rfl⟩⟩⟩⟩, fun q => absurd hk (by simpa using q)⟩⟩⟩⟩⟩, fun q => by have := of_decide_eq_false q; omega⟩)
          subst K1; subst K2; subst K3
          have hf' : f.keep ts4 ls4 = H4 g es.length i v o m w ks (es.map encI) (O.map lb) [] y.a.toNat y.b.toNat y.k y.a y.b y.o y.m y.w false false s' := hf
          rw [← hf'] at E
          refine LoopN.more E (law4_loop hes s' gN ON j (i + 1) g O (by omega) hO hc _ ?_)
          rw [keep4a _ _ _ _ _ _ _ _ _ _ _ _ _ _ _ _ _ _ _ _ _ _ s', wrap_i64_id (n := (i : Int) + 1) (by omega) (by omega)]
          rfl
      · rw [if_neg hk] at hc
        by_cases hb2 : y.k ≠ 1 ∨ y.b ≠ g
        · rw [if_pos hb2] at hc; cases hc
        · rw [if_neg hb2] at hc
          have k1 : y.k = 1 := Classical.byContradiction fun e => hb2 (.inl e)
          have k2 : y.b = g := Classical.byContradiction fun e => hb2 (.inr e)
          have e1 : (O.map lb).set y.a.toNat (lb true) = (O.set y.a.toNat true).map lb := by rw [List.map_set]
          obtain ⟨i4, t4, _, t5⟩ := scalB_of (show scalB G 4 = true by kernel_rfl)
          obtain ⟨x, g', s', h', E, K1, K2, K3⟩ := execP_sound sp4_ok (f := 4) (loopAt G 4 8) (H4 g es.length i v o m w ks (es.map encI) (O.map lb) ((O.set y.a.toNat true).map lb) y.a.toNat 0 y.k y.a y.b y.o y.m y.w false false s) s _ (fun x g' s' _ => x = .normal ∧ g' = E4x10 g es.length i v o m w ks (es.map encI) (O.map lb) ((O.set y.a.toNat true).map lb) y.a.toNat 0 y.k y.a y.b y.o y.m y.w false false s ∧ s' = s) (by
            rw [round4]
            refine ⟨fun _ => ⟨hx, fun q => absurd (of_decide_eq_true q) a0, fun _ => ⟨fun q => absurd (of_decide_eq_true q) a1, fun _ => ⟨fun q => absurd (of_decide_eq_true q) a2, fun _ => ⟨ia, la, fun q => (by cases q), fun _ => ⟨fun q => absurd (by simpa using q) hk, fun _ => ⟨fun q => absurd k1 (by simpa using q), fun _ => ⟨fun q => absurd k2 (by simpa using q), fun _ => ⟨ia, ?_, rfl, rfl, rfl⟩⟩⟩⟩⟩⟩⟩⟩, fun q => by have := of_decide_eq_false q; omega⟩
            rw [← e1]
            exact opx_storeL (k := 7) (off := y.a.toNat) (cs := O.map lb) (b := true) rfl rfl rfl t4 t5 (by rw [List.length_map]; omega))
          subst K1; subst K2; subst K3
          have hf' : f.keep ts4 ls4 = H4 g es.length i v o m w ks (es.map encI) (O.map lb) ((O.set y.a.toNat true).map lb) y.a.toNat 0 y.k y.a y.b y.o y.m y.w false false s' := hf
          rw [← hf'] at E
          refine LoopN.more E (law4_loop hes s' gN ON j (i + 1) (IntKind.wrap .i64 (g + F19r0 y.o)) (O.set y.a.toNat true) (by omega) (by rw [List.length_set]; exact hO) hc _ ?_)
          rw [keep4b _ _ _ _ _ _ _ _ _ _ _ _ _ _ _ _ _ _ _ _ _ _ s', wrap_i64_id (n := (i : Int) + 1) (by omega) (by omega)]
          rfl

theorem law4 (zs : List Int) (h1 : Words zs) (s : St) (hs : s.lock ≤ s.next) : ∃ s', Runs G 4 [.sl .ro (zs.map li)] s (.lit (.bool true)) s' := by
  obtain ⟨x1, s1, R1, p, rfl, q1, l1, n1, _⟩ := pat_run zs h1 s hs
  have hp := q1.narrow
  have hn : nsz p ≤ 1000000 := by have := Small.nsz 4 p q1; omega
  obtain ⟨x2, s2, R2, g2, hx2⟩ := compile14 p hp hn s1 (by omega)
  obtain ⟨x3, s3, R3, rfl, g3⟩ := valid18 p hp 6 6 s2 (by rw [g2.lock]; exact Nat.le_trans (by omega) g2.next)
  have R4 := size_run s3 p hp
  have R5 := law3 s3
  have hl : (pc p 0 ⟨[], 1, []⟩).l.length ≤ 1000000 := by
    have := pc_len p 0 ⟨[], 1, []⟩
    have := Small.nsz 4 p q1
    simp only [List.length_nil] at *
    omega
  rcases hx2 with ⟨hv, rfl⟩ | ⟨hv, R, rfl, hR⟩
  · rw [hv] at R3
    obtain ⟨v, o, m, w, ks⟩ := p
    obtain ⟨x, s', RR, h⟩ := runs_of_funP sp4n_ok (f := 4) (by kernel_rfl) (args := [.sl .ro (zs.map li)]) (s := s) (Q := fun v _ => v = .lit (.bool true)) (by
      rw [tree4n v o m w 0 0 [] [] (encs ks) (zs.map li) [] [] 0 0 false s s1 s2 s3]
      exact ⟨R1, R2, R3, fun _ => ⟨fun _ => ⟨fun _ => ⟨R5, rfl⟩, fun q => (by cases q)⟩, fun q => (by cases q)⟩, fun q => (by cases q)⟩)
    subst h
    exact ⟨s', RR⟩
  · rw [hv] at R3
    obtain ⟨ON, hc⟩ := chk_valid hv hn
    generalize pc p 0 ⟨[], 1, []⟩ = c at R2 hR hl hc
    obtain ⟨v, o, m, w, ks⟩ := p
    have L := law4_loop (v := v) (o := o) (m := m) (w := w) (ks := encs ks) hl s3 _ ON c.l.length 0 1 (List.replicate 64 false) (by omega) (by simp) hc
      { tm := (H4 1 c.l.length ((0 : Nat) : Int) v o m w (encs ks) (c.l.map encI) ((List.replicate 64 false).map lb) [] 0 0 0 0 0 0 0 0 true true s3).tm, lo := (H4 1 c.l.length 0 v o m w (encs ks) (c.l.map encI) ((List.replicate 64 false).map lb) [] 0 0 0 0 0 0 0 0 true true s3).lo, nt := 106 } (by kernel_rfl)
    have hlen : (c.l.length : Int) = ((c.l.map encI).length : Int) := by rw [List.length_map]
    rw [hlen] at L
    rcases hR with ⟨rfl, e2⟩ | ⟨id, rfl, e2, _⟩
    · obtain ⟨x, s', RR, h⟩ := runs_of_funP sp4n_ok (f := 4) (by kernel_rfl) (args := [.sl .ro (zs.map li)]) (s := s) (Q := fun v _ => v = .lit (.bool true)) (by
        rw [tree4n v o m w (psize (.mk v o m w ks)) (psize (.mk v o m w ks)) [] (ON.map lb) (encs ks) (zs.map li) (c.l.map encI) [] 0 0 true s s1 s2 s3]
        refine ⟨R1, R2, R3, fun q => (by cases q), fun _ => ⟨ExecN.loop live4 (LoopN.of_keep (by kernel_rfl) L), R4, fun _ => ⟨R5, rfl⟩, fun q => ?_⟩⟩
        simp at q)
      subst h
      exact ⟨s', RR⟩
    · obtain ⟨x, s', RR, h⟩ := runs_of_funP sp4r_ok (f := 4) (by kernel_rfl) (args := [.sl .ro (zs.map li)]) (s := s) (Q := fun v _ => v = .lit (.bool true)) (by
        rw [tree4r v o m w (psize (.mk v o m w ks)) (psize (.mk v o m w ks)) [] (ON.map lb) (encs ks) (zs.map li) (c.l.map encI) [] id c.vars.length true s s1 s2 s3]
        refine ⟨R1, R2, R3, fun q => (by cases q), fun _ => ⟨ExecN.loop live4 (LoopN.of_keep (by kernel_rfl) L), R4, fun _ => ⟨R5, rfl⟩, fun q => ?_⟩⟩
        simp at q)
      subst h
      exact ⟨s', RR⟩
end
end Go.Vm
