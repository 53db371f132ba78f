/-
  The Pattern functions: what they do, proved; no conditions but those that the theorems name.
-/
import Derived.Test.YtoigofkddkpijaaPatC
namespace Go.Vm
noncomputable section
/-! ### pat -/
theorem sliceB_to {Γ : Ctx} {s : St} {t e : TypeId} {n : Nat} {es : List AV} {k : IntKind} {m : Nat} (h : sliceOfB Γ t e n = true) (hm : m ≤ es.length) :
    sliceB Γ s t (.sl .ro es) none (some (.lit (.int k m))) = some (.sl .ro (es.take m)) := by
  obtain ⟨ti, ei, t1, t2, t3, t4⟩ := sliceOfB_of h
  have h0 : (0 : Int) ≤ (m : Int) := Int.natCast_nonneg m
  have b1 : Nat.ble m es.length = true := Nat.ble_eq_true_of_le hm
  have b2 : Nat.ble 0 m = true := Nat.ble_eq_true_of_le (Nat.zero_le _)
  have hc : (cond (Nat.beq m es.length) Tok.ro Tok.ro) = Tok.ro := by cases Nat.beq m es.length <;> rfl
  simp only [sliceB, slice, t1, natOpt, asNat, if_pos h0, Option.map_some, t2, t3, t4, Int.toNat_natCast, Option.getD_none, Option.getD_some, b1, b2, Option.isNone_none, Bool.true_or, Bool.and_self, cond_true, Option.elim, hc]
set_option maxRecDepth 10000 in
theorem append_fullW {f d : Nat} {u : St} {y : Int} {ys : List Int} (hl : ys.length ≤ 1000000) (hh : (some d).any (G.hard f) = false) :
    builtinX G f Fr.empty u (some d) .append [26, 26] [.sl .full [], .sl .ro (li y :: ys.map li)] = some (.sl (.tk u.next) (li y :: ys.map li), some (Fr.empty, u.grow0 1)) := by
  obtain ⟨ti, ei, t1, t2, t3, t4⟩ := sliceOfB_of (show sliceOfB G 26 3 1 = true by kernel_rfl)
  have hb : ∃ i, G.ty 3 = some i ∧ (Nat.blt 0 i.size && Nat.blt 0 i.bytes && Nat.ble i.bytes 1000 && i.zero.any fun z => Nat.beq z.cells.size i.size) = true := by
    have : (match G.ty 3 with | some i => (Nat.blt 0 i.size && Nat.blt 0 i.bytes && Nat.ble i.bytes 1000 && i.zero.any fun z => Nat.beq z.cells.size i.size) | none => false) = true := by kernel_rfl
    split at this
    · rename_i i hi; exact ⟨i, hi, this⟩
    · cases this
  obtain ⟨ei', t3', t5⟩ := hb
  rw [t3] at t3'; injection t3' with t3'; subst t3'
  simp only [Bool.and_eq_true] at t5
  obtain ⟨⟨⟨q1, q2⟩, q3⟩, q4⟩ := t5
  have q3 := Nat.le_of_ble_eq_true q3
  have hs : sized 1 (li y :: ys.map li) = true := by
    unfold sized
    rw [List.all_eq_true]
    intro x hx
    rcases List.mem_cons.1 hx with rfl | hx
    · rfl
    · obtain ⟨z, _, rfl⟩ := List.mem_map.1 hx; rfl
  have hc : (Nat.blt 0 ei.size && Nat.blt 0 ei.bytes && sized ei.size (li y :: ys.map li) && ei.zero.any fun z => Nat.beq z.cells.size ei.size) = true := by
    rw [q1, q2, q4, t4, hs]; rfl
  have hlen : Nat.ble ((([] : List AV).length + (li y :: ys.map li).length) * ei.bytes) 140737488355328 = true := Nat.ble_eq_true_of_le (by
    simp only [List.length_nil, List.length_cons, List.length_map, Nat.zero_add]
    have : (ys.length + 1) * ei.bytes ≤ 1000001 * 1000 := Nat.mul_le_mul (by omega) q3
    omega)
  have h0 : sized ei.size [] = true := rfl
  simp only [builtinX, t1, t2, append, t3, content, hc, cond_true, appendTo, hlen, h0, hh, grown, cond_false, List.nil_append, withSt]
  rw [t4]; rfl

/-- What pat brings. -/
def PatPost (s : St) (v : AV) (s' : St) : Prop := ∃ p, v = enc p ∧ Small 4 p ∧ s'.lock = s.lock ∧ s.next ≤ s'.next ∧ ∀ id, id < s.next → s'.objs.get id = s.objs.get id
theorem pat_run (zs : List Int) (hw : Words zs) (s : St) (hs : s.lock ≤ s.next) : ∃ v s', Runs G 17 [.sl .ro (zs.map li)] s v s' ∧ PatPost s v s' := by
  have vars (n : Int) : 1 ≤ IntKind.wrap .i64 (1 + F22r0 n 4) ∧ IntKind.wrap .i64 (1 + F22r0 n 4) ≤ 4 := by
    have := F22_eq' (n := n) (m := 4) (by decide) (by decide)
    rw [wrap_i64_id (by omega) (by omega)]; omega
  cases zs with
  | nil =>
    have hr : Rd (St.mk (St.next s + 1) (St.lock s) (Tr.set (St.objs s) (St.next s) (Obj.cells [AV.sl Tok.full [], AV.lit (Value.int IntKind.i64 0)]))) s.next [] 0 :=
      ⟨.full, by show (s.objs.set _ _).get _ = _; rw [Tr.get_set, if_pos rfl]; rfl, hs, Nat.lt_succ_self _⟩
    obtain ⟨n, zs1, s1, R1, _, hw1, hr1, k1, _⟩ := next_run hr hw
    have hP := fun st => pattern_run (st := st) (vars (IntKind.wrap .i64 (n.tdiv 2))) 3 0 (by decide) (by decide) s1 zs1 (IntKind.wrap .i64 (1 + F22r0 n 2)) hw1 hr1
    have fin : ∀ v o m w ks s2 p zs2, AV.agg [li v, li o, li m, li w, .sl .ro ks] = enc p → Small 4 p → Words zs2 → Rd s2 s.next zs2 0 → Keep s1.next s.next s1 s2 → PatPost s (.agg [li v, li o, li m, li w, .sl .ro ks]) s2 := fun v o m w ks s2 p zs2 e h1 _ h2 h3 => by
      refine ⟨p, e, h1, h3.lock.trans k1.lock, Nat.le_trans (Nat.le_trans (Nat.le_succ _) k1.next) h3.next, fun id hid => ?_⟩
      rw [h3.get id (Nat.lt_of_lt_of_le (Nat.lt_succ_of_lt hid) k1.next) (by omega), k1.get id (Nat.lt_succ_of_lt hid) (by omega)]
      show (s.objs.set _ _).get id = _
      rw [Tr.get_set, if_neg (by omega)]
    cases hb : (F22r0 n 2 == 1) with
    | true =>
      obtain ⟨v, s2, R2, p, zs2, rfl, p1, p2, p3, p4⟩ := hP true
      obtain ⟨v1, o1, m1, w1, ks1⟩ := p
      refine runs_of_funP sp17e_ok (f := 17) (by kernel_rfl) (Q := PatPost s) (by
        show funP G sp17e 17 [.sl .ro []] s _ _
        rw [tree17e n v1 o1 m1 w1 (encs ks1) s s1 s2]
        exact ⟨R1, fun _ => ⟨R2, fin _ _ _ _ _ _ _ _ rfl p1 p2 p3 p4⟩, fun h => by rw [hb] at h; cases h⟩)
    | false =>
      obtain ⟨v, s2, R2, p, zs2, rfl, p1, p2, p3, p4⟩ := hP (F22r0 (IntKind.wrap IntKind.i64 (Int.tdiv n 8)) 2 == 1)
      obtain ⟨v1, o1, m1, w1, ks1⟩ := p
      refine runs_of_funP sp17e_ok (f := 17) (by kernel_rfl) (Q := PatPost s) (by
        show funP G sp17e 17 [.sl .ro []] s _ _
        rw [tree17e n v1 o1 m1 w1 (encs ks1) s s1 s2]
        exact ⟨R1, fun h => (by rw [hb] at h; cases h), fun _ => ⟨R2, fin _ _ _ _ _ _ _ _ rfl p1 p2 p3 p4⟩⟩)
  | cons z r =>
    have hty : sliceB G s 26 (.sl .ro ((z :: r).map li)) none (some (.lit (.int .i64 (if 30 < Int.ofNat ((z :: r).map li).length then 30 else Int.ofNat ((z :: r).map li).length)))) = some (.sl .ro (li z :: (r.take 29).map li)) := by
      by_cases h : 30 < ((z :: r).map li).length
      · rw [if_pos (by show (30 : Int) < ((((z :: r).map li).length : Nat) : Int); omega)]
        have := sliceB_to (Γ := G) (s := s) (t := 26) (e := 3) (n := 1) (es := (z :: r).map li) (k := .i64) (m := 30) (by kernel_rfl) (by omega)
        simp only [List.map_cons, List.take_succ_cons, List.map_take] at this ⊢
        exact this
      · rw [if_neg (by show ¬ (30 : Int) < ((((z :: r).map li).length : Nat) : Int); omega)]
        have := sliceB_to (Γ := G) (s := s) (t := 26) (e := 3) (n := 1) (es := (z :: r).map li) (k := .i64) (m := ((z :: r).map li).length) (by kernel_rfl) (Nat.le_refl _)
        rw [List.take_length] at this
        have hr : r.take 29 = r := List.take_of_length_le (by simp at h; omega)
        rw [hr]; exact this
    have happ := append_fullW (f := 17) (d := 11) (u := s) (y := z) (ys := r.take 29) (by simp; omega) (by kernel_rfl)
    have hr : Rd (St.mk ((s.grow0 1).next + 1) (s.grow0 1).lock (Tr.set (s.grow0 1).objs (s.grow0 1).next (Obj.cells [AV.sl (.tk s.next) (li z :: (r.take 29).map li), AV.lit (Value.int IntKind.i64 0)]))) (s.grow0 1).next (z :: r.take 29) 0 :=
      ⟨.tk s.next, by show ((s.grow0 1).objs.set _ _).get _ = _; rw [Tr.get_set, if_pos rfl]; rfl, Nat.le_succ_of_le hs, Nat.lt_succ_self _⟩
    have hw0 : Words (z :: r.take 29) := fun x hx => hw x (by rcases List.mem_cons.1 hx with h | h; exact h ▸ List.mem_cons_self; exact List.mem_cons_of_mem _ (List.mem_of_mem_take h))
    obtain ⟨n, zs1, s1, R1, _, hw1, hr1, k1, _⟩ := next_run hr hw0
    have hP := fun st => pattern_run (st := st) (vars (IntKind.wrap .i64 (n.tdiv 2))) 3 0 (by decide) (by decide) s1 zs1 (IntKind.wrap .i64 (1 + F22r0 n 2)) hw1 hr1
    have fin : ∀ v o m w ks s2 p zs2, AV.agg [li v, li o, li m, li w, .sl .ro ks] = enc p → Small 4 p → Words zs2 → Rd s2 (s.grow0 1).next zs2 0 → Keep s1.next (s.grow0 1).next s1 s2 → PatPost s (.agg [li v, li o, li m, li w, .sl .ro ks]) s2 := fun v o m w ks s2 p zs2 e h1 _ h2 h3 => by
      have hn : (s.grow0 1).next = s.next + 1 := rfl
      have k1n := k1.next
      refine ⟨p, e, h1, h3.lock.trans k1.lock, Nat.le_trans (Nat.le_trans (by show s.next ≤ s.next + 1 + 1; omega) k1.next) h3.next, fun id hid => ?_⟩
      rw [h3.get id (Nat.lt_of_lt_of_le (by show id < s.next + 1 + 1; omega) k1.next) (by omega), k1.get id (by show id < s.next + 1 + 1; omega) (by omega)]
      show ((s.grow0 1).objs.set _ _).get id = _
      rw [Tr.get_set, if_neg (by omega)]
      show (s.objs.set _ _).get id = _
      rw [Tr.get_set, if_neg (by omega)]
    cases hb : (F22r0 n 2 == 1) with
    | true =>
      obtain ⟨v, s2, R2, p, zs2, rfl, p1, p2, p3, p4⟩ := hP true
      obtain ⟨v1, o1, m1, w1, ks1⟩ := p
      refine runs_of_funP sp17c_ok (f := 17) (by kernel_rfl) (Q := PatPost s) (by
        rw [tree17c (z :: r) z ((r.take 29).map li) n v1 o1 m1 w1 (encs ks1) s (s.grow0 1) s1 s2]
        exact ⟨hty, happ, R1, fun _ => ⟨R2, fin _ _ _ _ _ _ _ _ rfl p1 p2 p3 p4⟩, fun h => by rw [hb] at h; cases h⟩)
    | false =>
      obtain ⟨v, s2, R2, p, zs2, rfl, p1, p2, p3, p4⟩ := hP (F22r0 (IntKind.wrap IntKind.i64 (Int.tdiv n 8)) 2 == 1)
      obtain ⟨v1, o1, m1, w1, ks1⟩ := p
      refine runs_of_funP sp17c_ok (f := 17) (by kernel_rfl) (Q := PatPost s) (by
        rw [tree17c (z :: r) z ((r.take 29).map li) n v1 o1 m1 w1 (encs ks1) s (s.grow0 1) s1 s2]
        exact ⟨hty, happ, R1, fun h => (by rw [hb] at h; cases h), fun _ => ⟨R2, fin _ _ _ _ _ _ _ _ rfl p1 p2 p3 p4⟩⟩)

/-! ### Size -/
mutual
def psize : P → Int
  | .mk _ _ _ _ ks => psizes ks 1
def psizes : List P → Int → Int
  | [], a => a
  | k :: ks, a => psizes ks (IntKind.wrap .i64 (a + psize k))
end
theorem live16 : (firstRegion (loopAt G 16 3)).bind (G.live 16) = some ([3, 7, 8, 9], []) := by kernel_rfl
theorem keep16 (acc len i : Int) (ks : List AV) (v1 o1 m1 w1 n1 : Int) (ks1 : List AV) (s : St) :
    (E16x0 acc len i ks v1 o1 m1 w1 n1 ks1 s).keep [3, 7, 8, 9] [] = H16 (IntKind.wrap .i64 (acc + n1)) len (IntKind.wrap .i64 (i + 1)) ks v1 o1 m1 w1 n1 ks1 s := by kernel_rfl
theorem indexAddr_kid {t : TypeId} {tk : Tok} {ks : List P} {i : Nat} {k : P} (ht : elemSize G t = some 5) (h : ks[i]? = some k) : ∃ v o m w ks', k = .mk v o m w ks' ∧ indexAddr G t (.sl tk (encs ks)) (.lit (.int .i64 i)) = some (.vp [.lit (.int .i64 v), .lit (.int .i64 o), .lit (.int .i64 m), .lit (.int .i64 w), .sl .ro (encs ks')] 0) := by
  obtain ⟨v, o, m, w, ks'⟩ := k
  refine ⟨v, o, m, w, ks', rfl, ?_⟩
  exact indexAddr_sl (v := enc (.mk v o m w ks')) ht (Int.natCast_nonneg i) (by rw [Int.toNat_natCast]; exact encs_get ks i _ h)
theorem size_loop {ks : List P} (hks : ks.length ≤ 4294967296) (s : St) (IH : ∀ k, k ∈ ks → Runs G 16 [enc k] s (li (psize k)) s) : ∀ (j i : Nat) (acc : Int), ks.length = i + j → ∀ g : Fr, g.keep [3, 7, 8, 9] [] = H16 acc ks.length i (encs ks) 0 0 0 0 0 [] s →
    LoopN G 16 (loopAt G 16 3) [3, 7, 8, 9] [] g s (.exit 0) (E16x1 (psizes (ks.drop i) acc) ks.length ks.length (encs ks) 0 0 0 0 0 [] s) s
  | 0, i, acc, hi, g, hg => by
    have hi : i = ks.length := by omega
    subst hi
    obtain ⟨x, g', s', h', E, K1, K2, K3⟩ := execP_sound sp16_ok (f := 16) (loopAt G 16 3) (H16 acc ks.length ks.length (encs ks) 0 0 0 0 0 [] s) s _ (fun x g' s' _ => x = .exit 0 ∧ g' = E16x1 acc ks.length ks.length (encs ks) 0 0 0 0 0 [] s ∧ s' = s) (by
      rw [round16]
      exact ⟨fun h => by have := of_decide_eq_true h; omega, fun _ => ⟨rfl, rfl, rfl⟩⟩)
    subst K1; subst K2; subst K3
    rw [← hg] at E
    rw [List.drop_length]
    exact LoopN.last (by simp) E
  | j + 1, i, acc, hi, g, hg => by
    have hlt : i < ks.length := by omega
    have hget : ks[i]? = some ks[i] := List.getElem?_eq_getElem hlt
    obtain ⟨v, o, m, w, ks', hk, hx⟩ := indexAddr_kid (t := 22) (tk := .ro) (by kernel_rfl) hget
    have R := IH ks[i] (List.getElem_mem hlt)
    generalize hn : psize ks[i] = n1 at R
    rw [hk] at R
    obtain ⟨x, g', s', h', E, K1, K2, K3⟩ := execP_sound sp16_ok (f := 16) (loopAt G 16 3) (H16 acc ks.length i (encs ks) v o m w n1 (encs ks') s) s _ (fun x g' s' _ => x = .normal ∧ g' = E16x0 acc ks.length i (encs ks) v o m w n1 (encs ks') s ∧ s' = s) (by
      rw [round16]
      exact ⟨fun _ => ⟨hx, R, rfl, rfl, rfl⟩, fun h => by have := of_decide_eq_false h; omega⟩)
    subst K1; subst K2; subst K3
    have hg' : g.keep [3, 7, 8, 9] [] = H16 acc ks.length i (encs ks) v o m w n1 (encs ks') s' := hg
    rw [← hg'] at E
    have L := size_loop hks s' IH j (i + 1) (IntKind.wrap .i64 (acc + n1)) (by omega) (E16x0 acc ks.length i (encs ks) v o m w n1 (encs ks') s') (by
      rw [keep16, wrap_i64_id (n := (i : Int) + 1) (by omega) (by omega)]
      rfl)
    rw [List.drop_eq_getElem_cons hlt]
    unfold psizes
    rw [hn]
    exact LoopN.more E L
mutual
/-- Not wide: no list of operands is longer than a machine can hold. -/
def Narrow : P → Prop
  | .mk _ _ _ _ ks => ks.length ≤ 4294967296 ∧ Narrows ks
def Narrows : List P → Prop
  | [] => True
  | k :: ks => Narrow k ∧ Narrows ks
end
theorem Narrows.mem : ∀ {ks : List P} {k : P}, Narrows ks → k ∈ ks → Narrow k
  | [], k, _, h => by cases h
  | q :: ks, k, h1, h => by
    unfold Narrows at h1
    rcases List.mem_cons.1 h with rfl | h
    · exact h1.1
    · exact Narrows.mem h1.2 h
theorem size_run (s : St) : ∀ p : P, Narrow p → Runs G 16 [enc p] s (li (psize p)) s
  | .mk v o m w ks, hn => by
    unfold Narrow at hn
    have IH : ∀ k, k ∈ ks → Runs G 16 [enc k] s (li (psize k)) s := fun k hk => size_run s k (hn.2.mem hk)
    obtain ⟨x, s', R, h1, h2⟩ := runs_of_funP sp16t_ok (f := 16) (by kernel_rfl) (args := [enc (.mk v o m w ks)]) (s := s) (Q := fun v s' => v = li (psizes ks 1) ∧ s' = s) (by
      show funP G sp16t 16 [.agg [li v, li o, li m, li w, .sl .ro (encs ks)]] s _ _
      rw [tree16t v o m w (psizes ks 1) (encs ks) s, encs_len]
      refine ⟨ExecN.loop live16 ?_, rfl, rfl⟩
      have L := size_loop hn.1 s IH ks.length 0 1 (by omega)
      rw [List.drop_zero] at L
      exact L _ (by rw [← encs_len]; kernel_rfl))
    rw [h1, h2] at R
    unfold psize
    exact R
theorem Small.narrow : ∀ (d : Nat) (p : P), Small d p → Narrow p
  | 0, _, h => by unfold Small at h; exact h.elim
  | d + 1, .mk v o m w ks, h => by
    unfold Small at h
    unfold Narrow
    refine ⟨by omega, ?_⟩
    have : ∀ l : List P, Smalls d l → Narrows l := fun l => by
      induction l with
      | nil => intro _; unfold Narrows; trivial
      | cons k l ih => intro h; unfold Smalls at h; unfold Narrows; exact ⟨Small.narrow d k h.1, ih h.2⟩
    exact this ks h.2.2.2.2.2

/-! ### The law of sizes -/
theorem valid_big (s : St) (p : P) (hn : Narrow p) (h : 24 < psize p) : Runs G 15 [enc p, li 6, li 6] s (.lit (.bool false)) s := by
  have R := size_run s p hn
  obtain ⟨v, o, m, w, ks⟩ := p
  obtain ⟨x, s', R, h1, h2⟩ := runs_of_funP sp15n_ok (f := 15) (by kernel_rfl) (args := [enc (.mk v o m w ks), li 6, li 6]) (s := s) (Q := fun v s' => v = .lit (.bool false) ∧ s' = s) (by
    show funP G sp15n 15 [.agg [li v, li o, li m, li w, .sl .ro (encs ks)], li 6, li 6] s _ _
    rw [tree15n v o m w (psize (.mk v o m w ks)) (encs ks) false s]
    exact ⟨R, fun _ => ⟨rfl, rfl⟩, fun h' => absurd h (of_decide_eq_false h')⟩)
  rw [h1, h2] at R; exact R
theorem law3 (s : St) : Runs G 3 [] s (.lit (.bool true)) s := by
  have h : callF G 100 3 [] St.nil = some (.lit (.bool true), St.nil) := by kernel_rfl
  exact Runs.alone rfl (Runs.of h) s
theorem law5 (zs ys : List Int) (h1 : Words zs) (h2 : Words ys) (s : St) (hs : s.lock ≤ s.next) : ∃ s', Runs G 5 [.sl .ro (zs.map li), .sl .ro (ys.map li)] s (.lit (.bool true)) s' := by
  obtain ⟨v1, s1, R1, p1, rfl, q1, l1, n1, _⟩ := pat_run zs h1 s hs
  obtain ⟨v2, s2, R2, p2, rfl, q2, l2, n2, _⟩ := pat_run ys h2 s1 (by omega)
  have w1 := q1.narrow
  have w2 := q2.narrow
  have S1 := size_run s2 p1 w1
  have S2 := size_run s2 p2 w2
  have w3 : Narrow (.mk 0 4 0 0 [p1, p2]) := by unfold Narrow; exact ⟨by simp, by unfold Narrows; exact ⟨w1, by unfold Narrows; exact ⟨w2, by unfold Narrows; trivial⟩⟩⟩
  have S3 := size_run s2 (.mk 0 4 0 0 [p1, p2]) w3
  have S4 := size_run s2 (.mk 1 0 0 0 []) (by unfold Narrow; exact ⟨by simp, by unfold Narrows; trivial⟩)
  have e3 : psize (.mk 0 4 0 0 [p1, p2]) = IntKind.wrap .i64 (IntKind.wrap .i64 (1 + psize p1) + psize p2) := rfl
  have V := valid_big s2 (.mk 0 4 0 0 [p1, p2]) w3
  obtain ⟨a1, b1, c1, d1, k1⟩ := p1
  obtain ⟨a2, b2, c2, d2, k2⟩ := p2
  obtain ⟨x, s', R, h⟩ := runs_of_funP sp5t_ok (f := 5) (by kernel_rfl) (args := [.sl .ro (zs.map li), .sl .ro (ys.map li)]) (s := s) (Q := fun v _ => v = .lit (.bool true)) (by
    rw [tree5t 0 0 a1 b1 c1 d1 a2 b2 c2 d2 (encs k1) (encs k2) (zs.map li) (ys.map li) (psize (.mk 0 4 0 0 [.mk a1 b1 c1 d1 k1, .mk a2 b2 c2 d2 k2])) (psize (.mk a1 b1 c1 d1 k1)) (psize (.mk a2 b2 c2 d2 k2)) s s1 s2]
    refine ⟨R1, R2, S3, S1, S2, fun _ => ⟨S4, fun _ => ⟨law3 s2, rfl⟩, fun hd => ⟨V (by have := of_decide_eq_false hd; omega), law3 s2, rfl⟩⟩, fun hd => ?_⟩
    rw [e3] at hd
    simp at hd)
  subst h
  exact ⟨s', R⟩
end
end Go.Vm
