/-
  The Pattern functions: what they do, proved; no conditions but those that the theorems name.
-/
import Derived.Test.YtoigofkddkpijaaPatI
namespace Go.Vm
noncomputable section
/-! ### What compile computes -/
theorem clear_bits {ms : List Nat} {i : Nat} {e : Eff} {rs : List Rec} (h : (rs.all fun q => (ms.getD i 0).testBit q.i) = true) : clear ms i e rs = true :=
  clear_mask e rs fun q hq => List.all_eq_true.1 h q hq
theorem room_self {vs : List Int} {v : Int} (h : v.toNat ≤ vs.length) : room vs v = vs := by
  unfold room
  rw [show v.toNat - vs.length = 0 by omega]; simp
theorem room_step {vs : List Int} {v : Int} (h : vs.length < v.toNat) : room (vs ++ [-1]) v = room vs v := by
  unfold room
  rw [List.append_assoc, List.length_append, List.length_singleton, show v.toNat - vs.length = (v.toNat - (vs.length + 1)) + 1 by omega, List.replicate_succ]
  rfl
theorem room_len (vs : List Int) (v : Int) : (room vs v).length = max vs.length v.toNat := by
  unfold room
  rw [List.length_append, List.length_replicate]; omega

abbrev ts55 : List Nat := [0, 2, 4]
theorem live55 : (firstRegion (loopAt G 55 2)).bind (G.live 55) = some (ts55, [4]) := by kernel_rfl
theorem keep55r (b id n : Nat) (r v o m w : Int) (ks : List AV) (s u1 u2 s0 : St) (id' n' : Nat) :
    (E55rx0 b id n r v o m w ks s u1 u2).keep ts55 [4] = H55r b id' n' r v o m w ks s0 s0 s0 := by kernel_rfl
theorem keep55n (b id n : Nat) (r v o m w : Int) (ks : List AV) (s u1 u2 s0 : St) (id' n' : Nat) :
    (E55nx0 b id n r v o m w ks s u1 u2).keep ts55 [4] = H55r b id' n' r v o m w ks s0 s0 s0 := by kernel_rfl

theorem room_loop {N b : Nat} {r v o m w : Int} {ks : List AV} {tk : Tok} (hv : v ≤ 1000) (s0 : St) : ∀ (j : Nat) (c : Prg) (id : Nat) (s : St), v.toNat ≤ c.vars.length + j → PSt N b c s tk (.rs 3 1 id 0 c.vars.length) → c.vars.length ≤ 1000 →
    ∀ g : Fr, g.keep ts55 [4] = H55r b id c.vars.length r v o m w ks s0 s0 s0 →
      ∃ id' s', LoopN G 55 (loopAt G 55 2) ts55 [4] g s (.exit 0) (E55rx1 b id' (room c.vars v).length r v o m w ks s0 s0 s0) s' ∧ PSt N b ⟨c.l, c.next, room c.vars v⟩ s' tk (.rs 3 1 id' 0 (room c.vars v).length) ∧ Kept N s s' := by
  have stop : ∀ (c : Prg) (id : Nat) (s : St), v.toNat ≤ c.vars.length → PSt N b c s tk (.rs 3 1 id 0 c.vars.length) → ∀ g : Fr, g.keep ts55 [4] = H55r b id c.vars.length r v o m w ks s0 s0 s0 →
      ∃ id' s', LoopN G 55 (loopAt G 55 2) ts55 [4] g s (.exit 0) (E55rx1 b id' (room c.vars v).length r v o m w ks s0 s0 s0) s' ∧ PSt N b ⟨c.l, c.next, room c.vars v⟩ s' tk (.rs 3 1 id' 0 (room c.vars v).length) ∧ Kept N s s' := by
    intro c id s hj h g hg
    rw [room_self hj]
    obtain ⟨x, g', s', h', E, K1, K2, K3⟩ := execP_sound sp55r_ok (f := 55) (loopAt G 55 2) (H55r b id c.vars.length r v o m w ks s s s) s _ (fun x g' s' _ => x = .exit 0 ∧ g' = E55rx1 b id c.vars.length r v o m w ks s0 s0 s0 ∧ s' = s) (by
      rw [round55r]
      refine ⟨loadAt_hp h.has (by kernel_rfl), fun q => ?_, fun _ => ⟨rfl, rfl, rfl⟩⟩
      have q : (c.vars.length : Int) < v := of_decide_eq_true q
      omega)
    subst K1; subst K2; subst K3
    have hg' : g.keep ts55 [4] = H55r b id c.vars.length r v o m w ks s' s' s' := hg
    rw [← hg'] at E
    exact ⟨id, _, LoopN.last (by simp) E, h, Kept.refl _ _⟩
  intro j
  induction j with
  | zero => intro c id s hj h _ g hg; exact stop c id s hj h g hg
  | succ j ih =>
    intro c id s hj h hl g hg
    by_cases hlt : c.vars.length < v.toNat
    · obtain ⟨s1, s2, a1, a2, a3, a4⟩ := h.room1 hl
      obtain ⟨x, g', s', h', E, K1, K2, K3⟩ := execP_sound sp55r_ok (f := 55) (loopAt G 55 2) (H55r b id c.vars.length r v o m w ks s s1 s2) s _ (fun x g' s' _ => x = .normal ∧ g' = E55rx0 b id c.vars.length r v o m w ks s s1 s2 ∧ s' = s2) (by
        rw [round55r]
        refine ⟨loadAt_hp h.has (by kernel_rfl), fun _ => ⟨loadAt_hp h.has (by kernel_rfl), a1, a2, rfl, rfl, rfl⟩, fun q => ?_⟩
        have q : ¬ (c.vars.length : Int) < v := of_decide_eq_false q
        omega)
      subst K1; subst K2; subst K3
      have hg' : g.keep ts55 [4] = H55r b id c.vars.length r v o m w ks s s1 s' := hg
      rw [← hg'] at E
      have hln : (c.vars ++ [(-1 : Int)]).length = c.vars.length + 1 := by simp
      rw [← hln] at a3
      obtain ⟨id', s3, L1, L2, L3⟩ := ih ⟨c.l, c.next, c.vars ++ [-1]⟩ s.next s' (by rw [hln]; omega) a3 (by rw [hln]; omega) (E55rx0 b id c.vars.length r v o m w ks s s1 s') (keep55r _ _ _ _ _ _ _ _ _ _ _ _ _ _ _)
      simp only [room_step hlt] at L1 L2
      exact ⟨id', s3, LoopN.more E L1, L2, a4.trans L3⟩
    · exact stop c id s (by omega) h g hg
/-- The loop that makes room for a variable. -/
theorem room_run {N b : Nat} {r v o m w : Int} {ks : List AV} {tk : Tok} {V : AV} (hv0 : 0 < v) (hv : v ≤ 1000) {c : Prg} {s : St} (h : PSt N b c s tk V) (hl : c.vars.length ≤ 1000) :
    ∃ id' s', (∀ g : Fr, g.keep ts55 [4] = H55r b 0 0 r v o m w ks s s s → ExecN G 55 (.loop (loopAt G 55 2)) g s (.exit 0) (E55rx1 b id' (room c.vars v).length r v o m w ks s s s) s') ∧ PSt N b ⟨c.l, c.next, room c.vars v⟩ s' tk (.rs 3 1 id' 0 (room c.vars v).length) ∧ Kept N s s' := by
  rcases h.rowV with ⟨e1, e2⟩ | ⟨id, e1, hr, e3, e4, e5⟩
  · subst e1
    obtain ⟨s1, s2, a1, a2, a3, a4⟩ := h.room1 hl
    rw [e2] at a1 a2 a3 ⊢
    have hlt : ([] : List Int).length < v.toNat := by simp; omega
    obtain ⟨id', s3, L1, L2, L3⟩ := room_loop (r := r) (o := o) (m := m) (w := w) (ks := ks) hv s v.toNat ⟨c.l, c.next, [] ++ [-1]⟩ s.next s2 (by simp) a3 (by simp) (E55nx0 b 0 0 r v o m w ks s s1 s2) (keep55n _ _ _ _ _ _ _ _ _ _ _ _ _ _ _)
    simp only [room_step hlt] at L1 L2
    refine ⟨id', s3, fun g hg => ?_, L2, a4.trans L3⟩
    obtain ⟨x, g', s', h', E, K1, K2, K3⟩ := execP_sound sp55n_ok (f := 55) (loopAt G 55 2) (H55n b 0 0 r v o m w ks s s1 s2) s _ (fun x g' s' _ => x = .normal ∧ g' = E55nx0 b 0 0 r v o m w ks s s1 s2 ∧ s' = s2) (by
      rw [round55n]
      exact ⟨loadAt_hp h.has (by kernel_rfl), fun _ => ⟨loadAt_hp h.has (by kernel_rfl), a1, a2, rfl, rfl, rfl⟩, fun q => by have := of_decide_eq_false q; omega⟩)
    subst K1; subst K2; subst K3
    have hg' : g.keep ts55 [4] = H55n b 0 0 r v o m w ks s s1 s' := hg
    rw [← hg'] at E
    exact ExecN.loop live55 (LoopN.more E L1)
  · subst e1
    obtain ⟨id', s3, L1, L2, L3⟩ := room_loop (r := r) (o := o) (m := m) (w := w) (ks := ks) hv s v.toNat c id s (by omega) h hl { tm := (H55r b id c.vars.length r v o m w ks s s s).tm, lo := (H55r b id c.vars.length r v o m w ks s s s).lo, nt := 109 } (by kernel_rfl)
    exact ⟨id', s3, fun g hg => ExecN.loop live55 (LoopN.of_keep (by rw [hg]; kernel_rfl) L1), L2, L3⟩

mutual
theorem pc_len : ∀ (p : P) (r : Int) (c : Prg), (pc p r c).l.length ≤ c.l.length + nsz p
  | .mk v o m w ks, r, c => by
    unfold pc nsz
    split
    · split
      · simp
      · simp
    · have := pcs_len ks c.next 0 ⟨c.l ++ [⟨1, r, c.next, o, m, w⟩], IntKind.wrap .i64 (c.next + ks.length), c.vars⟩
      simp only [List.length_append, List.length_singleton] at this
      omega
theorem pcs_len : ∀ (ks : List P) (b : Int) (i : Nat) (c : Prg), (pcs ks b i c).l.length ≤ c.l.length + nszs ks
  | [], b, i, c => by unfold pcs; simp
  | k :: ks, b, i, c => by
    unfold pcs nszs
    have h1 := pcs_len ks b (i + 1) (pc k (IntKind.wrap .i64 (b + i)) c)
    have h2 := pc_len k (IntKind.wrap .i64 (b + i)) c
    omega
end
mutual
theorem pc_vars {n : Nat} : ∀ (p : P) (r : Int) (c : Prg), Vle n p → c.vars.length ≤ n → (pc p r c).vars.length ≤ n
  | .mk v o m w ks, r, c, hp, hc => by
    unfold Vle at hp
    unfold pc
    split
    · have := room_len c.vars v
      split
      · show (room c.vars v).length ≤ n; omega
      · show ((room c.vars v).set _ _).length ≤ n; rw [List.length_set]; omega
    · exact pcs_vars ks _ _ _ hp.2 hc
theorem pcs_vars {n : Nat} : ∀ (ks : List P) (b : Int) (i : Nat) (c : Prg), Vles n ks → c.vars.length ≤ n → (pcs ks b i c).vars.length ≤ n
  | [], b, i, c, _, hc => by unfold pcs; exact hc
  | k :: ks, b, i, c, hp, hc => by
    unfold Vles at hp
    unfold pcs
    exact pcs_vars ks b (i + 1) _ hp.2 (pc_vars k _ c hp.1 hc)
end
theorem Vles.mem {n : Int} : ∀ {ks : List P} {k : P}, Vles n ks → k ∈ ks → Vle n k
  | [], k, _, h => by cases h
  | q :: ks, k, h1, h => by
    unfold Vles at h1
    rcases List.mem_cons.1 h with rfl | h
    · exact h1.1
    · exact Vles.mem h1.2 h

abbrev ts55k : List Nat := [0, 7, 95, 96, 97]
theorem live55k : (firstRegion (loopAt G 55 12)).bind (G.live 55) = some (ts55k, []) := by kernel_rfl
theorem keep55k (b : Nat) (base len i : Int) (ks : List AV) (v1 o1 m1 w1 : Int) (ks1 : List AV) (s u1 s0 : St) :
    (E55kx0 b base len i ks v1 o1 m1 w1 ks1 s u1).keep ts55k [] = H55k b base len (IntKind.wrap .i64 (i + 1)) ks 0 0 0 0 [] s0 s0 := by kernel_rfl
/-- What a call of compile brings. -/
def CPost (N b : Nat) (c : Prg) (s : St) (x : AV) (s' : St) : Prop := x = .tup [] ∧ Kept N s s' ∧ ∃ tk V, PSt N b c s' tk V

theorem compile_loop {N b : Nat} {base : Int} {ks : List P} (hks : ks.length ≤ 4294967296) (s0 : St)
    (IH : ∀ k, k ∈ ks → ∀ (r : Int) (c : Prg) (s : St) (tk : Tok) (V : AV), PSt N b c s tk V → c.vars.length ≤ 1000 → c.l.length + nsz k ≤ 1000000 → ∃ x s', Runs G 55 [.hp b 0, enc k, li r] s x s' ∧ CPost N b (pc k r c) s x s') (hv : Vles 1000 ks) :
    ∀ (j i : Nat) (c : Prg) (s : St) (tk : Tok) (V : AV), ks.length = i + j → PSt N b c s tk V → c.vars.length ≤ 1000 → c.l.length + nszs (ks.drop i) ≤ 1000000 → ∀ g : Fr, g.keep ts55k [] = H55k b base ks.length i (encs ks) 0 0 0 0 [] s0 s0 →
      ∃ s', LoopN G 55 (loopAt G 55 12) ts55k [] g s (.exit 2) (E55kx1 b base ks.length ks.length (encs ks) 0 0 0 0 [] s0 s0) s' ∧ Kept N s s' ∧ ∃ tk V, PSt N b (pcs (ks.drop i) base i c) s' tk V
  | 0, i, c, s, tk, V, hi, h, hc, hl, g, hg => by
    have hi : i = ks.length := by omega
    subst hi
    obtain ⟨x, g', s', h', E, K1, K2, K3⟩ := execP_sound sp55k_ok (f := 55) (loopAt G 55 12) (H55k b base ks.length ks.length (encs ks) 0 0 0 0 [] s s) s _ (fun x g' s' _ => x = .exit 2 ∧ g' = E55kx1 b base ks.length ks.length (encs ks) 0 0 0 0 [] s0 s0 ∧ s' = s) (by
      rw [round55k]
      exact ⟨fun h => by have := of_decide_eq_true h; omega, fun _ => ⟨rfl, rfl, rfl⟩⟩)
    subst K1; subst K2; subst K3
    have hg' : g.keep ts55k [] = H55k b base ks.length ks.length (encs ks) 0 0 0 0 [] s' s' := hg
    rw [← hg'] at E
    rw [List.drop_length]
    unfold pcs
    exact ⟨_, LoopN.last (by simp) E, Kept.refl _ _, tk, V, h⟩
  | j + 1, i, c, s, tk, V, hi, h, hc, hl, g, hg => by
    have hlt : i < ks.length := by omega
    have hget : ks[i]? = some ks[i] := List.getElem?_eq_getElem hlt
    obtain ⟨v, o, m, w, ks', hk, hx⟩ := indexAddr_kid (t := 22) (tk := .ro) (by kernel_rfl) hget
    rw [List.drop_eq_getElem_cons hlt] at hl ⊢
    unfold nszs at hl
    unfold pcs
    have hvk : Vle 1000 ks[i] := hv.mem (List.getElem_mem hlt)
    obtain ⟨x, u1, R, rfl, P2, tk1, V1, P3⟩ := IH ks[i] (List.getElem_mem hlt) (IntKind.wrap .i64 (base + i)) c s tk V h hc (by omega)
    have hl1 := pc_len ks[i] (IntKind.wrap .i64 (base + i)) c
    have hv1 := pc_vars (n := 1000) ks[i] (IntKind.wrap .i64 (base + i)) c hvk hc
    generalize pc ks[i] (IntKind.wrap .i64 (base + i)) c = c1 at P3 hl1 hv1 ⊢
    rw [hk] at R
    obtain ⟨x, g', s', h', E, K1, K2, K3⟩ := execP_sound sp55k_ok (f := 55) (loopAt G 55 12) (H55k b base ks.length i (encs ks) v o m w (encs ks') s u1) s _ (fun x g' s' _ => x = .normal ∧ g' = E55kx0 b base ks.length i (encs ks) v o m w (encs ks') s u1 ∧ s' = u1) (by
      rw [round55k]
      exact ⟨fun _ => ⟨hx, R, rfl, rfl, rfl⟩, fun h => by have := of_decide_eq_false h; omega⟩)
    subst K1; subst K2; subst K3
    have hg' : g.keep ts55k [] = H55k b base ks.length i (encs ks) v o m w (encs ks') s s' := hg
    rw [← hg'] at E
    obtain ⟨s2, L1, L2, L3⟩ := compile_loop hks s0 IH hv j (i + 1) c1 s' tk1 V1 (by omega) P3 hv1 (by omega) (E55kx0 b base ks.length i (encs ks) v o m w (encs ks') s s') (by
      rw [keep55k _ _ _ _ _ _ _ _ _ _ _ _ s0, wrap_i64_id (n := (i : Int) + 1) (by omega) (by omega)]
      rfl)
    exact ⟨s2, LoopN.more E L1, P2.trans L2, L3⟩

set_option maxRecDepth 100000 in
theorem compile_run {N b : Nat} : ∀ (p : P), Narrow p → Vle 1000 p → ∀ (r : Int) (c : Prg) (s : St) (tk : Tok) (V : AV), PSt N b c s tk V → c.vars.length ≤ 1000 → c.l.length + nsz p ≤ 1000000 →
    ∃ x s', Runs G 55 [.hp b 0, enc p, li r] s x s' ∧ CPost N b (pc p r c) s x s'
  | .mk v o m w ks, hp, hv, r, c, s, tk, V, h, hc, hl => by
    unfold Narrow at hp
    unfold Vle at hv
    unfold nsz at hl
    by_cases h0 : 0 < v
    · obtain ⟨id', u0, L, q1, q2⟩ := room_run (r := r) (v := v) (o := o) (m := m) (w := w) (ks := encs ks) h0 hv.1 h hc
      have hlen : v.toNat ≤ (room c.vars v).length := by rw [room_len]; omega
      have hx : (v - 1).toNat < (room c.vars v).length := by omega
      have hi : indexAddr G 26 (.rs 3 1 id' 0 (room c.vars v).length) (.lit (.int .i64 (IntKind.wrap .i64 (v - 1)))) = some (.hp id' (v - 1).toNat) := by
        rw [wrap_i64_id (by omega) (by omega)]; exact indexAddr_row (by omega) hx
      have hrow : Has u0 id' ((room c.vars v).map li) := by
        rcases q1.rowV with ⟨e1, _⟩ | ⟨id, e1, hr, _⟩
        · cases e1
        · injection e1 with _ _ e1; subst e1; exact hr
      have hld := load_row hrow hx
      obtain ⟨s1, s2, a1, a2, a3, a4⟩ := q1.push (d := 50) ⟨2, r, (room c.vars v).getD (v - 1).toNat 0, 0, 0, 0⟩ (by kernel_rfl) (by show c.l.length ≤ 1000000; omega)
      obtain ⟨s3, b1, b2, b3⟩ := q1.setVar (x := (v - 1).toNat) hx r
      refine runs_of_funP sp55b_ok (f := 55) (by kernel_rfl) (args := [.hp b 0, enc (.mk v o m w ks), li r]) (s := s) (Q := CPost N b (pc (.mk v o m w ks) r c) s) (by
        show funP G sp55b 55 [.hp b 0, .agg [li v, li o, li m, li w, .sl .ro (encs ks)], li r] s _ _
        by_cases ho : 0 ≤ (room c.vars v).getD (v - 1).toNat 0
        · rw [tree55b b id' (room c.vars v).length (v - 1).toNat r v o m w ((room c.vars v).getD (v - 1).toNat 0) 0 tk (c.l.map encI) (encs ks) s u0 s1 s2 s3 s]
          refine ⟨fun _ => ⟨L _ (by kernel_rfl), loadAt_hp q1.has (by kernel_rfl), hi, hld, fun _ => ⟨loadAt_hp q1.has (by kernel_rfl), a1, a2, ?_⟩, fun q => absurd ho (of_decide_eq_false q)⟩, fun q => absurd h0 (of_decide_eq_false q)⟩
          have e : pc (.mk v o m w ks) r c = ⟨c.l ++ [⟨2, r, (room c.vars v).getD (v - 1).toNat 0, 0, 0, 0⟩], c.next, room c.vars v⟩ := by unfold pc; rw [if_pos h0, if_pos ho]
          rw [e]
          exact ⟨rfl, q2.trans a4, _, _, a3⟩
        · rw [tree55b b id' (room c.vars v).length (v - 1).toNat r v o m w ((room c.vars v).getD (v - 1).toNat 0) 0 tk (c.l.map encI) (encs ks) s u0 s1 s2 s3 s]
          refine ⟨fun _ => ⟨L _ (by kernel_rfl), loadAt_hp q1.has (by kernel_rfl), hi, hld, fun q => absurd (of_decide_eq_true q) ho, fun _ => ⟨loadAt_hp q1.has (by kernel_rfl), hi, b1, clear_bits (by kernel_rfl), ?_⟩⟩, fun q => absurd h0 (of_decide_eq_false q)⟩
          have e : pc (.mk v o m w ks) r c = ⟨c.l, c.next, (room c.vars v).set (v - 1).toNat r⟩ := by unfold pc; rw [if_pos h0, if_neg ho]
          rw [e]
          exact ⟨rfl, q2.trans b3, _, _, b2⟩)
    · obtain ⟨a1, a2, a3⟩ := h.setNext (IntKind.wrap .i64 (c.next + ks.length))
      generalize hu1 : s.upd b [.sl tk (c.l.map encI), li (IntKind.wrap .i64 (c.next + ks.length)), V] = u1 at a1 a2 a3
      obtain ⟨u2, u3, b1, b2, b3, b4⟩ := a2.push (d := 91) ⟨1, r, c.next, o, m, w⟩ (by kernel_rfl) (by show c.l.length ≤ 1000000; omega)
      have IH : ∀ k, k ∈ ks → ∀ (r : Int) (c : Prg) (s : St) (tk : Tok) (V : AV), PSt N b c s tk V → c.vars.length ≤ 1000 → c.l.length + nsz k ≤ 1000000 → ∃ x s', Runs G 55 [.hp b 0, enc k, li r] s x s' ∧ CPost N b (pc k r c) s x s' := fun k hk r c s tk V h1 h2 h3 => compile_run k (hp.2.mem hk) (hv.2.mem hk) r c s tk V h1 h2 h3
      obtain ⟨u4, L, c1, c2⟩ := compile_loop (base := c.next) hp.1 s IH hv.2 ks.length 0 _ u3 _ _ (by omega) b3 hc (by rw [List.drop_zero]; simp only [List.length_append, List.length_singleton]; omega) { tm := (H55k b c.next ks.length ((0 : Nat) : Int) (encs ks) 0 0 0 0 [] s s).tm, lo := (H55k b c.next ks.length 0 (encs ks) 0 0 0 0 [] s s).lo, nt := 109 } (by kernel_rfl)
      rw [List.drop_zero] at c2
      have e : pc (.mk v o m w ks) r c = pcs ks c.next 0 ⟨c.l ++ [⟨1, r, c.next, o, m, w⟩], IntKind.wrap .i64 (c.next + ks.length), c.vars⟩ := by unfold pc; rw [if_neg h0]
      refine runs_of_funP sp55b_ok (f := 55) (by kernel_rfl) (args := [.hp b 0, enc (.mk v o m w ks), li r]) (s := s) (Q := CPost N b (pc (.mk v o m w ks) r c) s) (by
        show funP G sp55b 55 [.hp b 0, .agg [li v, li o, li m, li w, .sl .ro (encs ks)], li r] s _ _
        rw [tree55b b 0 0 0 r v o m w 0 c.next tk (c.l.map encI) (encs ks) s s u1 u2 u3 u4, encs_len]
        exact ⟨fun q => absurd (of_decide_eq_true q) h0, fun _ => ⟨loadAt_hp h.has (by kernel_rfl), loadAt_hp h.has (by kernel_rfl), a1, clear_bits (by kernel_rfl), loadAt_hp a2.has (by kernel_rfl), b1, clear_bits (by kernel_rfl), b2, clear_bits (by kernel_rfl), ExecN.loop live55k (LoopN.of_keep (by kernel_rfl) L), by rw [e]; exact ⟨rfl, (a3.trans b4).trans c1, c2⟩⟩⟩)
end
end Go.Vm
