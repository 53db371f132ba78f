/-
  The Pattern functions: what they do, proved; no conditions but those that the theorems name.
-/
import Derived.Test.YtoigofkddkpijaaPatG
namespace Go.Vm
noncomputable section
/-! ### Size of the reference -/
abbrev ts26 : List Nat := [1, 3, 4]
theorem live26 : (firstRegion (loopAt G 26 3)).bind (G.live 26) = some (ts26, [1]) := by kernel_rfl
theorem keep26 (acc i v o m w : Int) (ks : List AV) (v1 o1 m1 w1 n1 : Int) (ks1 : List AV) (s : St) :
    (E26x0 acc i v o m w ks v1 o1 m1 w1 n1 ks1 s).keep ts26 [1] = H26 (IntKind.wrap .i64 (acc + n1)) (IntKind.wrap .i64 (i + 1)) v o m w ks 0 0 0 0 0 [] s := by kernel_rfl
theorem size26_loop {v o m w : Int} {ks : List P} (hks : ks.length ≤ 4294967296) (s : St) (IH : ∀ k, k ∈ ks → Runs G 26 [enc k] s (li (psize k)) s) : ∀ (j i : Nat) (acc : Int), ks.length = i + j → ∀ g : Fr, g.keep ts26 [1] = H26 acc i v o m w (encs ks) 0 0 0 0 0 [] s →
    LoopN G 26 (loopAt G 26 3) ts26 [1] g s (.exit 0) (E26x1 (psizes (ks.drop i) acc) ((encs ks).length : Int) v o m w (encs ks) 0 0 0 0 0 [] s) s
  | 0, i, acc, hi, g, hg => by
    have hi : i = ks.length := by omega
    subst hi
    obtain ⟨x, g', s', h', E, K1, K2, K3⟩ := execP_sound sp26_ok (f := 26) (loopAt G 26 3) (H26 acc ks.length v o m w (encs ks) 0 0 0 0 0 [] s) s _ (fun x g' s' _ => x = .exit 0 ∧ g' = E26x1 acc ks.length v o m w (encs ks) 0 0 0 0 0 [] s ∧ s' = s) (by
      rw [round26]
      exact ⟨fun h => by rw [encs_len] at h; have h : (ks.length : Int) < (ks.length : Int) := of_decide_eq_true h; omega, fun _ => ⟨rfl, rfl, rfl⟩⟩)
    subst K1; subst K2; subst K3
    rw [← hg] at E
    rw [List.drop_length, encs_len]
    exact LoopN.last (by simp) E
  | j + 1, i, acc, hi, g, hg => by
    have hlt : i < ks.length := by omega
    have hget : ks[i]? = some ks[i] := List.getElem?_eq_getElem hlt
    obtain ⟨v2, o2, m2, w2, ks', hk, hx⟩ := indexAddr_kid (t := 22) (tk := .ro) (by kernel_rfl) hget
    have R := IH ks[i] (List.getElem_mem hlt)
    generalize hn : psize ks[i] = n1 at R
    rw [hk] at R
    obtain ⟨x, g', s', h', E, K1, K2, K3⟩ := execP_sound sp26_ok (f := 26) (loopAt G 26 3) (H26 acc i v o m w (encs ks) v2 o2 m2 w2 n1 (encs ks') s) s _ (fun x g' s' _ => x = .normal ∧ g' = E26x0 acc i v o m w (encs ks) v2 o2 m2 w2 n1 (encs ks') s ∧ s' = s) (by
      rw [round26]
      exact ⟨fun _ => ⟨hx, R, rfl, rfl, rfl⟩, fun h => by rw [encs_len] at h; have h : ¬ (i : Int) < (ks.length : Int) := of_decide_eq_false h; omega⟩)
    subst K1; subst K2; subst K3
    have hg' : g.keep ts26 [1] = H26 acc i v o m w (encs ks) v2 o2 m2 w2 n1 (encs ks') s' := hg
    rw [← hg'] at E
    have L := size26_loop (v := v) (o := o) (m := m) (w := w) hks s' IH j (i + 1) (IntKind.wrap .i64 (acc + n1)) (by omega) (E26x0 acc i v o m w (encs ks) v2 o2 m2 w2 n1 (encs ks') s') (by
      rw [keep26, wrap_i64_id (n := (i : Int) + 1) (by omega) (by omega)]
      rfl)
    rw [List.drop_eq_getElem_cons hlt]
    unfold psizes
    rw [hn]
    exact LoopN.more E L
theorem size26_run (s : St) : ∀ p : P, Narrow p → Runs G 26 [enc p] s (li (psize p)) s
  | .mk v o m w ks, hn => by
    unfold Narrow at hn
    have IH : ∀ k, k ∈ ks → Runs G 26 [enc k] s (li (psize k)) s := fun k hk => size26_run s k (hn.2.mem hk)
    obtain ⟨x, s', R, h1, h2⟩ := runs_of_funP sp26t_ok (f := 26) (by kernel_rfl) (args := [enc (.mk v o m w ks)]) (s := s) (Q := fun v s' => v = li (psizes ks 1) ∧ s' = s) (by
      show funP G sp26t 26 [.agg [li v, li o, li m, li w, .sl .ro (encs ks)]] s _ _
      rw [tree26t v o m w (psizes ks 1) (encs ks) s]
      refine ⟨ExecN.loop live26 ?_, rfl, rfl⟩
      have L := size26_loop (v := v) (o := o) (m := m) (w := w) hn.1 s IH ks.length 0 1 (by omega)
      rw [List.drop_zero] at L
      exact L _ (by kernel_rfl))
    rw [h1, h2] at R
    unfold psize
    exact R

/-! ### Valid: the program's, the reference's -/
/-- The store may have grown; what lay in it stays. -/
structure Onto (s s' : St) : Prop where
  lock : s'.lock = s.lock
  next : s.next ≤ s'.next
  get : ∀ id, id < s.next → s'.objs.get id = s.objs.get id
theorem Onto.refl (s : St) : Onto s s := ⟨rfl, Nat.le_refl _, fun _ _ => rfl⟩
theorem Onto.trans {s s1 s2 : St} (h : Onto s s1) (h' : Onto s1 s2) : Onto s s2 :=
  ⟨h'.lock.trans h.lock, Nat.le_trans h.next h'.next, fun id q => (h'.get id (Nat.lt_of_lt_of_le q h.next)).trans (h.get id q)⟩
theorem Has.grow {s s' : St} {b : Nat} {cs : List AV} (h : Has s b cs) (k : Onto s s') : Has s' b cs :=
  ⟨by rw [k.get b h.next]; exact h.get, by rw [k.lock]; exact h.lock, Nat.lt_of_lt_of_le h.next k.next⟩
/-- A new object. -/
def St.new (s : St) (cs : List AV) : St := { s with next := s.next + 1, objs := s.objs.set s.next (.cells cs) }
theorem Onto.new (s : St) (cs : List AV) : Onto s (s.new cs) :=
  ⟨rfl, Nat.le_succ _, fun id h => by show (s.objs.set s.next _).get id = _; rw [Tr.get_set, if_neg (by omega)]⟩
theorem Has.new {s : St} (h : s.lock ≤ s.next) (cs : List AV) : Has (s.new cs) s.next cs :=
  ⟨by show (s.objs.set s.next _).get _ = _; rw [Tr.get_set, if_pos rfl], h, Nat.lt_succ_self _⟩
/-- What is kept but for an object that is new is a growth. -/
theorem Onto.of_keep {s s1 s2 : St} (h : Onto s s1) {b : Nat} (hb : s.next ≤ b) (k : Keep s1.next b s1 s2) : Onto s s2 :=
  ⟨k.lock.trans h.lock, Nat.le_trans h.next k.next, fun id q => (k.get id (Nat.lt_of_lt_of_le q h.next) (by omega)).trans (h.get id q)⟩

theorem opx_makeSlice {Γ : Ctx} {f : FuncId} {g : Fr} {s s' : St} {dst : Option Tmp} {t : TypeId} {l c : Operand} {v : AV} (hh : dst.any (Γ.hard f) = false) (h : makeSlice Γ s t (g.ev l) (g.ev c) = some (v, some s')) : opx Γ noCall f g s dst (.makeSlice t l c) = some (v, some (g, s')) := by
  simp only [opx, hh, cond_false, h, withSt]
theorem makeRow (s : St) {n : Nat} (h0 : 0 < n) (h1 : n ≤ 7) : makeSlice G s 26 (li n) (li n) = some (.rs 3 1 s.next 0 n, some (s.new ((List.replicate n (0 : Int)).map li))) := by
  have : n = 1 ∨ n = 2 ∨ n = 3 ∨ n = 4 ∨ n = 5 ∨ n = 6 ∨ n = 7 := by omega
  rcases this with rfl | rfl | rfl | rfl | rfl | rfl | rfl <;> (show makeSlice G s 26 _ _ = _; kernel_rfl)

def pvalid (p : P) (n : Nat) (im : Int) : Bool := decide (n ≤ 6 ∧ 0 ≤ im ∧ im ≤ 6) && decide (psize p ≤ 24) && (pv im p 0 (List.replicate n 0)).1

theorem valid15 (p : P) (hp : Narrow p) {n : Nat} (hn : 0 < n) (im : Int) (s : St) (hs : s.lock ≤ s.next) :
    ∃ x s', Runs G 15 [enc p, li n, li im] s x s' ∧ x = .lit (.bool (pvalid p n im)) ∧ Onto s s' := by
  have R16 := size_run s p hp
  have mk (h0 : ¬ ((n : Nat) : Int) > 6) (h1 : ¬ im < 0) (hd : Has (s.new ((List.replicate n (0 : Int)).map li)) s.next ((List.replicate n (0 : Int)).map li)) := valid_run (im := im) (by omega) p hp 0 (List.replicate n 0) s.next (s.new ((List.replicate n (0 : Int)).map li)) (by simp; omega) hd
  by_cases hg : ¬ ((n : Nat) : Int) > 6 ∧ ¬ im < 0
  · obtain ⟨x, s1, R, rfl, P2, P3⟩ := mk hg.1 hg.2 (Has.new hs _)
    have hgr : Onto s s1 := (Onto.new s _).of_keep (Nat.le_refl _) P3
    rw [List.length_replicate] at R
    generalize hq : (pv im p 0 (List.replicate n 0)).1 = q at R
    have hval : pvalid p n im = (decide (n ≤ 6 ∧ 0 ≤ im ∧ im ≤ 6) && decide (psize p ≤ 24) && q) := by unfold pvalid; rw [hq]
    obtain ⟨v, o, m, w, ks⟩ := p
    refine runs_of_funP sp15v_ok (f := 15) (by kernel_rfl) (args := [enc (.mk v o m w ks), li n, li im]) (s := s) (Q := fun x s' => x = .lit (.bool (pvalid (.mk v o m w ks) n im)) ∧ Onto s s') (by
      show funP G sp15v 15 [.agg [li v, li o, li m, li w, .sl .ro (encs ks)], li (Int.ofNat n), li im] s _ _
      rw [tree15v v o m w im (psize (.mk v o m w ks)) n (encs ks) q s (s.new ((List.replicate n (0 : Int)).map li)) s1]
      refine ⟨fun h => absurd (of_decide_eq_true h) hg.1, fun h0 => ⟨fun h => absurd (of_decide_eq_true h) hg.2, fun h1 => ⟨fun h => ⟨?_, Onto.refl _⟩, fun h2 => ⟨R16, fun h => ⟨?_, Onto.refl _⟩, fun h3 => ⟨?_, R, ?_, hgr⟩⟩⟩⟩⟩
      · have h := of_decide_eq_true h
        rw [hval, decide_eq_false (by omega)]; rfl
      · have h := of_decide_eq_true h
        rw [hval, decide_eq_false (p := psize _ ≤ 24) (by omega), Bool.and_false]; rfl
      · exact opx_makeSlice (by kernel_rfl) (makeRow s hn (by omega))
      · have h2 := of_decide_eq_false h2
        have h3 := of_decide_eq_false h3
        rw [hval, decide_eq_true (by omega), decide_eq_true (p := psize _ ≤ 24) (by omega)]; rfl)
  · have hval : pvalid p n im = false := by unfold pvalid; rw [decide_eq_false (by omega)]; rfl
    obtain ⟨v, o, m, w, ks⟩ := p
    refine runs_of_funP sp15v_ok (f := 15) (by kernel_rfl) (args := [enc (.mk v o m w ks), li n, li im]) (s := s) (Q := fun x s' => x = .lit (.bool (pvalid (.mk v o m w ks) n im)) ∧ Onto s s') (by
      show funP G sp15v 15 [.agg [li v, li o, li m, li w, .sl .ro (encs ks)], li (Int.ofNat n), li im] s _ _
      rw [tree15v v o m w im (psize (.mk v o m w ks)) n (encs ks) false s s s]
      exact ⟨fun h => ⟨by rw [hval], Onto.refl _⟩, fun h0 => ⟨fun h => ⟨by rw [hval], Onto.refl _⟩, fun h1 => absurd ⟨of_decide_eq_false h0, of_decide_eq_false h1⟩ hg⟩⟩)

theorem valid18 (p : P) (hp : Narrow p) (n : Nat) (im : Int) (s : St) (hs : s.lock ≤ s.next) :
    ∃ x s', Runs G 18 [enc p, li n, li im] s x s' ∧ x = .lit (.bool (pvalid p n im)) ∧ Onto s s' := by
  by_cases hg : n ≤ 6 ∧ 0 ≤ im ∧ im ≤ 6
  · obtain ⟨x, s1, R, rfl, P2, P3⟩ := fits_run im p hp 0 0 (List.replicate n 0) s.next (s.new ((List.replicate (n + 1) (0 : Int)).map li)) (Has.new hs _)
    have hgr : Onto s s1 := (Onto.new s _).of_keep (Nat.le_refl _) P3
    rw [List.length_replicate] at R
    have R26 := size26_run s1 p hp
    generalize hq : (pv im p 0 (List.replicate n 0)).1 = q at R
    have hval : pvalid p n im = (decide (psize p ≤ 24) && q) := by unfold pvalid; rw [hq, decide_eq_true hg]; rfl
    obtain ⟨v, o, m, w, ks⟩ := p
    refine runs_of_funP sp18v_ok (f := 18) (by kernel_rfl) (args := [enc (.mk v o m w ks), li n, li im]) (s := s) (Q := fun x s' => x = .lit (.bool (pvalid (.mk v o m w ks) n im)) ∧ Onto s s') (by
      show funP G sp18v 18 [.agg [li v, li o, li m, li w, .sl .ro (encs ks)], li (Int.ofNat n), li im] s _ _
      rw [tree18v v o m w im (psize (.mk v o m w ks)) n (encs ks) q s (s.new ((List.replicate (n + 1) (0 : Int)).map li)) s1]
      refine ⟨fun h => ?_, fun h0 => ⟨fun h => ?_, fun h1 => ⟨fun h => ?_, fun h2 => ⟨?_, R, fun h => ⟨R26, ?_, hgr⟩, fun h => ⟨?_, hgr⟩⟩⟩⟩⟩
      · have h : (n : Int) > 6 := of_decide_eq_true h; omega
      · have h := of_decide_eq_true h; omega
      · have h := of_decide_eq_true h; omega
      · refine opx_makeSlice (by kernel_rfl) ?_
        have := makeRow s (n := n + 1) (by omega) (by omega)
        have e : li ((n + 1 : Nat) : Int) = .lit (.int .i64 (IntKind.wrap .i64 (Int.ofNat n + 1))) := by
          rw [wrap_i64_id (n := Int.ofNat n + 1) (by show -9223372036854775808 ≤ (n : Int) + 1; omega) (by show (n : Int) + 1 < 9223372036854775808; omega)]; rfl
        rw [e] at this; exact this
      · rw [hval, h, Bool.and_true]
      · rw [hval, h, Bool.and_false])
  · have hval : pvalid p n im = false := by unfold pvalid; rw [decide_eq_false hg]; rfl
    obtain ⟨v, o, m, w, ks⟩ := p
    refine runs_of_funP sp18v_ok (f := 18) (by kernel_rfl) (args := [enc (.mk v o m w ks), li n, li im]) (s := s) (Q := fun x s' => x = .lit (.bool (pvalid (.mk v o m w ks) n im)) ∧ Onto s s') (by
      show funP G sp18v 18 [.agg [li v, li o, li m, li w, .sl .ro (encs ks)], li (Int.ofNat n), li im] s _ _
      rw [tree18v v o m w im (psize (.mk v o m w ks)) n (encs ks) false s s s]
      refine ⟨fun h => ⟨by rw [hval], Onto.refl _⟩, fun h0 => ⟨fun h => ⟨by rw [hval], Onto.refl _⟩, fun h1 => ⟨fun h => ⟨by rw [hval], Onto.refl _⟩, fun h2 => absurd ?_ hg⟩⟩⟩
      have h0 : ¬ (n : Int) > 6 := of_decide_eq_false h0
      have h1 := of_decide_eq_false h1
      have h2 := of_decide_eq_false h2
      omega)
end
end Go.Vm
