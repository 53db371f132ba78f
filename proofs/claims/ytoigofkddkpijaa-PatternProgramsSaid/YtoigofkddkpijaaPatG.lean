/-
  The Pattern functions: what they do, proved; no conditions but those that the theorems name.
-/
import Derived.Test.YtoigofkddkpijaaPatF
namespace Go.Vm
noncomputable section
/-! ### The reference's fits -/
def FPost (im : Int) (id : Nat) (a : Int) (p : P) (sort : Int) (vs : List Int) (s : St) (v : AV) (s' : St) : Prop := v = .lit (.bool (pv im p sort vs).1) ∧ Has s' id ((a :: (pv im p sort vs).2).map li) ∧ Keep s.next id s s'

theorem fits_var {im : Int} {v o m w a : Int} {ks : List P} (hv : v ≠ 0) (sort : Int) {vs : List Int} {id : Nat} {s : St} (h : Has s id ((a :: vs).map li)) :
    ∃ x s', Runs G 59 [enc (.mk v o m w ks), li sort, .rs 3 1 id 0 (vs.length + 1), li im] s x s' ∧ FPost im id a (.mk v o m w ks) sort vs s x s' := by
  have hv' : (v != 0) = true := by simpa using hv
  have bad (hb : v < 1 ∨ (vs.length : Int) < v ∨ o ≠ 0 ∨ m ≠ 0 ∨ w ≠ 0 ∨ ks.length ≠ 0) : FPost im id a (.mk v o m w ks) sort vs s (.lit (.bool false)) s := by
    have e : pv im (.mk v o m w ks) sort vs = (false, vs) := by unfold pv; rw [if_neg hv, if_pos hb]
    unfold FPost; rw [e]; exact ⟨rfl, h, Keep.refl _ _ _⟩
  have hget (hx : 1 ≤ v) : (a :: vs).getD v.toNat 0 = vs.getD (v - 1).toNat 0 := by
    rw [show v.toNat = (v - 1).toNat + 1 by omega, List.getD_cons_succ]
  have hset (hx : 1 ≤ v) : (a :: vs).set v.toNat sort = a :: vs.set (v - 1).toNat sort := by
    rw [show v.toNat = (v - 1).toNat + 1 by omega, List.set_cons_succ]
  refine runs_of_funP sp59a_ok (f := 59) (by kernel_rfl) (Q := FPost im id a (.mk v o m w ks) sort vs s) (by
    show funP G sp59a 59 [.agg [li v, li o, li m, li w, .sl .ro (encs ks)], li sort, .rs 3 1 id 0 (vs.length + 1), li im] s _ _
    rw [tree59a v o m w sort im (encs ks) id (vs.length + 1) v.toNat ((a :: vs).getD v.toNat 0) 0 0 0 0 0 [] s (s.upd id (((a :: vs).set v.toNat sort).map li)) s]
    refine ⟨fun _ => ⟨fun h1 => bad (.inl (of_decide_eq_true h1)), fun h1 => ⟨fun h2 => bad (.inr (.inl ?_)), fun h2 => ⟨fun h3 => bad (.inr (.inr (.inl (by simpa using h3)))), fun h3 => ⟨fun h4 => bad (.inr (.inr (.inr (.inl (by simpa using h4))))), fun h4 => ⟨fun h5 => bad (.inr (.inr (.inr (.inr (.inl (by simpa using h5)))))), fun h5 => ⟨fun h6 => bad (.inr (.inr (.inr (.inr (.inr ?_))))), fun h6 => ?_⟩⟩⟩⟩⟩⟩, fun h => by rw [hv'] at h; cases h⟩
    · have h2 : v ≥ ((vs.length + 1 : Nat) : Int) := of_decide_eq_true h2
      omega
    · rw [encs_len] at h6
      intro e; rw [e] at h6; cases h6
    · have h1 := of_decide_eq_false h1
      have h2 : ¬ v ≥ ((vs.length + 1 : Nat) : Int) := of_decide_eq_false h2
      rw [encs_len] at h6
      have h6 : Int.ofNat ks.length = 0 := bne_eq_false_iff_eq.1 h6
      have hc : ¬ (v < 1 ∨ (vs.length : Int) < v ∨ o ≠ 0 ∨ m ≠ 0 ∨ w ≠ 0 ∨ ks.length ≠ 0) := by
        rintro (q | q | q | q | q | q)
        · exact h1 q
        · omega
        · exact q (by simpa using h3)
        · exact q (by simpa using h4)
        · exact q (by simpa using h5)
        · exact q (Int.ofNat.inj h6)
      have hx : v.toNat < (a :: vs).length := by rw [List.length_cons]; omega
      have hi : indexAddr G 26 (.rs 3 1 id 0 (vs.length + 1)) (.lit (.int .i64 v)) = some (.hp id v.toNat) := indexAddr_row (by omega) (by omega)
      have hst := store_row h hx sort
      have hup : Has (s.upd id (((a :: vs).set v.toNat sort).map li)) id (((a :: vs).set v.toNat sort).map li) := h.upd
      have e1 (q : vs.getD (v - 1).toNat 0 = 0) : pv im (.mk v o m w ks) sort vs = (true, vs.set (v - 1).toNat sort) := by unfold pv; rw [if_neg hv, if_neg hc, if_pos q]
      have e2 (q : vs.getD (v - 1).toNat 0 ≠ 0) : pv im (.mk v o m w ks) sort vs = (decide (sort = 0 ∨ vs.getD (v - 1).toNat 0 = sort), vs) := by unfold pv; rw [if_neg hv, if_neg hc, if_neg q]
      have hd := load_row h hx
      have hu := load_row hup (by rw [List.length_set]; exact hx)
      have hsame : ((a :: vs).set v.toNat sort).getD v.toNat 0 = sort := by
        rw [List.getD_eq_getElem?_getD, List.getElem?_set_self hx]; rfl
      rw [hsame] at hu
      -- where the sort is 0 and none is told, the same row is written
      have eqs (q : vs.getD (v - 1).toNat 0 = 0) (q0 : sort = 0) : vs.set (v - 1).toNat sort = vs := by
        rw [q0]
        refine List.ext_getElem (by simp) fun i p1 p2 => ?_
        rw [List.getElem_set]
        split
        · rename_i hi
          subst hi
          rw [List.getD_eq_getElem?_getD, List.getElem?_eq_getElem p2] at q
          exact q.symm
        · rfl
      refine ⟨fun h7 => ⟨hi, hd, fun h8 => ⟨hi, hst, fun h9 => ?_, fun h9 => ⟨hi, hu, ?_⟩⟩, fun h8 => ⟨fun h9 => ?_, fun h9 => ⟨hi, hd, ?_⟩⟩⟩, fun h7 => ⟨fun h8 => ?_, fun h8 => ⟨hi, hd, ?_⟩⟩⟩
      · have h7 : sort ≠ 0 := by simpa using h7
        exact absurd (by simpa using h9) h7
      · have h8 : (a :: vs).getD v.toNat 0 = 0 := by simpa using h8
        rw [hget (by omega)] at h8
        unfold FPost; rw [e1 h8]
        exact ⟨by simp, by rw [← hset (by omega)]; exact hup, Keep.upd⟩
      · have h7 : sort ≠ 0 := by simpa using h7
        exact absurd (by simpa using h9) h7
      · have h8 : (a :: vs).getD v.toNat 0 ≠ 0 := by simpa using h8
        have h7 : sort ≠ 0 := by simpa using h7
        rw [hget (by omega)] at h8 ⊢
        unfold FPost; rw [e2 h8]
        refine ⟨?_, h, Keep.refl _ _ _⟩
        refine congrArg (fun b => AV.lit (Value.bool b)) ?_
        show (vs.getD (v - 1).toNat 0 == sort) = decide (sort = 0 ∨ vs.getD (v - 1).toNat 0 = sort)
        by_cases q : vs.getD (v - 1).toNat 0 = sort
        · rw [q]; simp
        · rw [decide_eq_false (by rintro (r | r); exact h7 r; exact q r)]; exact beq_eq_false_iff_ne.2 q
      · have h8 : sort = 0 := by simpa using h8
        by_cases q : vs.getD (v - 1).toNat 0 = 0
        · unfold FPost; rw [e1 q]
          exact ⟨rfl, by rw [eqs q h8]; exact h, Keep.refl _ _ _⟩
        · unfold FPost; rw [e2 q]
          exact ⟨by rw [decide_eq_true (.inl h8)], h, Keep.refl _ _ _⟩
      · have h7 : sort = 0 := by simpa using h7
        rw [h7] at h8; cases h8)

abbrev ts59 : List Nat := [2, 3, 4, 11]
theorem live59 : (firstRegion (loopAt G 59 13)).bind (G.live 59) = some (ts59, [4]) := by kernel_rfl
theorem keep59 (im i v o m w : Int) (ks : List AV) (id n : Nat) (v1 o1 m1 w1 : Int) (ks1 : List AV) (q : Bool) (s u1 s0 : St) :
    (E59x1 im i v o m w ks id n v1 o1 m1 w1 ks1 q s u1).keep ts59 [4] = H59 im (IntKind.wrap .i64 (i + 1)) v o m w ks id n 0 0 0 0 [] true s0 s0 := by kernel_rfl

theorem fits_loop {im v o m w a : Int} {ks : List P} {id n : Nat} (hks : ks.length ≤ 4294967296) (ho : F100r0 o = true) (hkd : ks.length = (kdO o).length) (s0 : St)
    (IH : ∀ k, k ∈ ks → ∀ (sort : Int) (vs : List Int) (s : St), vs.length = n → Has s id ((a :: vs).map li) → ∃ x s', Runs G 59 [enc k, li sort, .rs 3 1 id 0 (vs.length + 1), li im] s x s' ∧ FPost im id a k sort vs s x s') :
    ∀ (j i : Nat) (vs : List Int) (s : St), ks.length = i + j → vs.length = n → Has s id ((a :: vs).map li) → ∀ g : Fr, g.keep ts59 [4] = H59 im i v o m w (encs ks) id (n + 1) 0 0 0 0 [] true s0 s0 →
      ∃ s', Has s' id ((a :: (pvs im (ks.drop i) ((kdO o).drop i) vs).2).map li) ∧ Keep s.next id s s' ∧
        (((pvs im (ks.drop i) ((kdO o).drop i) vs).1 = true ∧ LoopN G 59 (loopAt G 59 13) ts59 [4] g s (.exit 0) (E59x2 im ks.length v o m w (encs ks) id (n + 1) 0 0 0 0 [] true s0 s0) s') ∨
         ((pvs im (ks.drop i) ((kdO o).drop i) vs).1 = false ∧ ∃ i1 v1 o1 m1 w1 ks1, LoopN G 59 (loopAt G 59 13) ts59 [4] g s .ret (E59x0 im i1 v o m w (encs ks) id (n + 1) v1 o1 m1 w1 ks1 false s0 s0) s'))
  | 0, i, vs, s, hi, hn, h, g, hg => by
    have hi : i = ks.length := by omega
    subst hi
    obtain ⟨x, g', s', h', E, K1, K2, K3⟩ := execP_sound sp59_ok (f := 59) (loopAt G 59 13) (H59 im ks.length v o m w (encs ks) id (n + 1) 0 0 0 0 [] true s0 s0) s _ (fun x g' s' _ => x = .exit 0 ∧ g' = E59x2 im ks.length v o m w (encs ks) id (n + 1) 0 0 0 0 [] true s0 s0 ∧ s' = s) (by
      rw [show H59 im ks.length v o m w (encs ks) id (n + 1) 0 0 0 0 [] true s0 s0 = H59 im ks.length v o m w (encs ks) id (n + 1) 0 0 0 0 [] true s s from rfl, round59, encs_len]
      exact ⟨fun h => by have h : (ks.length : Int) < (ks.length : Int) := of_decide_eq_true h; omega, fun _ => ⟨rfl, rfl, rfl⟩⟩)
    subst K1; subst K2; subst K3
    rw [← hg] at E
    have e : pvs im (ks.drop ks.length) ((kdO o).drop ks.length) vs = (true, vs) := by rw [List.drop_length]; unfold pvs; rfl
    rw [e]
    exact ⟨_, h, Keep.refl _ _ _, .inl ⟨rfl, LoopN.last (by simp) E⟩⟩
  | j + 1, i, vs, s, hi, hn, h, g, hg => by
    have hlt : i < ks.length := by omega
    have hlt2 : i < (kdO o).length := by omega
    have hget : ks[i]? = some ks[i] := List.getElem?_eq_getElem hlt
    obtain ⟨v2, o2, m2, w2, ks', hk, hx⟩ := indexAddr_kid (t := 22) (tk := .ro) (by kernel_rfl) hget
    obtain ⟨x, u1, R, rfl, P2, P3⟩ := IH ks[i] (List.getElem_mem hlt) (kdO o)[i] vs s hn h
    rw [List.drop_eq_getElem_cons hlt, List.drop_eq_getElem_cons hlt2]
    unfold pvs
    rw [hn] at R
    generalize hr : pv im ks[i] (kdO o)[i] vs = r at R P2 ⊢
    have hl : r.2.length = n := by rw [← hr, pv_len, hn]
    rw [hk, kdO_get ho hlt2] at R
    obtain ⟨x, g', s', h', E, K⟩ := execP_sound sp59_ok (f := 59) (loopAt G 59 13) (H59 im i v o m w (encs ks) id (n + 1) v2 o2 m2 w2 (encs ks') r.1 s u1) s _ (fun x g' s' _ => s' = u1 ∧ ((r.1 = true ∧ x = .normal ∧ g' = E59x1 im i v o m w (encs ks) id (n + 1) v2 o2 m2 w2 (encs ks') r.1 s u1) ∨ (r.1 = false ∧ x = .ret ∧ g' = E59x0 im i v o m w (encs ks) id (n + 1) v2 o2 m2 w2 (encs ks') r.1 s u1))) (by
      rw [round59]
      exact ⟨fun _ => ⟨hx, R, fun q => ⟨rfl, .inr ⟨by simpa using q, rfl, rfl⟩⟩, fun q => ⟨rfl, .inl ⟨by simpa using q, rfl, rfl⟩⟩⟩, fun h => by rw [encs_len] at h; have h : ¬ (i : Int) < (ks.length : Int) := of_decide_eq_false h; omega⟩)
    have hg' : g.keep ts59 [4] = H59 im i v o m w (encs ks) id (n + 1) v2 o2 m2 w2 (encs ks') r.1 s u1 := hg
    rw [← hg'] at E
    obtain ⟨K0, K⟩ := K
    subst K0
    rcases K with ⟨q, K1, K2⟩ | ⟨q, K1, K2⟩
    · subst K1; subst K2
      rw [if_pos q]
      obtain ⟨s2, L1, L2, L3⟩ := fits_loop hks ho hkd s0 IH j (i + 1) r.2 s' (by omega) hl P2 (E59x1 im i v o m w (encs ks) id (n + 1) v2 o2 m2 w2 (encs ks') r.1 s s') (by
        rw [keep59 _ _ _ _ _ _ _ _ _ _ _ _ _ _ _ _ _ s0, wrap_i64_id (n := (i : Int) + 1) (by omega) (by omega)]
        rfl)
      refine ⟨s2, L1, P3.trans (L2.less P3.next), ?_⟩
      rcases L3 with ⟨q1, L⟩ | ⟨q1, i1, v1, o1, m1, w1, ks1, L⟩
      · exact .inl ⟨q1, LoopN.more E L⟩
      · exact .inr ⟨q1, i1, v1, o1, m1, w1, ks1, LoopN.more E L⟩
    · subst K1; subst K2
      rw [if_neg (by rw [q]; simp)]
      rw [q] at E
      exact ⟨_, P2, P3, .inr ⟨rfl, i, v2, o2, m2, w2, encs ks', LoopN.last (by simp) E⟩⟩

theorem tail59 {o m w im : Int} {F T L1 L2 L3 L4 : Prop} (hF : immO o m w im = false → F) (hT : immO o m w im = true → T ∧ L1 ∧ L2 ∧ L3 ∧ L4) :
    (decide (w < 0) = true → F) ∧ (decide (w < 0) = false → (decide (w > im) = true → F) ∧ (decide (w > im) = false → (decide (w > 0) = true → ((m != 0) = true → F) ∧ ((m != 0) = false → ((!F99r0 o) = true → F) ∧ ((!F99r0 o) = false → ((w == 0) = true → ((!F102r0 o m) = true → F) ∧ ((!F102r0 o m) = false → L1 ∧ T)) ∧ ((w == 0) = false → L2 ∧ T)))) ∧ (decide (w > 0) = false → ((w == 0) = true → ((!F102r0 o m) = true → F) ∧ ((!F102r0 o m) = false → L3 ∧ T)) ∧ ((w == 0) = false → L4 ∧ T)))) := by
  refine ⟨fun h1 => hF ?_, fun h1 => ⟨fun h2 => hF ?_, fun h2 => ⟨fun h3 => ⟨fun h4 => hF ?_, fun h4 => ⟨fun h5 => hF ?_, fun h5 => ⟨fun h6 => ?_, fun _ => ?_⟩⟩⟩, fun h3 => ⟨fun h6 => ⟨fun h7 => hF ?_, fun h7 => ?_⟩, fun h6 => ?_⟩⟩⟩⟩
  · have h1 := of_decide_eq_true h1; unfold immO; rw [if_pos (.inl h1)]
  · have h2 := of_decide_eq_true h2; unfold immO; rw [if_pos (.inr h2)]
  all_goals
    have h1 := of_decide_eq_false h1
    have h2 := of_decide_eq_false h2
    have h12 : ¬ (w < 0 ∨ im < w) := by rintro (q | q); exact h1 q; exact h2 q
  · have h3 := of_decide_eq_true h3
    have h4 : (m == 0) = false := by simpa using h4
    unfold immO; rw [if_neg h12, if_pos h3, h4]; rfl
  · have h3 := of_decide_eq_true h3
    have h5 : F99r0 o = false := by simpa using h5
    unfold immO; rw [if_neg h12, if_pos h3, h5, Bool.and_false]
  · have h3 := of_decide_eq_true h3
    have h6 : w = 0 := by simpa using h6
    omega
  · have h3 := of_decide_eq_true h3
    have h4 : (m == 0) = true := by simpa using h4
    have h5 : F99r0 o = true := by simpa using h5
    obtain ⟨t, l1, l2, l3, l4⟩ := hT (by unfold immO; rw [if_neg h12, if_pos h3, h4, h5]; rfl)
    exact ⟨l2, t⟩
  · have h3 := of_decide_eq_false h3
    have h7 : F102r0 o m = false := by simpa using h7
    unfold immO; rw [if_neg h12, if_neg h3, h7]
  · have h3 := of_decide_eq_false h3
    have h7 : F102r0 o m = true := by simpa using h7
    obtain ⟨t, l1, l2, l3, l4⟩ := hT (by unfold immO; rw [if_neg h12, if_neg h3, h7])
    exact ⟨l3, t⟩
  · have h3 := of_decide_eq_false h3
    have h6 : w ≠ 0 := by simpa using h6
    omega

theorem fits_run (im : Int) : ∀ (p : P), Narrow p → ∀ (sort a : Int) (vs : List Int) (id : Nat) (s : St), Has s id ((a :: vs).map li) →
    ∃ x s', Runs G 59 [enc p, li sort, .rs 3 1 id 0 (vs.length + 1), li im] s x s' ∧ FPost im id a p sort vs s x s'
  | .mk v o m w ks, hp, sort, a, vs, id, s, h => by
    by_cases hv : v = 0
    · subst hv
      unfold Narrow at hp
      have IH : ∀ k, k ∈ ks → ∀ (sort : Int) (vs' : List Int) (s : St), vs'.length = vs.length → Has s id ((a :: vs').map li) → ∃ x s', Runs G 59 [enc k, li sort, .rs 3 1 id 0 (vs'.length + 1), li im] s x s' ∧ FPost im id a k sort vs' s x s' := fun k hk sort vs' s' _ h2 => fits_run im k (hp.2.mem hk) sort a vs' id s' h2
      by_cases hg : F100r0 o = true ∧ ks.length = (kdO o).length ∧ (sort = 0 ∨ F101r0 o = sort) ∧ immO o m w im = true
      · have e : pv im (.mk 0 o m w ks) sort vs = pvs im ks (kdO o) vs := by unfold pv; rw [if_pos rfl, if_pos hg]
        obtain ⟨g1, g2, g3, g4⟩ := hg
        obtain ⟨s2, L1, L2, L3⟩ := fits_loop (v := 0) (m := m) (w := w) hp.1 g1 g2 s IH ks.length 0 vs s (by omega) rfl h { tm := (H59 im ((0 : Nat) : Int) 0 o m w (encs ks) id (vs.length + 1) 0 0 0 0 [] true s s).tm, lo := (H59 im 0 0 o m w (encs ks) id (vs.length + 1) 0 0 0 0 [] true s s).lo, nt := 158 } (by kernel_rfl)
        rw [List.drop_zero, List.drop_zero] at L1 L3
        have nk : ((Int.ofNat (encs ks).length) != F19r0 o) = false := by
          rw [encs_len, show Int.ofNat ks.length = F19r0 o by have := kdO_len g1; rw [← g2] at this; exact this]; simp
        have ns : (sort != 0) = true → (F101r0 o != sort) = false := fun q => by
          have q : sort ≠ 0 := by simpa using q
          rcases g3 with r | r
          · exact absurd r q
          · rw [r]; simp
        have Qt : ∀ b, (pvs im ks (kdO o) vs).1 = b → FPost im id a (.mk 0 o m w ks) sort vs s (.lit (.bool b)) s2 := fun b hb => by
          unfold FPost; rw [e, hb]; exact ⟨rfl, L1, L2⟩
        have hF : immO o m w im = false → ∀ {F : Prop}, F := fun q => by rw [g4] at q; cases q
        rcases L3 with ⟨q1, L⟩ | ⟨q1, i1, v1, o1, m1, w1, ks1, L⟩
        · rw [show (ks.length : Int) = ((encs ks).length : Int) by rw [encs_len]] at L
          refine runs_of_funP sp59a_ok (f := 59) (by kernel_rfl) (Q := FPost im id a (.mk 0 o m w ks) sort vs s) (by
            show funP G sp59a 59 [.agg [li 0, li o, li m, li w, .sl .ro (encs ks)], li sort, .rs 3 1 id 0 (vs.length + 1), li im] s _ _
            rw [tree59a 0 o m w sort im (encs ks) id (vs.length + 1) 0 0 0 0 0 0 0 [] s s s2]
            refine ⟨fun q => (by cases q), fun _ => ⟨fun q => (by rw [g1] at q; cases q), fun _ => ⟨fun q => (by rw [nk] at q; cases q), fun _ => ⟨fun q => ⟨fun r => (by rw [ns q] at r; cases r), fun _ => tail59 (fun q => hF q) (fun _ => ⟨Qt true q1, ExecN.loop live59 (LoopN.of_keep ?_ L), ExecN.loop live59 (LoopN.of_keep ?_ L), ExecN.loop live59 (LoopN.of_keep ?_ L), ExecN.loop live59 (LoopN.of_keep ?_ L)⟩)⟩, fun q => tail59 (fun q => hF q) (fun _ => ⟨Qt true q1, ExecN.loop live59 (LoopN.of_keep ?_ L), ExecN.loop live59 (LoopN.of_keep ?_ L), ExecN.loop live59 (LoopN.of_keep ?_ L), ExecN.loop live59 (LoopN.of_keep ?_ L)⟩)⟩⟩⟩⟩ <;> kernel_rfl)
        · refine runs_of_funP sp59b_ok (f := 59) (by kernel_rfl) (Q := FPost im id a (.mk 0 o m w ks) sort vs s) (by
            show funP G sp59b 59 [.agg [li 0, li o, li m, li w, .sl .ro (encs ks)], li sort, .rs 3 1 id 0 (vs.length + 1), li im] s _ _
            rw [tree59b 0 o m w sort im (encs ks) id (vs.length + 1) 0 0 i1 v1 o1 m1 w1 ks1 s s s2]
            refine ⟨fun q => (by cases q), fun _ => ⟨fun q => (by rw [g1] at q; cases q), fun _ => ⟨fun q => (by rw [nk] at q; cases q), fun _ => ⟨fun q => ⟨fun r => (by rw [ns q] at r; cases r), fun _ => tail59 (fun q => hF q) (fun _ => ⟨Qt false q1, ExecN.loop live59 (LoopN.of_keep ?_ L), ExecN.loop live59 (LoopN.of_keep ?_ L), ExecN.loop live59 (LoopN.of_keep ?_ L), ExecN.loop live59 (LoopN.of_keep ?_ L)⟩)⟩, fun q => tail59 (fun q => hF q) (fun _ => ⟨Qt false q1, ExecN.loop live59 (LoopN.of_keep ?_ L), ExecN.loop live59 (LoopN.of_keep ?_ L), ExecN.loop live59 (LoopN.of_keep ?_ L), ExecN.loop live59 (LoopN.of_keep ?_ L)⟩)⟩⟩⟩⟩ <;> kernel_rfl)
      · have e : pv im (.mk 0 o m w ks) sort vs = (false, vs) := by unfold pv; rw [if_pos rfl, if_neg hg]
        have bad : FPost im id a (.mk 0 o m w ks) sort vs s (.lit (.bool false)) s := by
          unfold FPost; rw [e]; exact ⟨rfl, h, Keep.refl _ _ _⟩
        refine runs_of_funP sp59a_ok (f := 59) (by kernel_rfl) (Q := FPost im id a (.mk 0 o m w ks) sort vs s) (by
          show funP G sp59a 59 [.agg [li 0, li o, li m, li w, .sl .ro (encs ks)], li sort, .rs 3 1 id 0 (vs.length + 1), li im] s _ _
          rw [tree59a 0 o m w sort im (encs ks) id (vs.length + 1) 0 0 0 0 0 0 0 [] s s s, encs_len]
          have go (q1 : (!F100r0 o) = false) (q2 : (Int.ofNat ks.length != F19r0 o) = false) (q3 : sort = 0 ∨ F101r0 o = sort) (q4 : immO o m w im = true) : F100r0 o = true ∧ ks.length = (kdO o).length ∧ (sort = 0 ∨ F101r0 o = sort) ∧ immO o m w im = true := by
            have q1 : F100r0 o = true := by simpa using q1
            refine ⟨q1, ?_, q3, q4⟩
            have := kdO_len q1
            have q2 := bne_eq_false_iff_eq.1 q2
            rw [← this] at q2; exact Int.ofNat.inj q2
          exact ⟨fun q => (by cases q), fun _ => ⟨fun _ => bad, fun q1 => ⟨fun _ => bad, fun q2 => ⟨fun q => ⟨fun r => bad, fun r => tail59 (fun _ => bad) (fun q4 => absurd (go q1 q2 (.inr (by simpa using r)) q4) hg)⟩, fun r => tail59 (fun _ => bad) (fun q4 => absurd (go q1 q2 (.inl (by simpa using r)) q4) hg)⟩⟩⟩⟩)
    · exact fits_var hv sort h
end
end Go.Vm
