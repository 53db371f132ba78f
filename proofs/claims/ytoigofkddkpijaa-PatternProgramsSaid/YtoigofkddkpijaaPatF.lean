/-
  The Pattern functions: what they do, proved; no conditions but those that the theorems name.
-/
import Derived.Test.YtoigofkddkpijaaPatE
import Derived.Test.YtoigofkddkpijaaPatW
namespace Go.Vm
noncomputable section
/-! ### Rows of words -/
theorem indexAddr_row {id n : Nat} {i : Int} (h0 : 0 ≤ i) (h1 : i.toNat < n) : indexAddr G 26 (.rs 3 1 id 0 n) (li i) = some (.hp id i.toNat) := by
  obtain ⟨ti, ei, t1, t2, t3, t4⟩ := sliceOfB_of (show sliceOfB G 26 3 1 = true by kernel_rfl)
  have hb : Nat.blt i.toNat n = true := by rw [Nat.blt_eq]; exact h1
  simp only [indexAddr, li, t1, asNat, if_pos h0, t2, t3, t4, hb, cond_true, Nat.zero_add, Nat.mul_one]
def scalB (Γ : Ctx) (t : TypeId) : Bool := match Γ.ty t with | some i => !i.isAgg && Nat.beq i.size 1 | none => false
theorem scalB_of {Γ : Ctx} {t : TypeId} (h : scalB Γ t = true) : ∃ i, Γ.ty t = some i ∧ i.isAgg = false ∧ i.size = 1 := by
  unfold scalB at h
  split at h
  · rename_i i hi
    simp only [Bool.and_eq_true, Bool.not_eq_true'] at h
    exact ⟨i, hi, h.1, Nat.eq_of_beq_eq_true h.2⟩
  · cases h
theorem getD_get {vs : List Int} {x : Nat} (h : x < vs.length) : vs[x]? = some (vs.getD x 0) := by
  rw [List.getD_eq_getElem?_getD, List.getElem?_eq_getElem h]; rfl
theorem load_row {s : St} {id x : Nat} {vs : List Int} (h : Has s id (vs.map li)) (hx : x < vs.length) : loadAt G 3 (deref Fr.empty s (.hp id x)) = some (li (vs.getD x 0)) := by
  obtain ⟨i, h1, h2, _⟩ := scalB_of (show scalB G 3 = true by kernel_rfl)
  refine loadAt_hp h ?_
  have : (vs.map li)[x]? = some (li (vs.getD x 0)) := by rw [List.getElem?_map, getD_get hx]; rfl
  simp only [loadAt, h1, partAt, h2, cond_false, this]
theorem store_row {s : St} {id x : Nat} {vs : List Int} (h : Has s id (vs.map li)) (hx : x < vs.length) (y : Int) : storeB G s 3 (.hp id x) (li y) = some (s.upd id ((vs.set x y).map li)) := by
  obtain ⟨i, h1, _, h2⟩ := scalB_of (show scalB G 3 = true by kernel_rfl)
  have := storeB_upd (Γ := G) (t := 3) (off := x) (v := li y) h h1 (by rw [h2]; rfl) (Nat.ble_eq_true_of_le (by simp [li, AV.cells]; omega))
  rw [this, show setAll (vs.map li) x (li y).cells = (vs.map li).set x (li y) from rfl, List.map_set]

/-! ### Valid -/
mutual
/-- Is it valid in this position, with these sorts of the variables? What sorts they have behind it. -/
def pv (im : Int) : P → Int → List Int → Bool × List Int
  | .mk v o m w ks, sort, vs =>
    if v = 0 then
      if F100r0 o = true ∧ ks.length = (kdO o).length ∧ (sort = 0 ∨ F101r0 o = sort) ∧ immO o m w im = true then pvs im ks (kdO o) vs else (false, vs)
    else if v < 1 ∨ (vs.length : Int) < v ∨ o ≠ 0 ∨ m ≠ 0 ∨ w ≠ 0 ∨ ks.length ≠ 0 then (false, vs)
    else if vs.getD (v - 1).toNat 0 = 0 then (true, vs.set (v - 1).toNat sort)
    else (decide (sort = 0 ∨ vs.getD (v - 1).toNat 0 = sort), vs)
def pvs (im : Int) : List P → List Int → List Int → Bool × List Int
  | k :: ks, d :: ds, vs => if (pv im k d vs).1 = true then pvs im ks ds (pv im k d vs).2 else (false, (pv im k d vs).2)
  | _, _, vs => (true, vs)
end
mutual
theorem pv_len (im : Int) : ∀ (p : P) (sort : Int) (vs : List Int), (pv im p sort vs).2.length = vs.length
  | .mk v o m w ks, sort, vs => by
    unfold pv
    split
    · split
      · exact pvs_len im ks (kdO o) vs
      · rfl
    · split
      · rfl
      · split
        · exact List.length_set
        · rfl
theorem pvs_len (im : Int) : ∀ (ks : List P) (ds vs : List Int), (pvs im ks ds vs).2.length = vs.length
  | [], ds, vs => by unfold pvs; rfl
  | k :: ks, [], vs => by unfold pvs; rfl
  | k :: ks, d :: ds, vs => by
    unfold pvs
    split
    · rw [pvs_len im ks ds, pv_len im k]
    · exact pv_len im k d vs
end

/-- What a call of valid brings. -/
def VPost (im : Int) (id : Nat) (p : P) (sort : Int) (vs : List Int) (s : St) (v : AV) (s' : St) : Prop := v = .lit (.bool (pv im p sort vs).1) ∧ Has s' id ((pv im p sort vs).2.map li) ∧ Keep s.next id s s'

theorem valid_var {im : Int} {v o m w : Int} {ks : List P} (hv : v ≠ 0) (sort : Int) {vs : List Int} {id : Nat} {s : St} (h : Has s id (vs.map li)) (hn : vs.length ≤ 1000) :
    ∃ x s', Runs G 56 [enc (.mk v o m w ks), li sort, li im, .rs 3 1 id 0 vs.length] s x s' ∧ VPost im id (.mk v o m w ks) sort vs s x s' := by
  have hv' : (v != 0) = true := by simpa using hv
  have bad (hb : v < 1 ∨ (vs.length : Int) < v ∨ o ≠ 0 ∨ m ≠ 0 ∨ w ≠ 0 ∨ ks.length ≠ 0) : VPost im id (.mk v o m w ks) sort vs s (.lit (.bool false)) s := by
    have e : pv im (.mk v o m w ks) sort vs = (false, vs) := by unfold pv; rw [if_neg hv, if_pos hb]
    unfold VPost; rw [e]; exact ⟨rfl, h, Keep.refl _ _ _⟩
  refine runs_of_funP sp56a_ok (f := 56) (by kernel_rfl) (Q := VPost im id (.mk v o m w ks) sort vs s) (by
    show funP G sp56a 56 [.agg [li v, li o, li m, li w, .sl .ro (encs ks)], li sort, li im, .rs 3 1 id 0 vs.length] s _ _
    rw [tree56a v o m w sort im (encs ks) id vs.length (v - 1).toNat (vs.getD (v - 1).toNat 0) 0 [] true true 0 0 0 0 0 0 [] s (s.upd id ((vs.set (v - 1).toNat sort).map li)) s]
    refine ⟨fun _ => ⟨fun h1 => bad (.inl (of_decide_eq_true h1)), fun h1 => ⟨fun h2 => bad (.inr (.inl (of_decide_eq_true h2))), fun h2 => ⟨fun h3 => bad (.inr (.inr (.inl (by simpa using h3)))), fun h3 => ⟨fun h4 => bad (.inr (.inr (.inr (.inl (by simpa using h4))))), fun h4 => ⟨fun h5 => bad (.inr (.inr (.inr (.inr (.inl (by simpa using h5)))))), fun h5 => ⟨fun h6 => bad (.inr (.inr (.inr (.inr (.inr ?_))))), fun h6 => ?_⟩⟩⟩⟩⟩⟩, fun h => by rw [hv'] at h; cases h⟩
    · have := of_decide_eq_true h6
      rw [encs_len] at this
      intro e; rw [e] at this; exact absurd this (by decide)
    · have h1 := of_decide_eq_false h1
      have h2 := of_decide_eq_false h2
      have h6 := of_decide_eq_false h6
      rw [encs_len] at h6
      have hc : ¬ (v < 1 ∨ (vs.length : Int) < v ∨ o ≠ 0 ∨ m ≠ 0 ∨ w ≠ 0 ∨ ks.length ≠ 0) := by
        rintro (q | q | q | q | q | q)
        · exact h1 q
        · exact h2 q
        · exact q (by simpa using h3)
        · exact q (by simpa using h4)
        · exact q (by simpa using h5)
        · exact h6 (by show (0 : Int) < ((ks.length : Nat) : Int); omega)
      have h2' : v ≤ (vs.length : Int) := by have : ¬ v > ((vs.length : Nat) : Int) := h2; omega
      have hx : (v - 1).toNat < vs.length := by omega
      have hi : indexAddr G 26 (.rs 3 1 id 0 vs.length) (.lit (.int .i64 (IntKind.wrap .i64 (v - 1)))) = some (.hp id (v - 1).toNat) := by
        rw [wrap_i64_id (by omega) (by omega)]; exact indexAddr_row (by omega) hx
      refine ⟨hi, load_row h hx, fun h7 => ⟨hi, store_row h hx sort, ?_⟩, fun h7 => ⟨fun h8 => ⟨fun h9 => ?_, fun h9 => ?_⟩, fun h8 => ?_⟩⟩
      · have e : pv im (.mk v o m w ks) sort vs = (true, vs.set (v - 1).toNat sort) := by unfold pv; rw [if_neg hv, if_neg hc, if_pos (by simpa using h7)]
        unfold VPost; rw [e]; exact ⟨rfl, h.upd, Keep.upd⟩
      all_goals
        have e : pv im (.mk v o m w ks) sort vs = (decide (sort = 0 ∨ vs.getD (v - 1).toNat 0 = sort), vs) := by unfold pv; rw [if_neg hv, if_neg hc, if_neg (by simpa using h7)]
        unfold VPost; rw [e]
      · have h8 : sort ≠ 0 := by simpa using h8
        have h9 : sort ≠ vs.getD (v - 1).toNat 0 := by simpa using h9
        rw [decide_eq_false (by rintro (q | q); exact h8 q; exact h9 q.symm)]
        exact ⟨rfl, h, Keep.refl _ _ _⟩
      · have h9 : sort = vs.getD (v - 1).toNat 0 := by simpa using h9
        rw [decide_eq_true (.inr h9.symm)]
        exact ⟨rfl, h, Keep.refl _ _ _⟩
      · have h8 : sort = 0 := by simpa using h8
        rw [decide_eq_true (.inl h8)]
        exact ⟨rfl, h, Keep.refl _ _ _⟩)

abbrev ts56 : List Nat := [2, 3, 10, 103, 104, 105]
theorem live56 : (firstRegion (loopAt G 56 14)).bind (G.live 56) = some (ts56, []) := by kernel_rfl
theorem keep56 (im len i sort : Int) (ks : List AV) (kd : List Int) (id n : Nat) (v1 o1 m1 w1 : Int) (ks1 : List AV) (q : Bool) (s u1 s0 : St) :
    (E56x1 im len i sort ks kd id n v1 o1 m1 w1 ks1 q s u1).keep ts56 [] = H56 im len (IntKind.wrap .i64 (i + 1)) 0 ks kd id n 0 0 0 0 [] true s0 s0 := by kernel_rfl
theorem indexAddr_word {t : TypeId} {tk : Tok} {ds : List Int} {i : Nat} (ht : elemSize G t = some 1) (h : i < ds.length) : indexAddr G t (.sl tk (ds.map li)) (.lit (.int .i64 i)) = some (.vp [.lit (.int .i64 ds[i])] 0) :=
  indexAddr_sl (v := li ds[i]) ht (Int.natCast_nonneg i) (by rw [Int.toNat_natCast, List.getElem?_map, List.getElem?_eq_getElem h]; rfl)

theorem valid_loop {im : Int} {ks : List P} {kd : List Int} {id n : Nat} (hks : ks.length ≤ 4294967296) (hkd : ks.length = kd.length) (s0 : St)
    (IH : ∀ k, k ∈ ks → ∀ (sort : Int) (vs : List Int) (s : St), vs.length = n → Has s id (vs.map li) → ∃ x s', Runs G 56 [enc k, li sort, li im, .rs 3 1 id 0 vs.length] s x s' ∧ VPost im id k sort vs s x s') :
    ∀ (j i : Nat) (vs : List Int) (s : St), ks.length = i + j → vs.length = n → Has s id (vs.map li) → ∀ g : Fr, g.keep ts56 [] = H56 im ks.length i 0 (encs ks) kd id n 0 0 0 0 [] true s0 s0 →
      ∃ s', Has s' id ((pvs im (ks.drop i) (kd.drop i) vs).2.map li) ∧ Keep s.next id s s' ∧
        (((pvs im (ks.drop i) (kd.drop i) vs).1 = true ∧ LoopN G 56 (loopAt G 56 14) ts56 [] g s (.exit 0) (E56x2 im ks.length ks.length 0 (encs ks) kd id n 0 0 0 0 [] true s0 s0) s') ∨
         ((pvs im (ks.drop i) (kd.drop i) vs).1 = false ∧ ∃ i1 so1 v1 o1 m1 w1 ks1, LoopN G 56 (loopAt G 56 14) ts56 [] g s .ret (E56x0 im ks.length i1 so1 (encs ks) kd id n v1 o1 m1 w1 ks1 false s0 s0) s'))
  | 0, i, vs, s, hi, hn, h, g, hg => by
    have hi : i = ks.length := by omega
    subst hi
    obtain ⟨x, g', s', h', E, K1, K2, K3⟩ := execP_sound sp56_ok (f := 56) (loopAt G 56 14) (H56 im ks.length ks.length 0 (encs ks) kd id n 0 0 0 0 [] true s0 s0) s _ (fun x g' s' _ => x = .exit 0 ∧ g' = E56x2 im ks.length ks.length 0 (encs ks) kd id n 0 0 0 0 [] true s0 s0 ∧ s' = s) (by
      rw [show H56 im ks.length ks.length 0 (encs ks) kd id n 0 0 0 0 [] true s0 s0 = H56 im ks.length ks.length 0 (encs ks) kd id n 0 0 0 0 [] true s s from rfl, round56]
      exact ⟨fun h => by have := of_decide_eq_true h; omega, fun _ => ⟨rfl, rfl, rfl⟩⟩)
    subst K1; subst K2; subst K3
    rw [← hg] at E
    have e : pvs im (ks.drop ks.length) (kd.drop ks.length) vs = (true, vs) := by rw [List.drop_length]; unfold pvs; rfl
    rw [e]
    exact ⟨_, h, Keep.refl _ _ _, .inl ⟨rfl, LoopN.last (by simp) E⟩⟩
  | j + 1, i, vs, s, hi, hn, h, g, hg => by
    have hlt : i < ks.length := by omega
    have hlt2 : i < kd.length := by omega
    have hget : ks[i]? = some ks[i] := List.getElem?_eq_getElem hlt
    obtain ⟨v, o, m, w, ks', hk, hx⟩ := indexAddr_kid (t := 22) (tk := .ro) (by kernel_rfl) hget
    obtain ⟨x, u1, R, rfl, P2, P3⟩ := IH ks[i] (List.getElem_mem hlt) kd[i] vs s hn h
    rw [List.drop_eq_getElem_cons hlt, List.drop_eq_getElem_cons hlt2]
    unfold pvs
    rw [hn] at R
    generalize hr : pv im ks[i] kd[i] vs = r at R P2 ⊢
    have hl : r.2.length = n := by rw [← hr, pv_len, hn]
    rw [hk] at R
    obtain ⟨x, g', s', h', E, K⟩ := execP_sound sp56_ok (f := 56) (loopAt G 56 14) (H56 im ks.length i kd[i] (encs ks) kd id n v o m w (encs ks') r.1 s u1) s _ (fun x g' s' _ => s' = u1 ∧ ((r.1 = true ∧ x = .normal ∧ g' = E56x1 im ks.length i kd[i] (encs ks) kd id n v o m w (encs ks') r.1 s u1) ∨ (r.1 = false ∧ x = .ret ∧ g' = E56x0 im ks.length i kd[i] (encs ks) kd id n v o m w (encs ks') r.1 s u1))) (by
      rw [round56]
      exact ⟨fun _ => ⟨hx, indexAddr_word (by kernel_rfl) hlt2, R, fun q => ⟨rfl, .inr ⟨by simpa using q, rfl, rfl⟩⟩, fun q => ⟨rfl, .inl ⟨by simpa using q, rfl, rfl⟩⟩⟩, fun h => by have := of_decide_eq_false h; omega⟩)
    have hg' : g.keep ts56 [] = H56 im ks.length i kd[i] (encs ks) kd id n v o m w (encs ks') r.1 s u1 := hg
    rw [← hg'] at E
    obtain ⟨K0, K⟩ := K
    subst K0
    rcases K with ⟨q, K1, K2⟩ | ⟨q, K1, K2⟩
    · subst K1; subst K2
      rw [if_pos q]
      obtain ⟨s2, L1, L2, L3⟩ := valid_loop hks hkd s0 IH j (i + 1) r.2 s' (by omega) hl P2 (E56x1 im ks.length i kd[i] (encs ks) kd id n v o m w (encs ks') r.1 s s') (by
        rw [keep56 _ _ _ _ _ _ _ _ _ _ _ _ _ _ _ _ s0, wrap_i64_id (n := (i : Int) + 1) (by omega) (by omega)]
        rfl)
      refine ⟨s2, L1, P3.trans (L2.less P3.next), ?_⟩
      rcases L3 with ⟨q1, L⟩ | ⟨q1, i1, so1, v1, o1, m1, w1, ks1, L⟩
      · exact .inl ⟨q1, LoopN.more E L⟩
      · exact .inr ⟨q1, i1, so1, v1, o1, m1, w1, ks1, LoopN.more E L⟩
    · subst K1; subst K2
      rw [if_neg (by rw [q]; simp)]
      rw [q] at E
      exact ⟨_, P2, P3, .inr ⟨rfl, i, kd[i], v, o, m, w, encs ks', LoopN.last (by simp) E⟩⟩

theorem valid_run {im : Int} (him : 0 ≤ im) : ∀ (p : P), Narrow p → ∀ (sort : Int) (vs : List Int) (id : Nat) (s : St), vs.length ≤ 1000 → Has s id (vs.map li) →
    ∃ x s', Runs G 56 [enc p, li sort, li im, .rs 3 1 id 0 vs.length] s x s' ∧ VPost im id p sort vs s x s'
  | .mk v o m w ks, hp, sort, vs, id, s, hn, h => by
    by_cases hv : v = 0
    · subst hv
      unfold Narrow at hp
      have IH : ∀ k, k ∈ ks → ∀ (sort : Int) (vs' : List Int) (s : St), vs'.length = vs.length → Has s id (vs'.map li) → ∃ x s', Runs G 56 [enc k, li sort, li im, .rs 3 1 id 0 vs'.length] s x s' ∧ VPost im id k sort vs' s x s' := fun k hk sort vs' s' h1 h2 => valid_run him k (hp.2.mem hk) sort vs' id s' (by omega) h2
      have him' : F100r0 o = true → Runs G 98 [.agg [li 0, li o, li m, li w, .sl .ro (encs ks)], li im] s (.lit (.bool (immO o m w im))) s := fun ho => imm_run s ho him 0 m w (encs ks)
      by_cases hg : F100r0 o = true ∧ ks.length = (kdO o).length ∧ (sort = 0 ∨ F101r0 o = sort) ∧ immO o m w im = true
      · have e : pv im (.mk 0 o m w ks) sort vs = pvs im ks (kdO o) vs := by unfold pv; rw [if_pos rfl, if_pos hg]
        obtain ⟨g1, g2, g3, g4⟩ := hg
        have hown : ownO o = F101r0 o := by unfold ownO; rw [if_pos g1]
        have R98 := him' g1
        have R97 := sorts_run s o
        rw [g1] at R97
        rw [g4] at R98
        obtain ⟨s2, L1, L2, L3⟩ := valid_loop hp.1 g2 s IH ks.length 0 vs s (by omega) rfl h { tm := (H56 im ks.length ((0 : Nat) : Int) 0 (encs ks) (kdO o) id vs.length 0 0 0 0 [] true s s).tm, lo := (H56 im ks.length 0 0 (encs ks) (kdO o) id vs.length 0 0 0 0 [] true s s).lo, nt := 120 } (by kernel_rfl)
        rw [List.drop_zero, List.drop_zero] at L1 L3
        have nk : ((Int.ofNat ks.length) != Int.ofNat ((kdO o).map li).length) = false := by
          rw [List.length_map, g2]; simp
        have ns : (sort != 0) = true → (sort != ownO o) = false := fun q => by
          have q : sort ≠ 0 := by simpa using q
          rcases g3 with r | r
          · exact absurd r q
          · rw [hown, r]; simp
        have Qt : ∀ b, (pvs im ks (kdO o) vs).1 = b → VPost im id (.mk 0 o m w ks) sort vs s (.lit (.bool b)) s2 := fun b hb => by
          unfold VPost; rw [e, hb]; exact ⟨rfl, L1, L2⟩
        rcases L3 with ⟨q1, L⟩ | ⟨q1, i1, so1, v1, o1, m1, w1, ks1, L⟩
        · refine runs_of_funP sp56a_ok (f := 56) (by kernel_rfl) (Q := VPost im id (.mk 0 o m w ks) sort vs s) (by
            show funP G sp56a 56 [.agg [li 0, li o, li m, li w, .sl .ro (encs ks)], li sort, li im, .rs 3 1 id 0 vs.length] s _ _
            rw [tree56a 0 o m w sort im (encs ks) id vs.length 0 0 (ownO o) (kdO o) true true 0 0 0 0 0 0 [] s s s2, encs_len]
            refine ⟨fun q => (by cases q), fun _ => ⟨R97, fun q => (by cases q), fun _ => ⟨fun q => (by rw [nk] at q; cases q), fun _ => ⟨fun q => ⟨fun r => (by rw [ns q] at r; cases r), fun _ => ⟨R98, fun q => (by cases q), fun _ => ⟨ExecN.loop live56 (LoopN.of_keep ?_ L), Qt true q1⟩⟩⟩, fun _ => ⟨R98, fun q => (by cases q), fun _ => ⟨ExecN.loop live56 (LoopN.of_keep ?_ L), Qt true q1⟩⟩⟩⟩⟩⟩ <;> kernel_rfl)
        · refine runs_of_funP sp56b_ok (f := 56) (by kernel_rfl) (Q := VPost im id (.mk 0 o m w ks) sort vs s) (by
            show funP G sp56b 56 [.agg [li 0, li o, li m, li w, .sl .ro (encs ks)], li sort, li im, .rs 3 1 id 0 vs.length] s _ _
            rw [tree56b 0 o m w sort im (encs ks) id vs.length 0 0 (ownO o) (kdO o) true true i1 so1 v1 o1 m1 w1 ks1 s s s2, encs_len]
            refine ⟨fun q => (by cases q), fun _ => ⟨R97, fun q => (by cases q), fun _ => ⟨fun q => (by rw [nk] at q; cases q), fun _ => ⟨fun q => ⟨fun r => (by rw [ns q] at r; cases r), fun _ => ⟨R98, fun q => (by cases q), fun _ => ⟨ExecN.loop live56 (LoopN.of_keep ?_ L), Qt false q1⟩⟩⟩, fun _ => ⟨R98, fun q => (by cases q), fun _ => ⟨ExecN.loop live56 (LoopN.of_keep ?_ L), Qt false q1⟩⟩⟩⟩⟩⟩ <;> kernel_rfl)
      · have e : pv im (.mk 0 o m w ks) sort vs = (false, vs) := by unfold pv; rw [if_pos rfl, if_neg hg]
        have bad : VPost im id (.mk 0 o m w ks) sort vs s (.lit (.bool false)) s := by
          unfold VPost; rw [e]; exact ⟨rfl, h, Keep.refl _ _ _⟩
        refine runs_of_funP sp56a_ok (f := 56) (by kernel_rfl) (Q := VPost im id (.mk 0 o m w ks) sort vs s) (by
          show funP G sp56a 56 [.agg [li 0, li o, li m, li w, .sl .ro (encs ks)], li sort, li im, .rs 3 1 id 0 vs.length] s _ _
          rw [tree56a 0 o m w sort im (encs ks) id vs.length 0 0 (ownO o) (kdO o) (F100r0 o) (immO o m w im) 0 0 0 0 0 0 [] s s s]
          refine ⟨fun q => (by cases q), fun _ => ⟨sorts_run s o, fun _ => bad, fun q1 => ⟨fun _ => bad, fun q2 => ⟨fun q => ⟨fun r => bad, fun r => ⟨him' (by simpa using q1), fun _ => bad, fun q3 => absurd ?_ hg⟩⟩, fun r => ⟨him' (by simpa using q1), fun _ => bad, fun q3 => absurd ?_ hg⟩⟩⟩⟩⟩
          all_goals
            have q1 : F100r0 o = true := by simpa using q1
            have hown : ownO o = F101r0 o := by unfold ownO; rw [if_pos q1]
            refine ⟨q1, ?_, ?_, by simpa using q3⟩
          · rw [encs_len, List.length_map] at q2; have q2 := bne_eq_false_iff_eq.1 q2; exact Int.ofNat.inj q2
          · have r : sort = ownO o := by simpa using r
            exact .inr (by rw [r, hown])
          · rw [encs_len, List.length_map] at q2; have q2 := bne_eq_false_iff_eq.1 q2; exact Int.ofNat.inj q2
          · exact .inl (by simpa using r))
    · exact valid_var hv sort h hn
end
end Go.Vm
