/-
  The Pattern functions: what they do, proved; no conditions but those that the theorems name.
-/
import Derived.Test.YtoigofkddkpijaaPatB
namespace Go.Vm
noncomputable section
theorem loop58 {b d : Nat} {l deep vars : Int} {st : Bool} (hd : 0 ≤ deep ∧ deep ≤ 10)
    (IH : ∀ (s : St) (zs : List Int) (sort : Int), Words zs → Rd s b zs l → ∃ v s', Runs G 58 [.hp b 0, li sort, li (deep + 1), li vars, .lit (.bool st)] s v s' ∧ PostP d b l s v s')
    (m : Int) (z : List AV) (s0 t0 : St) (zs : List Int) (hw : Words zs) (hr : Rd t0 b zs l) (op : Int) :
    ∃ (tk' : Tok) (ks' : List P) (s' : St), 4 ≤ op → op ≤ 29 → (∀ g : Fr, g.keep ts58 ls58 = H58 b deep vars m (F19r0 op) 0 op st z .nil [] 0 0 0 0 [] s0 s0 s0 →
      ExecN G 58 (.loop (loopAt G 58 19)) g t0 (.exit 0) (E58x1 b deep vars m (F19r0 op) (F19r0 op) op st z tk' (encs ks') 0 0 0 0 [] s0 s0 s0) s') ∧ ks'.length ≤ 3 ∧ Smalls d ks' ∧ ∃ zs', Words zs' ∧ Rd s' b zs' l ∧ Keep t0.next b t0 s' := by
  by_cases h0 : 4 ≤ op
  · by_cases h1 : op ≤ 29
    · obtain ⟨a0, a1⟩ := arity_small h0 h1
      have har : F19r0 op = ((F19r0 op).toNat : Int) := by omega
      obtain ⟨tk', ks', s', zs', L, e1, e2, e3, e4, e5⟩ := kids_run hd IH m op z (F19r0 op).toNat t0.next (by omega) s0 (F19r0 op).toNat 0 [] .nil t0 zs (by omega) rfl (by unfold Smalls; trivial) hw hr (.inl ⟨rfl, rfl⟩) (Nat.le_refl _)
        { tm := (H58 b deep vars m ((F19r0 op).toNat : Int) 0 op st z .nil [] 0 0 0 0 [] s0 s0 s0).tm, lo := (H58 b deep vars m ((F19r0 op).toNat : Int) 0 op st z .nil [] 0 0 0 0 [] s0 s0 s0).lo, nt := 121 } (by kernel_rfl)
      refine ⟨tk', ks', s', fun _ _ => ⟨fun g hg => ?_, by omega, e2, zs', e3, e4, e5⟩⟩
      refine ExecN.loop live58 ?_
      rw [har]
      refine LoopN.of_keep ?_ L
      rw [hg, har]
      kernel_rfl
    · exact ⟨.nil, [], t0, fun _ h => absurd h h1⟩
  · exact ⟨.nil, [], t0, fun h => absurd h h0⟩

set_option maxRecDepth 100000 in
set_option maxHeartbeats 1000000 in
theorem pattern_run {b : Nat} {l vars : Int} {st : Bool} (hv : 1 ≤ vars ∧ vars ≤ 4) : ∀ (d : Nat) (deep : Int), deep + d = 3 → 0 ≤ deep → ∀ (s : St) (zs : List Int) (sort : Int), Words zs → Rd s b zs l →
    ∃ v s', Runs G 58 [.hp b 0, li sort, li deep, li vars, .lit (.bool st)] s v s' ∧ PostP (d + 1) b l s v s' := by
  intro d
  induction d with
  | zero =>
    intro deep hd hd0 s zs sort hw hr
    obtain ⟨n, zs1, t0, R, wn, hw1, hr1, hk1, _⟩ := next_run hr hw
    have hm := F22_eq' (n := IntKind.wrap .i64 (n.tdiv 12)) (m := 1000) (by decide) (by decide)
    have leaf : ∀ v o m w : Int, W v → W o → W m → W w → PostP 1 b l s (.agg [.lit (.int .i64 v), .lit (.int .i64 o), .lit (.int .i64 m), .lit (.int .i64 w), .sl .ro []]) t0 := fun v o m w h1 h2 h3 h4 =>
      ⟨.mk v o m w [], zs1, rfl, by unfold Small; exact ⟨h1, h2, h3, h4, by simp, by unfold Smalls; trivial⟩, hw1, hr1, hk1⟩
    have hdeep : deep > 2 := by omega
    refine runs_of_funP sp58t_ok (f := 58) (by kernel_rfl) (Q := PostP 1 b l s) (by
      rw [tree58t b sort deep vars st n (fun _ => .nil) (fun _ => []) (fun _ => s) s t0]
      refine ⟨R, fun _ => ?_, fun h => absurd hdeep (of_decide_eq_false h)⟩
      repeat' (first | apply And.intro | intro)
      all_goals first
        | exact bin_rem (by omega)
        | (split <;> exact bin_rem (by omega))
        | (refine leaf _ _ _ _ ?_ ?_ ?_ ?_ <;> first | exact W.wrap _ | exact F39_W wn | (unfold W; omega)))
  | succ d ih =>
    intro deep hd hd0 s zs sort hw hr
    obtain ⟨n, zs1, t0, R, wn, hw1, hr1, hk1, hnx⟩ := next_run hr hw
    have hm := F22_eq' (n := IntKind.wrap .i64 (n.tdiv 12)) (m := 1000) (by decide) (by decide)
    have IH : ∀ (s : St) (zs : List Int) (sort : Int), Words zs → Rd s b zs l → ∃ v s', Runs G 58 [.hp b 0, li sort, li (deep + 1), li vars, .lit (.bool st)] s v s' ∧ PostP (d + 1) b l s v s' := fun s zs sort h1 h2 => ih (deep + 1) (by omega) (by omega) s zs sort h1 h2
    have L := loop58 (d := d + 1) (vars := vars) (st := st) ⟨hd0, by omega⟩ IH (F22r0 (IntKind.wrap .i64 (n.tdiv 12)) 1000) [li 0, li 0, li 0, li 0, .sl .nil []] s t0 zs1 hw1 hr1
    obtain ⟨tkF, ksF, sF, hF⟩ : ∃ (tkF : Int → Tok) (ksF : Int → List P) (sF : Int → St), ∀ op, 4 ≤ op → op ≤ 29 → (∀ g : Fr, g.keep ts58 ls58 = H58 b deep vars (F22r0 (IntKind.wrap .i64 (n.tdiv 12)) 1000) (F19r0 op) 0 op st [li 0, li 0, li 0, li 0, .sl .nil []] .nil [] 0 0 0 0 [] s s s →
        ExecN G 58 (.loop (loopAt G 58 19)) g t0 (.exit 0) (E58x1 b deep vars (F22r0 (IntKind.wrap .i64 (n.tdiv 12)) 1000) (F19r0 op) (F19r0 op) op st [li 0, li 0, li 0, li 0, .sl .nil []] (tkF op) (encs (ksF op)) 0 0 0 0 [] s s s) (sF op)) ∧ (ksF op).length ≤ 3 ∧ Smalls (d + 1) (ksF op) ∧ ∃ zs', Words zs' ∧ Rd (sF op) b zs' l ∧ Keep t0.next b t0 (sF op) :=
      ⟨fun op => Classical.choose (L op), fun op => Classical.choose (Classical.choose_spec (L op)), fun op => Classical.choose (Classical.choose_spec (Classical.choose_spec (L op))), fun op => Classical.choose_spec (Classical.choose_spec (Classical.choose_spec (L op)))⟩
    have leaf : ∀ v o m w : Int, W v → W o → W m → W w → PostP (d + 2) b l s (.agg [.lit (.int .i64 v), .lit (.int .i64 o), .lit (.int .i64 m), .lit (.int .i64 w), .sl .ro []]) t0 := fun v o m w h1 h2 h3 h4 =>
      ⟨.mk v o m w [], zs1, rfl, by unfold Small; exact ⟨h1, h2, h3, h4, by simp, by unfold Smalls; trivial⟩, hw1, hr1, hk1⟩
    have leafK : ∀ v o m w op : Int, W v → W o → W m → W w → 4 ≤ op → op ≤ 29 → PostP (d + 2) b l s (.agg [.lit (.int .i64 v), .lit (.int .i64 o), .lit (.int .i64 m), .lit (.int .i64 w), .sl .ro (encs (ksF op))]) (sF op) := fun v o m w op h1 h2 h3 h4 h5 h6 => by
      obtain ⟨_, k1, k2, zs', k3, k4, k5⟩ := hF op h5 h6
      exact ⟨.mk v o m w (ksF op), zs', rfl, by unfold Small; exact ⟨h1, h2, h3, h4, k1, k2⟩, k3, k4, hk1.trans (k5.less (by omega))⟩
    have hx : ∀ op, 4 ≤ op → op ≤ 29 → ∀ g : Fr, g.keep ts58 ls58 = H58 b deep vars (F22r0 (IntKind.wrap .i64 (n.tdiv 12)) 1000) (F19r0 op) 0 op st [li 0, li 0, li 0, li 0, .sl .nil []] .nil [] 0 0 0 0 [] s s s →
        ExecN G 58 (.loop (loopAt G 58 19)) g t0 (.exit 0) (E58x1 b deep vars (F22r0 (IntKind.wrap .i64 (n.tdiv 12)) 1000) (F19r0 op) (F19r0 op) op st [li 0, li 0, li 0, li 0, .sl .nil []] (tkF op) (encs (ksF op)) 0 0 0 0 [] s s s) (sF op) := fun op h1 h2 => (hF op h1 h2).1
    refine runs_of_funP sp58t_ok (f := 58) (by kernel_rfl) (Q := PostP (d + 2) b l s) (by
      rw [tree58t b sort deep vars st n tkF (fun op => encs (ksF op)) sF s t0]
      generalize hmm : F22r0 (IntKind.wrap .i64 (n.tdiv 12)) 1000 = m at hm hx ⊢
      have o3 : 4 ≤ elI [27, 28, 29] (m.tmod 3).toNat ∧ elI [27, 28, 29] (m.tmod 3).toNat ≤ 29 := ⟨Int.le_trans (by decide) (op3 hm.1).1, (op3 hm.1).2⟩
      have o19 := op19 hm.1
      have t3 := tmod_range hm.1 (show (0 : Int) < 3 by decide)
      refine ⟨R, ?_⟩
      repeat' (first | apply And.intro | intro)
      all_goals first
        | exact bin_rem (by omega)
        | (split <;> exact bin_rem (by omega))
        | exact indexAddr_ints [27, 28, 29] (by kernel_rfl) t3.1 (by show _ < 3; omega)
        | exact hx _ o3.1 o3.2 _ (by kernel_rfl)
        | exact hx _ o19.1 o19.2 _ (by kernel_rfl)
        | exact hx 23 (by decide) (by decide) _ (by kernel_rfl)
        | (refine leafK _ _ _ _ _ ?_ ?_ ?_ ?_ o3.1 o3.2 <;> first | exact W.wrap _ | (unfold W; omega))
        | (refine leafK _ _ _ _ _ ?_ ?_ ?_ ?_ o19.1 o19.2 <;> first | exact W.wrap _ | (unfold W; omega))
        | (refine leafK _ _ _ _ 23 ?_ ?_ ?_ ?_ (by decide) (by decide) <;> first | exact W.wrap _ | (unfold W; omega))
        | (refine leaf _ _ _ _ ?_ ?_ ?_ ?_ <;> first | exact W.wrap _ | (rw [← hmm]; exact F39_W wn) | exact F39_W wn | (unfold W; omega)))
end
end Go.Vm
