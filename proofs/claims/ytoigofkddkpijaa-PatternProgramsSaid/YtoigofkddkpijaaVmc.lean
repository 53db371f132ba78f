/-
  The abstract machine: regions, code and calls are told and true: a call of the machine is a call of the program, without conditions but those that the theorems name.
-/
import Derived.Test.YtoigofkddkpijaaVmb
import Derived.LoopN
import Derived.Below

namespace Go.Vm
noncomputable section

/-! ### Other tmps -/
def Fr.as (g : Fr) (tm : Tr AV) : Fr := { g with tm := tm }
def asF (tm : Tr AV) (r : Option (Fr × St)) : Option (Fr × St) := r.map fun p => (p.1.as tm, p.2)
def asO {α : Type} (tm : Tr AV) (r : Option (α × Option (Fr × St))) : Option (α × Option (Fr × St)) := r.map fun p => (p.1, asF tm p.2)

theorem as_lo (g : Fr) (tm : Tr AV) : (g.as tm).lo = g.lo := rfl
theorem as_nt (g : Fr) (tm : Tr AV) : (g.as tm).nt = g.nt := rfl
theorem promote_as (tm : Tr AV) (g : Fr) (s : St) (t : Nat) : promote (g.as tm) s t = (promote g s t).map fun p => (p.1, p.2.1.as tm, p.2.2) := by
  simp only [promote, as_lo, as_nt]
  cases g.lo.get t with
  | none => rfl
  | some o => cases o <;> rfl
theorem escape_as (tm : Tr AV) (g : Fr) (s : St) (v : AV) : escape (g.as tm) s v = asO tm (escape g s v) := by
  unfold escape
  cases v.key with
  | none => rfl
  | some t =>
    simp only [promote_as, as_lo]
    cases lsOk (g.lo.get t) v with
    | false => rfl
    | true => simp only [cond_true]; cases promote g s t <;> rfl
theorem escapes_as (tm : Tr AV) : ∀ (vs : List AV) (g : Fr) (s : St), escapes (g.as tm) s vs = asO tm (escapes g s vs)
  | [], g, s => rfl
  | v :: vs, g, s => by
    simp only [escapes, escape_as]
    cases escape g s v with
    | none => rfl
    | some p =>
      obtain ⟨v', r⟩ := p
      cases r with
      | none =>
        simp only [asO, asF, Option.map_some, Option.map_none, escapes_as tm vs]
        cases escapes g s vs <;> rfl
      | some q =>
        obtain ⟨g1, s1⟩ := q
        simp only [asO, asF, Option.map_some, escapes_as tm vs]
        cases escapes g1 s1 vs with
        | none => rfl
        | some p => obtain ⟨vs', r⟩ := p; cases r <;> rfl
theorem storeAt_as (tm : Tr AV) (g : Fr) (s : St) (p : AV) (vs : List AV) : storeAt (g.as tm) s p vs = asF tm (storeAt g s p vs) := by
  have inSt : ∀ b off, (match s.cellsAt b with
      | some cs => cond (Nat.ble s.lock b && Nat.ble (off + vs.length) cs.length) (some (g.as tm, { s with objs := s.objs.set b (.cells (setAll cs off vs)) })) none
      | none => none) = asF tm (match s.cellsAt b with
      | some cs => cond (Nat.ble s.lock b && Nat.ble (off + vs.length) cs.length) (some (g, { s with objs := s.objs.set b (.cells (setAll cs off vs)) })) none
      | none => none) := by
    intro b off
    cases s.cellsAt b with
    | none => rfl
    | some cs => simp only []; cases (Nat.ble s.lock b && Nat.ble (off + vs.length) cs.length) <;> rfl
  cases p with
  | hp b off => exact inSt b off
  | lp t off =>
    simp only [storeAt]
    have e : (g.as tm).lo.get t = g.lo.get t := rfl
    rw [e]
    cases g.lo.get t with
    | none => rfl
    | some o => cases o with
      | own cs => simp only []; cases (Nat.ble (off + vs.length) cs.length) <;> rfl
      | fwd b => exact inSt b off
      | map0 => rfl
  | _ => rfl
theorem deref_as (tm : Tr AV) (g : Fr) (s : St) (p : AV) : deref (g.as tm) s p = deref g s p := by
  cases p <;> rfl
theorem mapSet_as (Γ : Ctx) (tm : Tr AV) (g : Fr) (s : St) (t : TypeId) (m k v : AV) : mapSet Γ (g.as tm) s t m k v = asO tm (mapSet Γ g s t m k v) := by
  simp only [mapSet]
  cases Γ.ty t with
  | none => rfl
  | some ti =>
    simp only []
    cases ti.und with
    | map kt et =>
      cases m with
      | mp b =>
        simp only []
        cases Γ.ty kt with
        | none => rfl
        | some ki =>
          cases s.objs.get b with
          | none => rfl
          | some o => cases o with
            | map kvs =>
              simp only []
              cases (isKey ki.und k && Nat.ble s.lock b && !v.isLp) with
              | false => rfl
              | true => simp only [cond_true]; cases setKey k v kvs <;> rfl
            | _ => rfl
      | _ => rfl
    | _ => rfl
theorem thenOut_as (tm : Tr AV) (g : Fr) (s : St) (r : Option (Fr × St)) (k k' : Fr → St → Out) (hk : ∀ g s, k' (g.as tm) s = asO tm (k g s)) :
    thenOut (g.as tm) s (asF tm r) k' = asO tm (thenOut g s r k) := by
  cases r with
  | none => exact hk g s
  | some p =>
    obtain ⟨g1, s1⟩ := p
    simp only [thenOut, asF, Option.map_some, hk]
    cases k g1 s1 with
    | none => rfl
    | some q => obtain ⟨v, r⟩ := q; cases r <;> rfl
theorem withSt_as (tm : Tr AV) (g : Fr) (r : Option (AV × Option St)) : withSt (g.as tm) r = asO tm (withSt g r) := by
  cases r with
  | none => rfl
  | some p => obtain ⟨v, r⟩ := p; cases r <;> rfl
theorem quiet_as (tm : Tr AV) (v : Option AV) : asO tm (quiet v) = quiet v := by cases v <;> rfl
theorem builtinX_as (Γ : Ctx) (f : FuncId) (tm : Tr AV) (g : Fr) (s : St) (dst : Option Tmp) (b : Builtin) (ts : List TypeId) (vs : List AV) :
    builtinX Γ f (g.as tm) s dst b ts vs = asO tm (builtinX Γ f g s dst b ts vs) := by
  have q := fun v => (quiet_as tm v).symm
  cases b with
  | len => match ts, vs with
    | t :: _, v :: _ => simp only [builtinX]; cases Γ.ty t <;> first | rfl | exact q _
    | [], _ => rfl
    | _ :: _, [] => rfl
  | append => match ts, vs with
    | t :: u :: _, x :: y :: _ =>
      simp only [builtinX]
      cases Γ.ty u with
      | none => rfl
      | some ui => simp only []; cases ui.und <;> first | rfl | exact withSt_as _ _ _
    | [], _ => rfl
    | [_], _ => rfl
    | _ :: _ :: _, [] => rfl
    | _ :: _ :: _, [_] => rfl
  | min => match ts, vs with
    | _, v :: _ => exact q _
    | _, [] => rfl
  | max => match ts, vs with
    | _, v :: _ => exact q _
    | _, [] => rfl
  | _ => rfl

theorem ev_map {g g' : Fr} {xs : Array Operand} (h : ∀ x, x ∈ xs → g'.ev x = g.ev x) : xs.toList.map g'.ev = xs.toList.map g.ev :=
  List.map_congr_left fun x hx => h x (by simpa using hx)
theorem ev_parts {g g' : Fr} {ps : Array (Nat × Operand)} (h : ∀ x, x ∈ (ps.toList.map (·.2)).toArray → g'.ev x = g.ev x) : (ps.toList.map fun p => (p.1, g'.ev p.2)) = ps.toList.map fun p => (p.1, g.ev p.2) :=
  List.map_congr_left fun p hp => by rw [h p.2 (by simp only [List.mem_toArray, List.mem_map]; exact ⟨p, hp, rfl⟩)]
theorem ev_opt {g g' : Fr} {x : Option Operand} (h : ∀ y, x = some y → g'.ev y = g.ev y) : x.map g'.ev = x.map g.ev := by
  cases x with
  | none => rfl
  | some y => simp only [Option.map_some, h y rfl]

theorem opx_as (Γ : Ctx) (call : CallT) (f : FuncId) (tm : Tr AV) (g : Fr) (s : St) (dst : Option Tmp) (op : Op) (h : ∀ x, x ∈ op.operands → (g.as tm).ev x = g.ev x) :
    opx Γ call f (g.as tm) s dst op = asO tm (opx Γ call f g s dst op) := by
  have q := fun v => (quiet_as tm v).symm
  cases op with
  | move x => simp only [opx, h x (by simp [Op.operands])]; rfl
  | assign x => simp only [opx, h x (by simp [Op.operands]), escape_as]
  | pick c x y =>
    simp only [opx, h c (by simp [Op.operands]), h x (by simp [Op.operands]), h y (by simp [Op.operands])]
    split <;> rfl
  | alloc e =>
    simp only [opx, as_lo]
    cases Γ.ty e with
    | none => rfl
    | some i => cases dst with
      | none => rfl
      | some d =>
        simp only []
        cases i.zero with
        | none => rfl
        | some z =>
          cases g.lo.get d with
          | some o => rfl
          | none => simp only []; cases (fits i (AV.ofValue z)) <;> rfl
  | box e x =>
    simp only [opx, h x (by simp [Op.operands]), escape_as]
    cases dst with
    | none => rfl
    | some d =>
      cases escape g s (g.ev x) with
      | none => rfl
      | some p =>
        obtain ⟨v, r⟩ := p
        refine thenOut_as tm g s r _ _ fun g s => ?_
        simp only [as_lo]
        cases g.lo.get d with
        | some o => rfl
        | none => simp only []; cases v.isPart <;> rfl
  | build t ps =>
    have hm : (ps.toList.map fun p => (g.as tm).ev p.2) = ps.toList.map fun p => g.ev p.2 := by
      have := congrArg (List.map Prod.snd) (ev_parts (g := g) (g' := g.as tm) h)
      simpa [List.map_map, Function.comp_def] using this
    simp only [opx, hm, escapes_as]
    cases escapes g s (ps.toList.map fun p => g.ev p.2) with
    | none => rfl
    | some p =>
      obtain ⟨vs, r⟩ := p
      exact thenOut_as tm g s r _ _ fun _ _ => (quiet_as tm _).symm
  | buildSlice t len ps =>
    simp only [opx, ev_parts h]
    cases Γ.ty t with
    | none => rfl
    | some ti =>
      simp only []
      cases ti.und with
      | slice e =>
        simp only []
        cases buildElems Γ e len (ps.toList.map fun p => (p.1, g.ev p.2)) with
        | none => rfl
        | some es => simp only []; cases (dst.any (Γ.hard f) && !es.isEmpty) <;> rfl
      | _ => rfl
  | load t p =>
    simp only [opx, h p (by simp [Op.operands]), deref_as]
    cases Γ.ty t with
    | none => rfl
    | some i => cases deref g s (g.ev p) with
      | none => rfl
      | some c => exact q _
  | store t p x =>
    simp only [opx, h x (by simp [Op.operands]), escape_as]
    cases Γ.ty t with
    | none => rfl
    | some i =>
      cases he : escape g s (g.ev x) with
      | none => rfl
      | some c =>
        obtain ⟨v, r⟩ := c
        have hp : ∀ g1 s1, r = some (g1, s1) → (g1.as tm).ev p = g1.ev p := fun g1 s1 e => by
          subst e
          have k := (escape_keeps he).1
          have hp := h p (by simp [Op.operands])
          cases p <;> first | rfl | (simp only [Fr.ev, Fr.as, k] at hp ⊢; exact hp)
        have hp0 := h p (by simp [Op.operands])
        cases r with
        | none =>
          simp only [asO, asF, thenOut, Option.map_some, Option.map_none, hp0, storeAt_as]
          cases (v.isPart && Nat.beq v.cells.length i.size) with
          | false => rfl
          | true => simp only [cond_true]; cases storeAt g s (g.ev p) v.cells <;> rfl
        | some c =>
          obtain ⟨g1, s1⟩ := c
          simp only [asO, asF, thenOut, Option.map_some, hp g1 s1 rfl, storeAt_as]
          cases (v.isPart && Nat.beq v.cells.length i.size) with
          | false => rfl
          | true => simp only [cond_true]; cases storeAt g1 s1 (g1.ev p) v.cells <;> rfl
  | nilCheck x => simp only [opx, h x (by simp [Op.operands])]; split <;> rfl
  | binOp op t x y yt => simp only [opx, h x (by simp [Op.operands]), h y (by simp [Op.operands])]; exact q _
  | unOp op t x => simp only [opx, h x (by simp [Op.operands])]; exact q _
  | convert a b x => simp only [opx, h x (by simp [Op.operands])]; exact q _
  | makeFunc fn first caps =>
    cases fn with
    | func hf =>
      simp only [opx, ev_map (xs := caps) fun x hx => h x (by simp [Op.operands, hx]), escapes_as]
      cases first.isEmpty with
      | false => rfl
      | true => simp only [cond_true]; cases escapes g s (caps.toList.map g.ev) <;> rfl
    | _ => rfl
  | makeMap t r =>
    have hr : (r.any fun x => (asNat ((g.as tm).ev x)).isSome) = r.any fun x => (asNat (g.ev x)).isSome := by
      cases r with
      | none => rfl
      | some y => simp only [Option.any_some, h y (by simp [Op.operands])]
    simp only [opx, hr]
    cases Γ.ty t with
    | none => rfl
    | some ti =>
      simp only []
      cases ti.und with
      | map k e =>
        simp only []
        cases (r.isNone || r.any fun x => (asNat (g.ev x)).isSome) with
        | false => rfl
        | true =>
          simp only [cond_true]
          cases dst.any (Γ.hard f) with
          | false => rfl
          | true =>
            simp only [cond_true]
            cases dst with
            | none => rfl
            | some d =>
              simp only [as_lo]
              cases g.lo.get d <;> rfl
      | _ => rfl
  | makeSlice t l c =>
    simp only [opx, h l (by simp [Op.operands]), h c (by simp [Op.operands])]
    cases dst.any (Γ.hard f) with
    | false => exact withSt_as _ _ _
    | true =>
      simp only [cond_true]
      cases dst with
      | none => rfl
      | some d =>
        cases rowOf Γ t (g.ev l) (g.ev c) with
        | none => rfl
        | some p =>
          obtain ⟨e, sz, n, cs⟩ := p
          simp only [as_lo]
          cases g.lo.get d <;> rfl
  | slice t x lo hi mx =>
    simp only [opx, h x (by simp [Op.operands]), ev_opt (x := lo) fun y e => h y (by simp [Op.operands, e]), ev_opt (x := hi) fun y e => h y (by simp [Op.operands, e]), promote_as]
    cases mx.isSome with
    | true => rfl
    | false =>
      simp only [cond_false]
      cases g.ev x with
      | lp k off =>
        simp only []
        cases promote g s k with
        | none => rfl
        | some p =>
          obtain ⟨b, g1, s1⟩ := p
          simp only [Option.map_some]
          cases slice Γ s1 t (.hp b off) (lo.map g.ev) (hi.map g.ev) <;> rfl
      | _ => exact q _
  | fieldAddr t x j => simp only [opx, h x (by simp [Op.operands])]; exact q _
  | field t x j => simp only [opx, h x (by simp [Op.operands])]; exact q _
  | indexAddr t x i => simp only [opx, h x (by simp [Op.operands]), h i (by simp [Op.operands])]; exact q _
  | index t x i => simp only [opx, h x (by simp [Op.operands]), h i (by simp [Op.operands])]; exact q _
  | lookup t x i ok => simp only [opx, h x (by simp [Op.operands]), h i (by simp [Op.operands])]; exact q _
  | mapUpdate t m k x =>
    simp only [opx, h x (by simp [Op.operands]), escape_as]
    cases he : escape g s (g.ev x) with
    | none => rfl
    | some c =>
      obtain ⟨v, r⟩ := c
      have hm0 := h m (by simp [Op.operands])
      have hk0 := h k (by simp [Op.operands])
      cases r with
      | none => simp only [asO, asF, thenOut, Option.map_some, Option.map_none, hm0, hk0]; exact mapSet_as _ _ _ _ _ _ _ _
      | some c =>
        obtain ⟨g1, s1⟩ := c
        have kp := (escape_keeps he).1
        have e1 : (g1.as tm).ev m = g1.ev m := by cases m <;> first | rfl | (simp only [Fr.ev, Fr.as, kp] at hm0 ⊢; exact hm0)
        have e2 : (g1.as tm).ev k = g1.ev k := by cases k <;> first | rfl | (simp only [Fr.ev, Fr.as, kp] at hk0 ⊢; exact hk0)
        simp only [asO, asF, thenOut, Option.map_some, e1, e2, mapSet_as]
        cases mapSet Γ g1 s1 t (g1.ev m) (g1.ev k) v with
        | none => rfl
        | some p => obtain ⟨v, r⟩ := p; cases r <;> rfl
  | mapEntry t m k => simp only [opx, h m (by simp [Op.operands]), h k (by simp [Op.operands])]; exact withSt_as _ _ _
  | entryStore t m i x => simp only [opx, h m (by simp [Op.operands]), h i (by simp [Op.operands]), h x (by simp [Op.operands])]; exact withSt_as _ _ _
  | insert t m k x =>
    simp only [opx, h x (by simp [Op.operands]), escape_as]
    cases he : escape g s (g.ev x) with
    | none => rfl
    | some c =>
      obtain ⟨v, r⟩ := c
      have hm0 := h m (by simp [Op.operands])
      have hk0 := h k (by simp [Op.operands])
      cases r with
      | none => simp only [asO, asF, thenOut, Option.map_some, Option.map_none, hm0, hk0]; exact mapSet_as _ _ _ _ _ _ _ _
      | some c =>
        obtain ⟨g1, s1⟩ := c
        have kp := (escape_keeps he).1
        have e1 : (g1.as tm).ev m = g1.ev m := by cases m <;> first | rfl | (simp only [Fr.ev, Fr.as, kp] at hm0 ⊢; exact hm0)
        have e2 : (g1.as tm).ev k = g1.ev k := by cases k <;> first | rfl | (simp only [Fr.ev, Fr.as, kp] at hk0 ⊢; exact hk0)
        simp only [asO, asF, thenOut, Option.map_some, e1, e2, mapSet_as]
        cases mapSet Γ g1 s1 t (g1.ev m) (g1.ev k) v with
        | none => rfl
        | some p => obtain ⟨v, r⟩ := p; cases r <;> rfl
  | extract t i => simp only [opx, h t (by simp [Op.operands])]; split <;> first | exact q _ | rfl
  | call c =>
    obtain ⟨callee, args, argTypes⟩ := c
    cases callee with
    | builtin b => simp only [opx, ev_map (xs := args) fun x hx => h x (by simp [Op.operands, Call.operands, hx])]; exact builtinX_as _ _ _ _ _ _ _ _ _
    | value x =>
      simp only [opx, ev_map (xs := args) fun y hy => h y (by simp [Op.operands, Call.operands, hy]), h x (by simp [Op.operands, Call.operands]), escapes_as]
      cases g.ev x with
      | fn hf caps =>
        cases escapes g s (args.toList.map g.ev) with
        | none => rfl
        | some p =>
          obtain ⟨vs, r⟩ := p
          refine thenOut_as tm g s r _ _ fun g s => ?_
          cases call hf (stripArgs Γ hf (vs ++ caps)) s with
          | none => rfl
          | some p => obtain ⟨v, s1⟩ := p; cases Γ.scope hf <;> rfl
      | _ => rfl
    | invoke _ _ => rfl
  | _ => rfl
end
end Go.Vm

namespace Go.Vm
noncomputable section

theorem sameV_eq {v w : Value} (h : sameV v w = true) : v = w := by
  unfold sameV at h
  split at h
  · split at h
    · simp at h; rw [h.1, h.2]
    · cases h
  · split at h
    · simp at h; rw [h]
    · cases h
  · split at h
    · rfl
    · cases h
  · split at h
    · rfl
    · cases h
  · split at h
    · rfl
    · cases h
  · cases h
theorem sameTok_eq {t u : Tok} (h : sameTok t u = true) : t = u := by
  cases t <;> cases u <;> simp [sameTok] at h ⊢
  exact h
mutual
theorem same_eq : ∀ (a b : AV), AV.same a b = true → a = b
  | .any, b, h => by cases b <;> simp [AV.same] at h ⊢
  | .lit v, b, h => by
    cases b with
    | lit w =>
      simp only [AV.same] at h; rw [sameV_eq h]
    | _ => simp [AV.same] at h
  | .str a, b, h => by
    cases b with
    | str c => simp [AV.same] at h; rw [h]
    | _ => simp [AV.same] at h
  | .agg a, b, h => by
    cases b with
    | agg c => simp [AV.same] at h; rw [sameL_eq a c h]
    | _ => simp [AV.same] at h
  | .tup a, b, h => by
    cases b with
    | tup c => simp [AV.same] at h; rw [sameL_eq a c h]
    | _ => simp [AV.same] at h
  | .sl t a, b, h => by
    cases b with
    | sl u c =>
      simp [AV.same] at h; rw [sameL_eq a c h.2, sameTok_eq h.1]
    | _ => simp [AV.same] at h
  | .rs e sz o f l, b, h => by
    cases b with
    | rs e' sz' o' f' l' => simp [AV.same] at h; obtain ⟨⟨⟨⟨h1, h2⟩, h3⟩, h4⟩, h5⟩ := h; rw [h1, h2, h3, h4, h5]
    | _ => simp [AV.same] at h
  | .vp a i, b, h => by
    cases b with
    | vp c j => simp [AV.same] at h; rw [sameL_eq a c h.2, h.1]
    | _ => simp [AV.same] at h
  | .hp a i, b, h => by
    cases b with
    | hp c j => simp [AV.same] at h; rw [h.1, h.2]
    | _ => simp [AV.same] at h
  | .lp a i, b, h => by
    cases b with
    | lp c j => simp [AV.same] at h; rw [h.1, h.2]
    | _ => simp [AV.same] at h
  | .lm a, b, h => by
    cases b with
    | lm c => simp [AV.same] at h; rw [h]
    | _ => simp [AV.same] at h
  | .ls e sz a l, b, h => by
    cases b with
    | ls e' sz' c l' => simp [AV.same] at h; obtain ⟨⟨⟨h1, h2⟩, h3⟩, h4⟩ := h; rw [h1, h2, h3, h4]
    | _ => simp [AV.same] at h
  | .mp a, b, h => by
    cases b with
    | mp c => simp [AV.same] at h; rw [h]
    | _ => simp [AV.same] at h
  | .fn f a, b, h => by
    cases b with
    | fn g c => simp [AV.same] at h; rw [sameL_eq a c h.2, h.1]
    | _ => simp [AV.same] at h
theorem sameL_eq : ∀ (a b : List AV), sameL a b = true → a = b
  | [], b, h => by cases b <;> simp [sameL] at h ⊢
  | x :: r, b, h => by
    cases b with
    | nil => simp [sameL] at h
    | cons y s => simp [sameL] at h; rw [same_eq x y h.1, sameL_eq r s h.2]
end

theorem sameO_eq {a b : Option AV} (h : sameO a b = true) : a = b := by
  cases a with
  | none => simp [sameO] at h
  | some x => cases b with
    | none => simp [sameO] at h
    | some y => rw [same_eq x y h]

/-- What may be seen of the store. -/
def vis (s : St) (id : Nat) : Option Obj :=
  match s.objs.get id with
  | some (.cells cs) => some (.cells cs)
  | some (.map kvs) => some (.map kvs)
  | _ => none

theorem cellsAt_vis {s s' : St} {id : Nat} (h : vis s' id = vis s id) : s'.cellsAt id = s.cellsAt id := by
  unfold vis at h
  unfold St.cellsAt
  cases h1 : s'.objs.get id with
  | none => cases h2 : s.objs.get id with
    | none => rfl
    | some o => cases o <;> simp_all
  | some o' => cases h2 : s.objs.get id with
    | none => cases o' <;> simp_all
    | some o => cases o' <;> cases o <;> simp_all
theorem maps_vis {s s' : St} {id : Nat} (h : vis s' id = vis s id) {kvs : List (AV × AV)} : s'.objs.get id = some (.map kvs) ↔ s.objs.get id = some (.map kvs) := by
  unfold vis at h
  cases h1 : s'.objs.get id with
  | none => cases h2 : s.objs.get id with
    | none => rfl
    | some o => cases o <;> simp_all
  | some o' => cases h2 : s.objs.get id with
    | none => cases o' <;> simp_all
    | some o => cases o' <;> cases o <;> simp_all

theorem escape_quiet {g : Fr} {s : St} {v v' : AV} (h : escape g s v = some (v', none)) : v' = v ∧ v.isLp = false := by
  rcases escape_cases h with ⟨h1, h2, _⟩ | ⟨t, id, g1, s1, h1, h2, h3, h4, h5⟩
  · exact ⟨h2, by rw [isLp_key, h1]; rfl⟩
  · cases h5
theorem escape_of {g : Fr} {s : St} {v : AV} (h : v.isLp = false) : escape g s v = some (v, none) := by
  cases v <;> first | rfl | (simp [AV.isLp] at h)
theorem escapes_quiet : ∀ (vs : List AV) {g : Fr} {s : St} {vs' : List AV}, escapes g s vs = some (vs', none) → vs' = vs ∧ ∀ v, v ∈ vs → v.isLp = false
  | [], g, s, vs', h => by simp only [escapes, Option.some.injEq, Prod.mk.injEq, and_true] at h; exact ⟨h.symm, fun v hv => by cases hv⟩
  | v :: vs, g, s, vs', h => by
    simp only [escapes] at h
    split at h
    · cases h
    · rename_i v1 he
      obtain ⟨rfl, h1⟩ := escape_quiet he
      split at h
      · cases h
      · rename_i vs1 r1 hs
        simp only [Option.some.injEq, Prod.mk.injEq] at h
        obtain ⟨rfl, rfl⟩ := h
        obtain ⟨rfl, h2⟩ := escapes_quiet vs hs
        refine ⟨rfl, fun u hu => ?_⟩
        rcases List.mem_cons.1 hu with rfl | hu
        · exact h1
        · exact h2 u hu
    · split at h <;> simp at h
theorem escapes_of : ∀ (vs : List AV) {g : Fr} {s : St}, (∀ v, v ∈ vs → v.isLp = false) → escapes g s vs = some (vs, none)
  | [], g, s, h => rfl
  | v :: vs, g, s, h => by
    simp only [escapes, escape_of (h v (by simp)), escapes_of vs (fun u hu => h u (by simp [hu]))]
theorem thenOut_quiet {g : Fr} {s : St} {r : Option (Fr × St)} {k : Fr → St → Out} {v : AV} (h : thenOut g s r k = some (v, none)) : r = none ∧ k g s = some (v, none) := by
  cases r with
  | none => exact ⟨rfl, h⟩
  | some p =>
    obtain ⟨g1, s1⟩ := p
    simp only [thenOut] at h
    split at h
    · simp at h
    · rename_i hno; exact (hno v h).elim

theorem content_vis {s s' : St} {ei : TI} {x : AV} (h : ∀ id, id ∈ rsIds x → vis s' id = vis s id) : content s' ei x = content s ei x := by
  cases x with
  | rs e sz b off len =>
    have := cellsAt_vis (h b (List.mem_singleton.2 rfl))
    simp only [content, this]
  | _ => rfl
theorem sliceContent_vis {s s' : St} {ei : TI} {x : AV} (h : ∀ id, id ∈ rsIds x → vis s' id = vis s id) : sliceContent s' ei x = sliceContent s ei x := by
  cases x <;> first | rfl | exact content_vis h
theorem conv_vis {Γ : Ctx} {s s' : St} {a b : TypeId} {x : AV} (h : ∀ id, id ∈ rsIds x → vis s' id = vis s id) : conv Γ s' a b x = conv Γ s a b x := by
  have := fun ei => sliceContent_vis (ei := ei) h
  unfold conv
  split
  · split <;> first | rfl | (simp only [this])
  · rfl
theorem mapFind_vis {s s' : St} {k x : AV} (h : ∀ id, id ∈ rsIds x → vis s' id = vis s id) : mapFind s' k x = mapFind s k x := by
  cases x with
  | mp b =>
    have hm := fun kvs => maps_vis (kvs := kvs) (h b (by simp [rsIds]))
    simp only [mapFind]
    cases h2 : s.objs.get b with
    | none =>
      cases h1 : s'.objs.get b with
      | none => rfl
      | some o => cases o with
        | map kvs => rw [(hm kvs).1 h1] at h2; cases h2
        | _ => rfl
    | some o2 =>
      cases h1 : s'.objs.get b with
      | none => cases o2 with
        | map kvs => rw [(hm kvs).2 h2] at h1; cases h1
        | _ => rfl
      | some o => cases o with
        | map kvs => have := (hm kvs).1 h1; rw [h2] at this; injection this with this; subst this; rfl
        | _ => cases o2 with
          | map kvs => have := (hm kvs).2 h2; rw [h1] at this; injection this with this; cases this
          | _ => rfl
  | lit v => cases v with
    | map r => cases r <;> rfl
    | _ => rfl
  | _ => rfl
theorem lenAt_vis {s s' : St} {u : TypeDesc} {x : AV} (h : ∀ id, id ∈ rsIds x → vis s' id = vis s id) : lenAt s' u x = lenAt s u x := by
  cases x with
  | mp b =>
    cases u with
    | map kt et =>
      have hm := fun kvs => maps_vis (kvs := kvs) (h b (by simp [rsIds]))
      simp only [lenAt]
      cases h2 : s.objs.get b with
      | none =>
        cases h1 : s'.objs.get b with
        | none => rfl
        | some o => cases o with
          | map kvs => rw [(hm kvs).1 h1] at h2; cases h2
          | _ => rfl
      | some o2 =>
        cases h1 : s'.objs.get b with
        | none => cases o2 with
          | map kvs => rw [(hm kvs).2 h2] at h1; cases h1
          | _ => rfl
        | some o => cases o with
          | map kvs => have := (hm kvs).1 h1; rw [h2] at this; injection this with this; subst this; rfl
          | _ => cases o2 with
            | map kvs => have := (hm kvs).2 h2; rw [h1] at this; injection this with this; cases this
            | _ => rfl
    | _ => rfl
  | lit v => cases u <;> first | rfl | (cases v <;> first | rfl | (rename_i r; cases r <;> rfl))
  | _ => cases u <;> rfl
theorem slice_vis {Γ : Ctx} {s s' : St} {t : TypeId} {x : AV} {lo hi : Option AV} {g : Fr} (h : ∀ id, id ∈ hpIds g x → vis s' id = vis s id) : slice Γ s' t x lo hi = slice Γ s t x lo hi := by
  unfold slice
  split
  · split <;> first | rfl | (rw [cellsAt_vis (h _ (List.mem_singleton.2 rfl))])
  · rfl
theorem deref_vis {s s' : St} {g : Fr} {lo : Tr LObj} {x : AV} (hl : ∀ t, t ∈ lpKey x → lo.get t = g.lo.get t) (h : ∀ id, id ∈ hpIds g x → vis s' id = vis s id) : deref { g with lo := lo } s' x = deref g s x := by
  cases x with
  | hp b off => simp only [deref, cellsAt_vis (h b (by simp [hpIds]))]
  | lp t off =>
    simp only [deref, hl t (by simp [lpKey])]
    cases ho : g.lo.get t with
    | none => rfl
    | some o => cases o with
      | own cs => rfl
      | fwd b => simp only [cellsAt_vis (h b (by simp [hpIds, ho]))]
      | map0 => rfl
  | _ => rfl

theorem mapEnter_loud {Γ : Ctx} {s : St} {t : TypeId} {m k v : AV} {r : Option St} (h : mapEnter Γ s t m k = some (v, r)) : ∃ b kvs, m = .mp b ∧ r = some { s with objs := s.objs.set b (.map kvs) } := by
  unfold mapEnter at h
  split at h
  · cases h
  · split at h
    · split at h
      · rename_i ki ei kvs _ _ _
        cases hb : isKey ki.und k && Nat.ble s.lock _ <;> rw [hb] at h
        · cases h
        · rw [cond_true] at h
          split at h
          · simp only [Option.some.injEq, Prod.mk.injEq] at h; exact ⟨_, _, rfl, h.2.symm⟩
          · split at h
            · simp only [Option.some.injEq, Prod.mk.injEq] at h; exact ⟨_, _, rfl, h.2.symm⟩
            · cases h
          · cases h
      · cases h
    · cases h
theorem mapFill_loud {s : St} {m i x v : AV} {r : Option St} (h : mapFill s m i x = some (v, r)) : ∃ b kvs, m = .mp b ∧ r = some { s with objs := s.objs.set b (.map kvs) } := by
  unfold mapFill at h
  split at h
  · split at h
    · split at h
      · cases hb : Nat.ble s.lock _ && !x.isLp <;> rw [hb] at h
        · cases h
        · simp only [cond_true, Option.some.injEq, Prod.mk.injEq] at h; exact ⟨_, _, rfl, h.2.symm⟩
      · cases h
    · cases h
  · cases h
theorem withSt_not {g : Fr} {x : Option (AV × Option St)} {v : AV} (h : withSt g x = some (v, none)) : x = some (v, none) := by
  cases x with
  | none => cases h
  | some p =>
    obtain ⟨v1, r1⟩ := p
    cases r1 with
    | none => simp only [withSt, Option.some.injEq, Prod.mk.injEq, and_true] at h; rw [h]
    | some s => simp [withSt] at h

theorem opx_reads (Γ : Ctx) (call : CallT) (f : FuncId) (g : Fr) (s : St) (dst : Option Tmp) (op : Op) {v : AV} (h : opx Γ call f g s dst op = some (v, none)) (lo : Tr LObj) (s' : St)
    (hl : ∀ t, t ∈ (effR Γ g op).rl → lo.get t = g.lo.get t) (hi : ∀ id, id ∈ (effR Γ g op).ri → vis s' id = vis s id) (ha : (effR Γ g op).ra = true → s' = s)
    (hc : ∀ r, r ∈ (effR Γ g op).rc → readAt s' r = readAt s r) : opx Γ call f { g with lo := lo } s' dst op = some (v, none) := by
  have hev : ∀ x, ({ g with lo := lo } : Fr).ev x = g.ev x := fun x => by cases x <;> rfl
  have hevf : ({ g with lo := lo } : Fr).ev = g.ev := funext hev
  cases op with
  | assign x =>
    simp only [opx, hev] at h ⊢
    obtain ⟨rfl, h1⟩ := escape_quiet h
    exact escape_of h1
  | alloc e =>
    simp only [opx] at h
    split at h
    · rename_i i d hty
      split at h
      · rename_i z hz hd
        cases hf : fits i (.ofValue z) <;> rw [hf] at h <;> simp at h
      · cases h
    · cases h
  | box e x =>
    simp only [opx] at h
    split at h
    · rename_i d v1 r _
      obtain ⟨rfl, hk⟩ := thenOut_quiet h
      split at hk
      · cases hf : v1.isPart <;> rw [hf] at hk <;> simp at hk
      · cases hk
    · cases h
  | buildSlice t len ps =>
    simp only [opx, hevf] at h ⊢
    split at h
    · cases h
    · rename_i ti ht
      split at h
      · rename_i e he
        split at h
        · rename_i es hes
          cases hh : dst.any (Γ.hard f) && !es.isEmpty with
          | true => rw [hh] at h; simp at h
          | false =>
            rw [hh] at h
            try simp only [ht, he, hes, hh]
            exact h
        · cases h
      · cases h
  | load t p =>
    simp only [opx, hev] at h ⊢
    have at_ : ∀ (i : TI) (b off : Nat), Γ.ty t = some i → (b, off, i.size, i.isAgg) ∈ (effR Γ g (.load t p)).rc → ((s.cellsAt b).bind fun cs => partAt i cs off) = some v → ((s'.cellsAt b).bind fun cs => partAt i cs off) = some v := fun i b off _ hm hq => by
      have hr := hc _ hm
      unfold readAt at hr
      cases h1 : s.cellsAt b with
      | none => rw [h1] at hq; cases hq
      | some cs =>
        rw [h1] at hq hr
        simp only [Option.bind_some] at hq
        cases h2 : s'.cellsAt b with
        | none =>
          rw [h2] at hr
          simp only at hr
          have hq : cond i.isAgg (takeAt cs off i.size) (cs[off]?) = some v := hq
          rw [← hr] at hq; cases hq
        | some cs' =>
          rw [h2] at hr
          simp only at hr
          have hq : cond i.isAgg (takeAt cs off i.size) (cs[off]?) = some v := hq
          simp only [Option.bind_some]
          show cond i.isAgg (takeAt cs' off i.size) (cs'[off]?) = some v
          rw [hr]; exact hq
    cases ht : Γ.ty t with
    | none => rw [ht] at h; cases h
    | some i =>
      rw [ht] at h
      have fin : ∀ (b off : Nat), (b, off, i.size, i.isAgg) ∈ (effR Γ g (.load t p)).rc → (match some i, ((s.cellsAt b).map fun cs => (cs, off)) with | some i, some (cs, off) => quiet (partAt i cs off) | _, _ => none) = some (v, none) →
          (match some i, ((s'.cellsAt b).map fun cs => (cs, off)) with | some i, some (cs, off) => quiet (partAt i cs off) | _, _ => none) = some (v, none) := fun b off hm hq => by
        have h0 : ((s.cellsAt b).bind fun cs => partAt i cs off) = some v := by
          cases h1 : s.cellsAt b with
          | none => rw [h1] at hq; cases hq
          | some cs =>
            rw [h1] at hq
            have hq : quiet (partAt i cs off) = some (v, none) := hq
            cases h3 : partAt i cs off with
            | none => rw [h3] at hq; cases hq
            | some u => rw [h3] at hq; simp only [quiet, Option.map_some, Option.some.injEq, Prod.mk.injEq, and_true] at hq; subst hq; exact h3
        have h2 := at_ i b off ht hm h0
        cases h1 : s'.cellsAt b with
        | none => rw [h1] at h2; cases h2
        | some cs =>
          rw [h1] at h2
          show quiet (partAt i cs off) = some (v, none)
          have h2 : partAt i cs off = some v := h2
          rw [h2]; rfl
      cases hx : g.ev p with
      | vp cs off => rw [hx] at h; exact h
      | hp b off =>
        rw [hx] at h
        exact fin b off (by simp only [effR, hx, hpIds, ht, AV.offOf, List.map_cons, List.mem_cons, true_or]) h
      | lp k off =>
        rw [hx] at h
        have hk : lo.get k = g.lo.get k := hl k (by simp only [effR, hx, lpKey, List.mem_cons, true_or])
        cases ho : g.lo.get k with
        | none => simp only [deref, ho] at h; cases h
        | some o => cases o with
          | own cs => simp only [deref, hk, ho] at h ⊢; exact h
          | fwd b =>
            simp only [deref, hk, ho] at h ⊢
            exact fin b off (by simp only [effR, hx, hpIds, ho, ht, AV.offOf, List.map_cons, List.mem_cons, true_or]) h
          | map0 => simp only [deref, ho] at h; cases h
      | _ => rw [hx] at h; cases h
  | store t p x =>
    simp only [opx] at h
    split at h
    · rename_i i v1 r _ _
      obtain ⟨rfl, hk⟩ := thenOut_quiet h
      cases hb : v1.isPart && Nat.beq v1.cells.length i.size with
      | false => rw [hb] at hk; cases hk
      | true =>
        rw [hb, cond_true] at hk
        split at hk <;> simp at hk
    · cases h
  | convert a b x =>
    simp only [opx, hev] at h ⊢
    rw [conv_vis hi]; exact h
  | makeFunc fn first caps =>
    cases fn with
    | func hf =>
      simp only [opx, hevf] at h ⊢
      cases hb : first.isEmpty with
      | false => rw [hb] at h; cases h
      | true =>
        rw [hb, cond_true] at h
        rw [cond_true]
        split at h
        · rename_i vs r he
          simp only [Option.some.injEq, Prod.mk.injEq] at h
          obtain ⟨rfl, rfl⟩ := h
          obtain ⟨rfl, h1⟩ := escapes_quiet _ he
          rw [escapes_of _ h1]
        · cases h
    | _ => simp [opx] at h
  | makeMap t r =>
    simp only [opx] at h
    split at h
    · cases h
    · split at h
      · cases hb : r.isNone || r.any fun x => (asNat (g.ev x)).isSome <;> rw [hb] at h
        · cases h
        · rw [cond_true] at h
          cases hh : dst.any (Γ.hard f) <;> rw [hh] at h
          · simp at h
          · rw [cond_true] at h
            split at h
            · split at h <;> simp at h
            · cases h
      · cases h
  | makeSlice t l c =>
    simp only [opx, hev] at h ⊢
    cases hh : dst.any (Γ.hard f) with
    | true =>
      rw [hh, cond_true] at h
      split at h
      · split at h <;> simp at h
      · cases h
    | false =>
    rw [hh, cond_false] at h
    rw [cond_false]
    unfold makeSlice at h ⊢
    split at h
    · rename_i ti l' c' ht hl' hc'
      split at h
      · rename_i e he
        split at h
        · rename_i ei hei
          split at h
          · rename_i z hz
            try simp only [ht, hl', hc', he, hei, hz]
            cases hb : Nat.ble (c' * ei.bytes) 140737488355328 && Nat.ble c' 140737488355328 && Nat.blt 0 ei.size && fits ei (.ofValue z) with
            | false => rw [hb] at h; simp [withSt] at h
            | true =>
              rw [hb, cond_true] at h
              rw [cond_true]
              cases h0 : Nat.beq c' 0 with
              | true =>
                rw [h0, cond_true] at h
                rw [cond_true]
                cases h1 : Nat.beq l' 0 <;> rw [h1] at h
                · simp [withSt] at h
                · simp only [cond_true, withSt] at h ⊢; exact h
              | false =>
                rw [h0, cond_false] at h
                cases h1 : Nat.beq l' c' <;> rw [h1] at h
                · rw [cond_false] at h
                  cases h2 : Nat.beq l' 0 <;> rw [h2] at h <;> simp [withSt] at h
                · simp [withSt] at h
          · simp [withSt] at h
        · simp [withSt] at h
      · simp [withSt] at h
    · simp [withSt] at h
  | slice t x lw up mx =>
    simp only [opx, hevf] at h ⊢
    cases hm : mx.isSome with
    | true => rw [hm] at h; cases h
    | false =>
      rw [hm, cond_false] at h
      rw [cond_false]
      cases hx : g.ev x with
      | lp k off =>
        rw [hx] at h
        simp only at h
        split at h
        · split at h <;> simp at h
        · cases h
      | _ =>
        rw [hx] at h
        simp only at h ⊢
        rw [← hx] at h ⊢
        rw [slice_vis (g := g) hi]
        exact h
  | lookup t x i ok =>
    simp only [opx, hev] at h ⊢
    have := fun k => mapFind_vis (k := k) (x := g.ev x) hi
    simp only [lookup, this] at h ⊢
    exact h
  | mapUpdate t m k x =>
    simp only [opx] at h
    split at h
    · rename_i v1 r _
      obtain ⟨rfl, hk⟩ := thenOut_quiet h
      unfold mapSet at hk
      split at hk
      · cases hk
      · split at hk
        · split at hk
          · rename_i ki kvs _ _
            cases hb : isKey ki.und (g.ev k) && _ && _ <;> rw [hb] at hk
            · cases hk
            · rw [cond_true] at hk; split at hk <;> simp at hk
          · cases hk
        · cases hk
    · cases h
  | mapEntry t m k =>
    simp only [opx] at h
    obtain ⟨b, kvs, _, h2⟩ := mapEnter_loud (withSt_not h)
    cases h2
  | entryStore t m i x =>
    simp only [opx] at h
    obtain ⟨b, kvs, _, h2⟩ := mapFill_loud (withSt_not h)
    cases h2
  | insert t m k x =>
    simp only [opx] at h
    split at h
    · rename_i v1 r _
      obtain ⟨rfl, hk⟩ := thenOut_quiet h
      unfold mapSet at hk
      split at hk
      · cases hk
      · split at hk
        · split at hk
          · rename_i ki kvs _ _
            cases hb : isKey ki.und (g.ev k) && _ && _ <;> rw [hb] at hk
            · cases hk
            · rw [cond_true] at hk; split at hk <;> simp at hk
          · cases hk
        · cases hk
    · cases h
  | call c =>
    obtain ⟨callee, args, argTypes⟩ := c
    cases callee with
    | builtin b =>
      simp only [opx, hevf] at h ⊢
      have hi2 : ∀ x, x ∈ args.toList.map g.ev → ∀ id, id ∈ rsIds x → vis s' id = vis s id := fun x hx id hid => hi id (by simp only [effR, List.mem_flatMap]; exact ⟨x, hx, hid⟩)
      generalize args.toList.map g.ev = V at h hi2 ⊢
      cases b with
      | len => match argTypes.toList, V, h, hi2 with
        | t :: _, x :: _, h, hi2 =>
          simp only [builtinX] at h ⊢
          split at h
          · cases h
          · rw [lenAt_vis (hi2 x (by simp))]; exact h
        | [], _, h, _ => simp [builtinX] at h
        | _ :: _, [], h, _ => simp [builtinX] at h
      | append => match argTypes.toList, V, h, hi2 with
        | t :: u :: _, x :: y :: _, h, hi2 =>
          have hy := fun ei => content_vis (ei := ei) (hi2 y (by simp))
          have main : withSt g (append Γ (dst.any (Γ.hard f)) s t x y) = some (v, none) → withSt { g with lo := lo } (append Γ (dst.any (Γ.hard f)) s' t x y) = some (v, none) := fun h => by
            unfold append at h ⊢
            split at h
            · simp [withSt] at h
            · rename_i ti ht
              split at h
              · rename_i e he
                split at h
                · simp [withSt] at h
                · rename_i ei hei
                  try simp only [he, hei, hy]
                  split at h
                  · simp [withSt] at h
                  · rename_i hc
                    try rw [hc]
                    cases hh : dst.any (Γ.hard f) with
                    | true => rw [hh] at h; simp [withSt] at h
                    | false =>
                      rw [hh, cond_false] at h
                      simp only [cond_false]
                      cases x <;> first | (simp only [withSt] at h ⊢; exact h) | (simp [withSt] at h)
                  · rename_i z zs hc
                    exfalso
                    cases hb : Nat.blt 0 ei.size && Nat.blt 0 ei.bytes && sized ei.size (z :: zs) && ei.zero.any fun z => Nat.beq z.cells.size ei.size with
                    | false => rw [hb] at h; simp [withSt] at h
                    | true =>
                      rw [hb, cond_true] at h
                      cases x with
                      | sl tk es =>
                        simp only [appendTo] at h
                        cases hb2 : Nat.ble ((es.length + (z :: zs).length) * ei.bytes) 140737488355328 with
                        | false => rw [hb2] at h; simp [withSt] at h
                        | true =>
                          rw [hb2, cond_true] at h
                          cases tk with
                          | nil => simp only [grown] at h; cases hd : dst.any (Γ.hard f) <;> rw [hd] at h <;> simp [withSt] at h
                          | full =>
                            simp only [] at h
                            cases hs : sized ei.size es <;> rw [hs] at h
                            · simp [withSt] at h
                            · simp only [grown] at h; cases hd : dst.any (Γ.hard f) <;> rw [hd] at h <;> simp [withSt] at h
                          | ro => simp [withSt] at h
                          | tk id =>
                            simp only [] at h
                            split at h
                            · rename_i sz _
                              cases hq : Nat.beq sz ei.size && _ && _ <;> rw [hq] at h <;> simp [withSt, grown] at h
                            · simp [withSt] at h
                      | rs e' sz b off len =>
                        simp only [appendTo] at h
                        split at h
                        · cases hq : Nat.ble ((len + (z :: zs).length) * ei.bytes) 140737488355328 && _ && _ && _ && _ && _ <;> rw [hq] at h <;> simp [withSt] at h
                        · simp [withSt] at h
                      | _ => simp [appendTo, withSt] at h
              · simp [withSt] at h
          simp only [builtinX] at h ⊢
          split at h
          · cases h
          · rename_i ui hu
            split at h
            · rename_i q hq; try simp only [hq]
              exact main h
            · rename_i hq; try simp only [hq]
              exact main h
            · cases h
        | [], _, h, _ => simp [builtinX] at h
        | [_], _, h, _ => simp [builtinX] at h
        | _ :: _ :: _, [], h, _ => simp [builtinX] at h
        | _ :: _ :: _, [_], h, _ => simp [builtinX] at h
      | min => match V, h with
        | _ :: _, h => simp only [builtinX] at h ⊢; exact h
        | [], h => simp [builtinX] at h
      | max => match V, h with
        | _ :: _, h => simp only [builtinX] at h ⊢; exact h
        | [], h => simp [builtinX] at h
      | _ => simp [builtinX] at h
    | value x =>
      have hs : s' = s := ha rfl
      subst hs
      simp only [opx, hevf] at h ⊢
      split at h
      · rename_i hf caps vs r hq he
        obtain ⟨rfl, hk⟩ := thenOut_quiet h
        obtain ⟨rfl, h1⟩ := escapes_quiet _ he
        rw [escapes_of _ h1]
        simp only [hq, thenOut]
        split at hk
        · rename_i v1 s1 hc
          try rw [hc]
          cases hsc : Γ.scope hf <;> rw [hsc] at hk
          · simp at hk
          · simp only [cond_true] at hk ⊢; exact hk
        · cases hk
      · cases h
    | invoke _ _ => simp [opx] at h
  | pick c x y => simp only [opx, hev] at h ⊢; exact h
  | build t ps =>
    simp only [opx, hevf] at h ⊢
    split at h
    · rename_i vs r he
      obtain ⟨rfl, hk⟩ := thenOut_quiet h
      obtain ⟨rfl, h1⟩ := escapes_quiet _ he
      rw [escapes_of _ h1]
      exact hk
    · cases h
  | nilCheck x => simp only [opx, hev] at h ⊢; exact h
  | extract t i => simp only [opx, hev] at h ⊢; exact h
  | move x => simp only [opx, hev] at h ⊢; exact h
  | binOp op t x y yt => simp only [opx, hev] at h ⊢; exact h
  | unOp op t x => simp only [opx, hev] at h ⊢; exact h
  | fieldAddr t x j => simp only [opx, hev] at h ⊢; exact h
  | field t x j => simp only [opx, hev] at h ⊢; exact h
  | indexAddr t x i => simp only [opx, hev] at h ⊢; exact h
  | index t x i => simp only [opx, hev] at h ⊢; exact h
  | _ => simp [opx] at h
end
end Go.Vm

namespace Go.Vm
noncomputable section

theorem vis_set {s : St} {b id : Nat} {o : Obj} {nx : Nat} (h : id ≠ b) : vis { s with next := nx, objs := s.objs.set b o } id = vis s id := by
  unfold vis; simp only [Tr.get_set, if_neg h]
theorem vis_put {s : St} {b id : Nat} {x : Option Obj} (h : id ≠ b) : vis { s with objs := s.objs.put b x } id = vis s id := by
  unfold vis; simp only [Tr.get_put, if_neg h]

/-- What is turned: at most these locals, at most these rows and maps of the store. -/
structure Turns (g : Fr) (s : St) (g1 : Fr) (s1 : St) (wl wi : List Nat) : Prop where
  tm : g1.tm = g.tm
  nt : g1.nt = g.nt
  lo : ∀ t, t ∉ wl → g1.lo.get t = g.lo.get t
  vs : ∀ id, id < s.next → id ∉ wi → vis s1 id = vis s id
  nx : s.next ≤ s1.next

theorem Turns.refl (g : Fr) (s : St) : Turns g s g s [] [] := ⟨rfl, rfl, fun _ _ => rfl, fun _ _ _ => rfl, Nat.le_refl _⟩
theorem Turns.more {g g1 : Fr} {s s1 : St} {wl wi wl' wi' : List Nat} (h : Turns g s g1 s1 wl wi) (h1 : ∀ t, t ∈ wl → t ∈ wl') (h2 : ∀ t, t ∈ wi → t ∈ wi') : Turns g s g1 s1 wl' wi' :=
  ⟨h.tm, h.nt, fun t ht => h.lo t fun h' => ht (h1 t h'), fun id hl hid => h.vs id hl fun h' => hid (h2 id h'), h.nx⟩
theorem Turns.trans {g g1 g2 : Fr} {s s1 s2 : St} {wl wi wl' wi' wi2 : List Nat} (h : Turns g s g1 s1 wl wi) (h' : Turns g1 s1 g2 s2 wl' wi') (hw : ∀ id, id < s.next → id ∈ wi' → id ∈ wi2) :
    Turns g s g2 s2 (wl ++ wl') (wi ++ wi2) :=
  ⟨h'.tm.trans h.tm, h'.nt.trans h.nt, fun t ht => by rw [h'.lo t fun q => ht (by simp [q]), h.lo t fun q => ht (by simp [q])],
    fun id hl hid => by rw [h'.vs id (Nat.lt_of_lt_of_le hl h.nx) fun q => hid (by simp [hw id hl q]), h.vs id hl fun q => hid (by simp [q])], Nat.le_trans h.nx h'.nx⟩

theorem promote_turns {g g1 : Fr} {s s1 : St} {t b : Nat} (h : promote g s t = some (b, g1, s1)) : Turns g s g1 s1 [t] [] := by
  unfold promote at h
  split at h
  · simp only [Option.some.injEq, Prod.mk.injEq] at h
    obtain ⟨rfl, rfl, rfl⟩ := h
    exact ⟨rfl, rfl, fun t' ht => by show (g.lo.set t _).get t' = _; rw [Tr.get_set, if_neg (by simpa using ht)], fun id hl _ => vis_set (by omega), by show s.next ≤ s.next + 1; omega⟩
  · simp only [Option.some.injEq, Prod.mk.injEq] at h
    obtain ⟨rfl, rfl, rfl⟩ := h
    exact (Turns.refl g s).more (by simp) (by simp)
  · simp only [Option.some.injEq, Prod.mk.injEq] at h
    obtain ⟨rfl, rfl, rfl⟩ := h
    exact ⟨rfl, rfl, fun t' ht => by show (g.lo.set t _).get t' = _; rw [Tr.get_set, if_neg (by simpa using ht)], fun id hl _ => vis_set (by omega), by show s.next ≤ s.next + 1; omega⟩
  · cases h
theorem escape_turns {g : Fr} {s : St} {v v' : AV} {r : Option (Fr × St)} (h : escape g s v = some (v', r)) : Turns g s (r.getD (g, s)).1 (r.getD (g, s)).2 (lpKey v) [] := by
  rcases escape_cases h with ⟨_, _, rfl⟩ | ⟨t, id, g1, s1, h1, _, h3, _, rfl⟩
  · exact (Turns.refl g s).more (by simp) (by simp)
  · rw [lpKey_key, h1]; exact promote_turns h3
theorem escapes_turns : ∀ (vs : List AV) {g : Fr} {s : St} {vs' : List AV} {r : Option (Fr × St)}, escapes g s vs = some (vs', r) → Turns g s (r.getD (g, s)).1 (r.getD (g, s)).2 (vs.flatMap lpKey) []
  | [], g, s, vs', r, h => by
    simp only [escapes, Option.some.injEq, Prod.mk.injEq] at h
    obtain ⟨rfl, rfl⟩ := h; exact Turns.refl g s
  | v :: vs, g, s, vs', r, h => by
    simp only [escapes] at h
    split at h
    · cases h
    · rename_i v1 he
      split at h
      · cases h
      · rename_i vs1 r1 hs
        simp only [Option.some.injEq, Prod.mk.injEq] at h
        obtain ⟨rfl, rfl⟩ := h
        exact (escapes_turns vs hs).more (by simp; exact fun t h1 h2 h3 => .inr ⟨_, h2, h3⟩) (by simp)
    · rename_i v1 g1 s1 he
      have k1 := escape_turns he
      simp only [Option.getD_some] at k1
      split at h
      · cases h
      · rename_i vs1 hs
        simp only [Option.some.injEq, Prod.mk.injEq] at h
        obtain ⟨rfl, rfl⟩ := h
        exact k1.more (fun t ht => by simp only [List.flatMap_cons, List.mem_append]; exact .inl ht) (by simp)
      · rename_i vs1 r1 hs
        simp only [Option.some.injEq, Prod.mk.injEq] at h
        obtain ⟨rfl, rfl⟩ := h
        have k2 := escapes_turns vs hs
        simp only [Option.getD_some] at k2 ⊢
        exact (k1.trans k2 (wi2 := []) (by simp)).more (fun t ht => by simpa only [List.flatMap_cons, List.mem_append] using ht) (by simp)

theorem storeAt_turns {g g1 : Fr} {s s1 : St} {p : AV} {vs : List AV} (h : storeAt g s p vs = some (g1, s1)) : Turns g s g1 s1 (lpKey p) (hpIds g p) ∧ (hpIds g p = [] → s1 = s) := by
  have inSt : ∀ b off, (match s.cellsAt b with
      | some cs => cond (Nat.ble s.lock b && Nat.ble (off + vs.length) cs.length) (some (g, { s with objs := s.objs.set b (.cells (setAll cs off vs)) })) none
      | none => none) = some (g1, s1) → Turns g s g1 s1 [] [b] := by
    intro b off h
    split at h
    · rename_i cs _
      cases hb : Nat.ble s.lock b && Nat.ble (off + vs.length) cs.length <;> rw [hb] at h
      · cases h
      · simp only [cond_true, Option.some.injEq, Prod.mk.injEq] at h
        obtain ⟨rfl, rfl⟩ := h
        exact ⟨rfl, rfl, fun _ _ => rfl, fun id _ hid => vis_set (nx := s.next) (by simpa using hid), Nat.le_refl _⟩
    · cases h
  cases p with
  | hp b off => exact ⟨inSt b off h, fun e => by cases e⟩
  | lp t off =>
    simp only [storeAt] at h
    cases ho : g.lo.get t with
    | none => rw [ho] at h; cases h
    | some o => cases o with
      | own cs =>
        rw [ho] at h
        simp only at h
        cases hb : Nat.ble (off + vs.length) cs.length <;> rw [hb] at h
        · cases h
        · simp only [cond_true, Option.some.injEq, Prod.mk.injEq] at h
          obtain ⟨rfl, rfl⟩ := h
          exact ⟨⟨rfl, rfl, fun t' ht => by show (g.lo.set t _).get t' = _; rw [Tr.get_set, if_neg (by simpa [lpKey] using ht)], fun _ _ _ => rfl, Nat.le_refl _⟩, fun _ => rfl⟩
      | fwd b =>
        rw [ho] at h
        refine ⟨(inSt b off h).more (by simp) (by simp [hpIds, ho]), fun e => ?_⟩
        simp [hpIds, ho] at e
      | map0 => rw [ho] at h; cases h
  | _ => cases h

theorem mapSet_turns {Γ : Ctx} {g : Fr} {s : St} {t : TypeId} {m k v x : AV} {r : Option (Fr × St)} (h : mapSet Γ g s t m k v = some (x, r)) : Turns g s (r.getD (g, s)).1 (r.getD (g, s)).2 [] (rsIds m) := by
  unfold mapSet at h
  split at h
  · cases h
  · split at h
    · rename_i b _
      split at h
      · rename_i ki kvs _ _
        cases hb : isKey ki.und k && Nat.ble s.lock b && !v.isLp <;> rw [hb] at h
        · cases h
        · rw [cond_true] at h
          split at h
          · simp only [Option.some.injEq, Prod.mk.injEq] at h
            obtain ⟨_, rfl⟩ := h
            exact ⟨rfl, rfl, fun _ _ => rfl, fun id _ hid => vis_set (nx := s.next) (by simpa [rsIds] using hid), Nat.le_refl _⟩
          · cases h
      · cases h
    · cases h

theorem grown_turns {hard : Bool} {s s1 : St} {e : TypeId} {sz : Nat} {objs : Tr Obj} {es : List AV} {v : AV} {wi : List Nat} (ho : ∀ id, id ∉ wi → vis { s with objs := objs } id = vis s id) (h : grown hard s e sz objs es = (v, some s1)) (g : Fr) :
    Turns g s g s1 [] wi := by
  unfold grown at h
  cases hard
  · simp only [cond_false, Prod.mk.injEq, Option.some.injEq] at h
    obtain ⟨_, rfl⟩ := h
    exact ⟨rfl, rfl, fun _ _ => rfl, fun id hl hid => by rw [← ho id hid]; exact vis_set (s := { s with objs := objs }) (by omega), by show s.next ≤ s.next + 1; omega⟩
  · simp only [cond_true, Prod.mk.injEq, Option.some.injEq] at h
    obtain ⟨_, rfl⟩ := h
    exact ⟨rfl, rfl, fun _ _ => rfl, fun id hl hid => by rw [← ho id hid]; exact vis_set (s := { s with objs := objs }) (by omega), by show s.next ≤ s.next + 1; omega⟩

theorem append_turns {Γ : Ctx} {hard : Bool} {s s1 : St} {t : TypeId} {x y v : AV} (h : append Γ hard s t x y = some (v, some s1)) (g : Fr) : Turns g s g s1 [] (rsIds x) := by
  unfold append at h
  split at h
  · cases h
  · split at h
    · split at h
      · cases h
      · rename_i ei hei
        split at h
        · cases h
        · cases hh : hard <;> rw [hh] at h
          · rw [cond_false] at h; split at h <;> simp at h
          · cases h
        · rename_i z zs hc
          cases hb : Nat.blt 0 ei.size && Nat.blt 0 ei.bytes && sized ei.size (z :: zs) && ei.zero.any fun z => Nat.beq z.cells.size ei.size with
          | false => rw [hb] at h; cases h
          | true =>
            rw [hb, cond_true] at h
            cases x with
            | sl tk es =>
              simp only [appendTo] at h
              cases hb2 : Nat.ble ((es.length + (z :: zs).length) * ei.bytes) 140737488355328 with
              | false => rw [hb2] at h; cases h
              | true =>
                rw [hb2, cond_true] at h
                cases tk with
                | nil => injection h with h; exact grown_turns (fun _ _ => rfl) h g
                | full =>
                  simp only [] at h
                  cases hs : sized ei.size es <;> rw [hs] at h
                  · cases h
                  · injection h with h; exact grown_turns (fun _ _ => rfl) h g
                | ro => cases h
                | tk id =>
                  simp only [] at h
                  split at h
                  · rename_i sz hg
                    cases hq : Nat.beq sz ei.size && _ && _ <;> rw [hq] at h
                    · cases h
                    · injection h with h
                      refine grown_turns (fun i _ => ?_) h g
                      by_cases hi : i = id
                      · subst hi; unfold vis; simp only [Tr.get_put, if_true, hg]
                      · exact vis_put hi
                  · cases h
            | rs e' sz b off len =>
              simp only [appendTo] at h
              split at h
              · cases hq : Nat.ble ((len + (z :: zs).length) * ei.bytes) 140737488355328 && _ && _ && _ && _ && _ <;> rw [hq] at h
                · cases h
                · simp only [cond_true, Option.some.injEq, Prod.mk.injEq] at h
                  obtain ⟨_, rfl⟩ := h
                  refine ⟨rfl, rfl, fun _ _ => rfl, fun id hl hid => ?_, by show s.next ≤ s.next + 1; omega⟩
                  have e1 : vis { s with objs := s.objs.put b none } id = vis s id := vis_put (by simpa [rsIds] using hid)
                  rw [← e1]; exact vis_set (s := { s with objs := s.objs.put b none }) (by omega)
              · cases h
            | _ => cases h
    · cases h

theorem makeSlice_turns {Γ : Ctx} {s s1 : St} {t : TypeId} {l c v : AV} (h : makeSlice Γ s t l c = some (v, some s1)) (g : Fr) : Turns g s g s1 [] [] := by
  unfold makeSlice at h
  split at h
  · rename_i ti l' c' ht hl' hc'
    split at h
    · split at h
      · rename_i ei hei
        split at h
        · rename_i z hz
          cases hb : Nat.ble (c' * ei.bytes) 140737488355328 && Nat.ble c' 140737488355328 && Nat.blt 0 ei.size && fits ei (.ofValue z) with
          | false => rw [hb] at h; cases h
          | true =>
            rw [hb, cond_true] at h
            have fin : ∀ o, Turns g s g { s with next := s.next + 1, objs := s.objs.set s.next o } [] [] := fun o =>
              ⟨rfl, rfl, fun _ _ => rfl, fun id hl _ => vis_set (by omega), by show s.next ≤ s.next + 1; omega⟩
            cases h0 : Nat.beq c' 0 with
            | true => rw [h0, cond_true] at h; cases h1 : Nat.beq l' 0 <;> rw [h1] at h <;> simp at h
            | false =>
              rw [h0, cond_false] at h
              cases h1 : Nat.beq l' c' <;> rw [h1] at h
              · rw [cond_false] at h
                cases h2 : Nat.beq l' 0 <;> rw [h2] at h
                · cases h
                · simp only [cond_true, Option.some.injEq, Prod.mk.injEq] at h
                  obtain ⟨_, rfl⟩ := h; exact fin _
              · simp only [cond_true, Option.some.injEq, Prod.mk.injEq] at h
                obtain ⟨_, rfl⟩ := h; exact fin _
        · cases h
      · cases h
    · cases h
  · cases h

theorem withSt_inv {g g1 : Fr} {s1 : St} {r : Option (AV × Option St)} {v : AV} (h : withSt g r = some (v, some (g1, s1))) : r = some (v, some s1) ∧ g1 = g := by
  cases r with
  | none => cases h
  | some p =>
    obtain ⟨v1, r⟩ := p
    cases r with
    | none => simp [withSt] at h
    | some s2 => simp only [withSt, Option.some.injEq, Prod.mk.injEq] at h; obtain ⟨rfl, rfl, rfl⟩ := h; exact ⟨rfl, rfl⟩
theorem quiet_not {x : Option AV} {v : AV} {p : Fr × St} : quiet x ≠ some (v, some p) := by cases x <;> simp [quiet]

structure TurnsBy (g : Fr) (s : St) (g1 : Fr) (s1 : St) (e : Eff) : Prop where
  tm : g1.tm = g.tm
  nt : g1.nt = g.nt
  lo : ∀ t, t ∉ e.wl → g1.lo.get t = g.lo.get t
  hw : e.hw = false → s1 = s
  vs : e.all = false → ∀ id, id < e.nx → id ∉ e.wi → vis s1 id = vis s id
  lou : e.loud = true

theorem Turns.by {g g1 : Fr} {s s1 : St} {e : Eff} (h : Turns g s g1 s1 e.wl e.wi) (h1 : e.hw = false → s1 = s) (h2 : e.nx = s.next) (h3 : e.loud = true) : TurnsBy g s g1 s1 e :=
  ⟨h.tm, h.nt, h.lo, h1, fun _ id hl hid => h.vs id (by omega) hid, h3⟩

theorem opx_turns (Γ : Ctx) (call : CallT) (f : FuncId) (g : Fr) (s : St) (dst : Option Tmp) (op : Op) {v : AV} {g1 : Fr} {s1 : St} (h : opx Γ call f g s dst op = some (v, some (g1, s1))) :
    TurnsBy g s g1 s1 (effW Γ f g s dst op) := by
  cases op with
  | assign x =>
    simp only [opx] at h
    exact (escape_turns h).by (by simp [effW]) rfl rfl
  | alloc e =>
    simp only [opx] at h
    split at h
    · rename_i i d hty
      split at h
      · rename_i z hz hd
        cases hf : fits i (.ofValue z) <;> rw [hf] at h
        · cases h
        · simp only [cond_true, Option.some.injEq, Prod.mk.injEq] at h
          obtain ⟨rfl, rfl, rfl⟩ := h
          exact ⟨rfl, rfl, fun t ht => by show (g.lo.set d _).get t = _; rw [Tr.get_set, if_neg (by simpa [effW] using ht)], fun _ => rfl, fun _ _ _ _ => rfl, rfl⟩
      · cases h
    · cases h
  | box e x =>
    simp only [opx] at h
    split at h
    · rename_i d v1 r he
      obtain ⟨r2, hk, h2⟩ := thenOut_inv h
      split at hk
      · cases hf : v1.isPart <;> rw [hf] at hk
        · cases hk
        · simp only [cond_true, Option.some.injEq, Prod.mk.injEq] at hk
          obtain ⟨rfl, rfl⟩ := hk
          simp only [Option.getD_some, Prod.mk.injEq] at h2
          obtain ⟨rfl, rfl⟩ := h2
          have k := escape_turns he
          refine Turns.by ⟨k.tm, k.nt, fun t ht => ?_, fun id hl hid => k.vs id hl (by simp), k.nx⟩ (fun hx => ?_) rfl rfl
          · simp only [effW, Option.toList_some, List.cons_append, List.nil_append, List.mem_cons, not_or] at ht
            show (Tr.set _ d _).get t = _
            rw [Tr.get_set, if_neg ht.1, k.lo t ht.2]
          · rw [escape_of hx] at he
            simp only [Option.some.injEq, Prod.mk.injEq] at he
            obtain ⟨_, rfl⟩ := he; rfl
      · cases hk
    · cases h
  | buildSlice t len ps =>
    simp only [opx] at h
    split at h
    · cases h
    · split at h
      · split at h
        · rename_i es hes
          cases hh : dst.any (Γ.hard f) && !es.isEmpty with
          | true =>
            rw [hh] at h
            simp only [cond_true, Option.some.injEq, Prod.mk.injEq] at h
            obtain ⟨_, rfl, rfl⟩ := h
            exact Turns.by (e := effW Γ f g s dst (.buildSlice t len ps)) ⟨rfl, rfl, fun _ _ => rfl, fun id hl _ => vis_set (by omega), by show s.next ≤ s.next + 1; omega⟩ (by simp [effW]) rfl rfl
          | false => rw [hh] at h; simp at h
        · cases h
      · cases h
  | load t p =>
    simp only [opx] at h
    split at h
    · exact (quiet_not h).elim
    · cases h
  | store t p x =>
    simp only [opx] at h
    split at h
    · rename_i i v1 r hi he
      obtain ⟨r2, hk, h2⟩ := thenOut_inv h
      cases hb : v1.isPart && Nat.beq v1.cells.length i.size with
      | false => rw [hb] at hk; cases hk
      | true =>
        rw [hb, cond_true] at hk
        split at hk
        · rename_i gs hst
          simp only [Option.some.injEq, Prod.mk.injEq] at hk
          obtain ⟨rfl, rfl⟩ := hk
          simp only [Option.getD_some] at h2
          subst h2
          have k := escape_turns he
          have hgp : (r.getD (g, s)).1.ev p = g.ev p := by cases p <;> simp only [Fr.ev, k.tm]
          obtain ⟨k2, k3⟩ := storeAt_turns hst
          rw [hgp] at k2 k3
          have hids : ∀ id, id < s.next → id ∈ hpIds (r.getD (g, s)).1 (g.ev p) → id ∈ hpIds g (g.ev p) := by
            intro id hl hid
            cases hp : g.ev p with
            | hp b off => rw [hp] at hid; exact hid
            | lp t off =>
              rw [hp] at hid
              have prom : ∀ {t' b' : Nat} {g' : Fr} {s' : St}, promote g s t' = some (b', g', s') → id ∈ hpIds g' (.lp t off) → id ∈ hpIds g (.lp t off) := by
                intro t' b' g' s' hq hid
                unfold promote at hq
                split at hq
                · simp only [Option.some.injEq, Prod.mk.injEq] at hq
                  obtain ⟨_, rfl, _⟩ := hq
                  simp only [hpIds, Tr.get_set] at hid ⊢
                  by_cases ht : t = t'
                  · rw [if_pos ht] at hid; simp at hid; omega
                  · rw [if_neg ht] at hid; exact hid
                · simp only [Option.some.injEq, Prod.mk.injEq] at hq
                  obtain ⟨_, rfl, _⟩ := hq; exact hid
                · simp only [Option.some.injEq, Prod.mk.injEq] at hq
                  obtain ⟨_, rfl, _⟩ := hq
                  simp only [hpIds, Tr.get_set] at hid ⊢
                  by_cases ht : t = t'
                  · rw [if_pos ht] at hid; simp at hid; omega
                  · rw [if_neg ht] at hid; exact hid
                · cases hq
              rcases escape_cases he with ⟨_, _, rfl⟩ | ⟨t', id', g1, s1, h1, _, h3, _, rfl⟩
              · exact hid
              · exact prom h3 hid
            | _ => rw [hp] at hid; simp [hpIds] at hid
          have T := (k.trans k2 hids).more (wl' := lpKey (g.ev p) ++ lpKey (g.ev x)) (wi' := hpIds g (g.ev p)) (fun t ht => by simp only [List.mem_append] at ht ⊢; exact ht.symm) (by simp)
          refine Turns.by T (fun hx => ?_) rfl rfl
          simp only [effW, Bool.or_eq_false_iff, Bool.not_eq_false', List.isEmpty_iff] at hx
          rw [escape_of hx.1] at he
          simp only [Option.some.injEq, Prod.mk.injEq] at he
          obtain ⟨_, rfl⟩ := he
          exact k3 hx.2
        · cases hk
    · cases h
  | makeFunc fn first caps =>
    cases fn with
    | func hf =>
      simp only [opx] at h
      cases hb : first.isEmpty <;> rw [hb] at h
      · cases h
      · rw [cond_true] at h
        split at h
        · rename_i vs r he
          simp only [Option.some.injEq, Prod.mk.injEq] at h
          obtain ⟨_, rfl⟩ := h
          exact (escapes_turns _ he).by (by simp [effW]) rfl rfl
        · cases h
    | _ => simp [opx] at h
  | makeMap t r =>
    simp only [opx] at h
    split at h
    · cases h
    · split at h
      · cases hb : r.isNone || r.any fun x => (asNat (g.ev x)).isSome <;> rw [hb] at h
        · cases h
        · rw [cond_true] at h
          cases hh : dst.any (Γ.hard f) with
          | true =>
            rw [hh, cond_true] at h
            have he : effW Γ f g s dst (.makeMap t r) = ⟨[], [], false, dst.toList, [], s.next, true, false, false, [], .none⟩ := by simp only [effW, hh, cond_true]
            rw [he]
            split at h
            · rename_i d
              split at h
              · simp only [Option.some.injEq, Prod.mk.injEq] at h
                obtain ⟨rfl, rfl, rfl⟩ := h
                exact ⟨rfl, rfl, fun t ht => by show (g.lo.set d _).get t = _; rw [Tr.get_set, if_neg (by simpa using ht)], fun _ => rfl, fun _ _ _ _ => rfl, rfl⟩
              · cases h
            · cases h
          | false =>
            rw [hh, cond_false] at h
            have he : effW Γ f g s dst (.makeMap t r) = ⟨[], [], false, [], [], s.next, true, true, false, [], .none⟩ := by simp only [effW, hh, cond_false]
            rw [he]
            simp only [Option.some.injEq, Prod.mk.injEq] at h
            obtain ⟨_, rfl, rfl⟩ := h
            exact Turns.by ⟨rfl, rfl, fun _ _ => rfl, fun id hl _ => vis_set (by omega), by show s.next ≤ s.next + 1; omega⟩ (by simp) rfl rfl
      · cases h
  | makeSlice t l c =>
    simp only [opx] at h
    cases hh : dst.any (Γ.hard f) with
    | true =>
      rw [hh, cond_true] at h
      have he : effW Γ f g s dst (.makeSlice t l c) = ⟨[], [], false, dst.toList, [], s.next, true, false, false, [], .none⟩ := by simp only [effW, hh, cond_true]
      rw [he]
      split at h
      · rename_i d e sz n cs hro
        split at h
        · simp only [Option.some.injEq, Prod.mk.injEq] at h
          obtain ⟨rfl, rfl, rfl⟩ := h
          exact ⟨rfl, rfl, fun t ht => by show (g.lo.set d _).get t = _; rw [Tr.get_set, if_neg (by simpa using ht)], fun _ => rfl, fun _ _ _ _ => rfl, rfl⟩
        · cases h
      · cases h
    | false =>
    rw [hh, cond_false] at h
    have he : effW Γ f g s dst (.makeSlice t l c) = ⟨[], [], false, [], [], s.next, true, true, false, [], .none⟩ := by simp only [effW, hh, cond_false]
    rw [he]
    obtain ⟨h1, rfl⟩ := withSt_inv h
    exact (makeSlice_turns h1 g1).by (by simp) rfl rfl
  | slice t x lw up mx =>
    simp only [opx] at h
    cases hm : mx.isSome with
    | true => rw [hm] at h; cases h
    | false =>
      rw [hm, cond_false] at h
      split at h
      · rename_i k off hx
        split at h
        · rename_i b g2 s2 hp
          split at h
          · simp only [Option.some.injEq, Prod.mk.injEq] at h
            obtain ⟨_, rfl, rfl⟩ := h
            exact ((promote_turns hp).more (by simp [effW, hx, lpKey]) (by simp)).by (by simp [effW]) rfl rfl
          · cases h
        · cases h
      · exact (quiet_not h).elim
  | mapUpdate t m k x =>
    simp only [opx] at h
    split at h
    · rename_i v1 r he
      obtain ⟨r2, hk, h2⟩ := thenOut_inv h
      have k1 := escape_turns he
      have k2 := mapSet_turns hk
      have e : (r.getD (g, s)).1.ev m = g.ev m := by cases m <;> simp only [Fr.ev, k1.tm]
      rw [e] at k2
      have T := (k1.trans k2 (wi2 := rsIds (g.ev m)) (fun _ _ h => h)).more (wl' := lpKey (g.ev x)) (wi' := rsIds (g.ev m)) (by simp) (by simp)
      have e2 : r2.getD ((r.getD (g, s)).1, (r.getD (g, s)).2) = (g1, s1) := h2.symm
      rw [e2] at T
      exact T.by (by simp [effW]) rfl rfl
    · cases h
  | mapEntry t m k =>
    simp only [opx] at h
    obtain ⟨h1, rfl⟩ := withSt_inv h
    obtain ⟨b, kvs, hm, h2⟩ := mapEnter_loud h1
    injection h2 with h2; subst h2
    exact Turns.by (e := effW Γ f g1 s dst (.mapEntry t m k)) ⟨rfl, rfl, fun _ _ => rfl, fun id _ hid => vis_set (nx := s.next) (by simpa [effW, hm, rsIds] using hid), Nat.le_refl _⟩ (by simp [effW]) rfl rfl
  | entryStore t m i x =>
    simp only [opx] at h
    obtain ⟨h1, rfl⟩ := withSt_inv h
    obtain ⟨b, kvs, hm, h2⟩ := mapFill_loud h1
    injection h2 with h2; subst h2
    exact Turns.by (e := effW Γ f g1 s dst (.entryStore t m i x)) ⟨rfl, rfl, fun _ _ => rfl, fun id _ hid => vis_set (nx := s.next) (by simpa [effW, hm, rsIds] using hid), Nat.le_refl _⟩ (by simp [effW]) rfl rfl
  | insert t m k x =>
    simp only [opx] at h
    split at h
    · rename_i v1 r he
      obtain ⟨r2, hk, h2⟩ := thenOut_inv h
      have k1 := escape_turns he
      have k2 := mapSet_turns hk
      have e : (r.getD (g, s)).1.ev m = g.ev m := by cases m <;> simp only [Fr.ev, k1.tm]
      rw [e] at k2
      have T := (k1.trans k2 (wi2 := rsIds (g.ev m)) (fun _ _ h => h)).more (wl' := lpKey (g.ev x)) (wi' := rsIds (g.ev m)) (by simp) (by simp)
      have e2 : r2.getD ((r.getD (g, s)).1, (r.getD (g, s)).2) = (g1, s1) := h2.symm
      rw [e2] at T
      exact T.by (by simp [effW]) rfl rfl
    · cases h
  | call c =>
    obtain ⟨callee, args, argTypes⟩ := c
    cases callee with
    | builtin b =>
      simp only [opx] at h
      have hmem : ∀ x rest, args.toList.map g.ev = x :: rest → ∀ id, id ∈ rsIds x → id ∈ (args.toList.map g.ev).flatMap rsIds := fun x rest e id hid => by rw [e]; simp [hid]
      cases b with
      | append =>
        generalize hT : argTypes.toList = T at h
        generalize hV : args.toList.map g.ev = V at h hmem
        match T, V, h, hmem with
        | t :: u :: _, x :: y :: zs, h, hmem =>
          have main : withSt g (append Γ (dst.any (Γ.hard f)) s t x y) = some (v, some (g1, s1)) → TurnsBy g s g1 s1 (effW Γ f g s dst (.call ⟨.builtin .append, args, argTypes⟩)) := fun h => by
            obtain ⟨h1, rfl⟩ := withSt_inv h
            refine ((append_turns h1 g1).more (by simp) fun id hid => ?_).by (by simp [effW]) rfl rfl
            show id ∈ (args.toList.map g1.ev).flatMap rsIds
            rw [hV]; exact hmem x _ rfl id hid
          simp only [builtinX] at h
          split at h
          · cases h
          · split at h
            · exact main h
            · exact main h
            · cases h
        | [], _, h, _ => simp [builtinX] at h
        | [_], _, h, _ => simp [builtinX] at h
        | _ :: _ :: _, [], h, _ => simp [builtinX] at h
        | _ :: _ :: _, [_], h, _ => simp [builtinX] at h
      | len =>
        generalize argTypes.toList = T at h
        generalize args.toList.map g.ev = V at h
        match T, V, h with
        | t :: _, x :: _, h =>
          simp only [builtinX] at h
          split at h
          · cases h
          · exact (quiet_not h).elim
        | [], _, h => simp [builtinX] at h
        | _ :: _, [], h => simp [builtinX] at h
      | min =>
        generalize argTypes.toList = T at h
        generalize args.toList.map g.ev = V at h
        match V, h with
        | x :: _, h => exact (quiet_not h).elim
        | [], h => simp [builtinX] at h
      | max =>
        generalize argTypes.toList = T at h
        generalize args.toList.map g.ev = V at h
        match V, h with
        | x :: _, h => exact (quiet_not h).elim
        | [], h => simp [builtinX] at h
      | _ => simp [builtinX] at h
    | value x =>
      simp only [opx] at h
      split at h
      · rename_i hf caps vs r hq he
        obtain ⟨r2, hk, h2⟩ := thenOut_inv h
        have k := escapes_turns _ he
        split at hk
        · rename_i v1 s2 hc
          cases hsc : Γ.scope hf <;> rw [hsc] at hk
          · simp only [cond_false, Option.some.injEq, Prod.mk.injEq] at hk
            obtain ⟨_, rfl⟩ := hk
            simp only [Option.getD_some, Prod.mk.injEq] at h2
            obtain ⟨rfl, rfl⟩ := h2
            exact ⟨k.tm, k.nt, k.lo, by simp [effW], fun h => by simp [effW, hq, hsc] at h, rfl⟩
          · simp only [cond_true, Option.some.injEq, Prod.mk.injEq] at hk
            obtain ⟨_, rfl⟩ := hk
            simp only [Option.getD_some, Option.getD_none] at h2
            rw [← h2] at k
            exact k.by (by simp [effW]) rfl rfl
        · cases hk
      · cases h
    | invoke _ _ => simp [opx] at h
  | pick c x y => simp only [opx] at h; split at h <;> simp at h
  | build t ps =>
    simp only [opx] at h
    split at h
    · rename_i vs r he
      obtain ⟨r2, hk, h2⟩ := thenOut_inv h
      cases r2 with
      | some p => exact (quiet_not hk).elim
      | none =>
        simp only [Option.getD_none, Option.getD_some] at h2
        have T := escapes_turns _ he
        rw [← h2] at T
        exact T.by (e := effW Γ f g s dst (.build t ps)) (by simp [effW]) rfl rfl
    · cases h
  | nilCheck x => simp only [opx] at h; split at h <;> simp at h
  | extract t i => simp only [opx] at h; split at h <;> first | exact (quiet_not h).elim | cases h
  | move x => simp [opx] at h
  | binOp op t x y yt => simp only [opx] at h; exact (quiet_not h).elim
  | unOp op t x => simp only [opx] at h; exact (quiet_not h).elim
  | convert a b x => simp only [opx] at h; exact (quiet_not h).elim
  | fieldAddr t x j => simp only [opx] at h; exact (quiet_not h).elim
  | field t x j => simp only [opx] at h; exact (quiet_not h).elim
  | indexAddr t x i => simp only [opx] at h; exact (quiet_not h).elim
  | index t x i => simp only [opx] at h; exact (quiet_not h).elim
  | lookup t x i ok => simp only [opx] at h; exact (quiet_not h).elim
  | _ => simp [opx] at h
end
end Go.Vm

namespace Go.Vm
noncomputable section

/-- The frame with other locals. -/
def Fr.lc (g : Fr) (lo : Tr LObj) : Fr := { g with lo := lo }
theorem lc_ev (g : Fr) (lo : Tr LObj) (x : Operand) : (g.lc lo).ev x = g.ev x := by cases x <;> rfl
theorem lc_evf (g : Fr) (lo : Tr LObj) : (g.lc lo).ev = g.ev := funext (lc_ev g lo)

/-- Locals that agree on A. -/
def Agr (A : List Nat) (lo lo' : Tr LObj) : Prop := ∀ t, t ∈ A → lo.get t = lo'.get t
/-- Locals that turned on A alone, to what the others turned to. -/
structure Fol (A : List Nat) (lo : Tr LObj) (g1 : Fr) (lo1 : Tr LObj) : Prop where
  in_ : Agr A lo1 g1.lo
  out : ∀ t, t ∉ A → lo1.get t = lo.get t

theorem promote_f {A : List Nat} {g g1 : Fr} {s s1 : St} {t b : Nat} (h : promote g s t = some (b, g1, s1)) {lo : Tr LObj} (ha : Agr A lo g.lo) (ht : t ∈ A) :
    ∃ lo1, promote (g.lc lo) s t = some (b, g1.lc lo1, s1) ∧ Fol A lo g1 lo1 := by
  unfold promote at h ⊢
  have e : (g.lc lo).lo.get t = g.lo.get t := ha t ht
  rw [e]
  split at h
  · rename_i cs ho
    simp only [Option.some.injEq, Prod.mk.injEq] at h
    obtain ⟨rfl, rfl, rfl⟩ := h
    refine ⟨lo.set t (.fwd s.next), rfl, fun k hk => ?_, fun k hk => ?_⟩
    · show (lo.set t _).get k = (g.lo.set t _).get k
      rw [Tr.get_set, Tr.get_set, ha k hk]
    · rw [Tr.get_set, if_neg (fun e => hk (by rw [e]; exact ht))]
  · rename_i b' ho
    simp only [Option.some.injEq, Prod.mk.injEq] at h
    obtain ⟨rfl, rfl, rfl⟩ := h
    exact ⟨lo, rfl, ha, fun _ _ => rfl⟩
  · simp only [Option.some.injEq, Prod.mk.injEq] at h
    obtain ⟨rfl, rfl, rfl⟩ := h
    refine ⟨lo.set t (.fwd s.next), rfl, fun k hk => ?_, fun k hk => ?_⟩
    · show (lo.set t _).get k = (g.lo.set t _).get k
      rw [Tr.get_set, Tr.get_set, ha k hk]
    · rw [Tr.get_set, if_neg (fun e => hk (by rw [e]; exact ht))]
  · cases h

/-- The frame and the store that an escape leaves, over other locals. -/
def lcR (lo1 : Tr LObj) (r : Option (Fr × St)) : Option (Fr × St) := r.map fun p => (p.1.lc lo1, p.2)

theorem escape_f {A : List Nat} {g : Fr} {s : St} {v v' : AV} {r : Option (Fr × St)} (h : escape g s v = some (v', r)) {lo : Tr LObj} (ha : Agr A lo g.lo) (hk : ∀ t, t ∈ lpKey v → t ∈ A) :
    ∃ lo1, escape (g.lc lo) s v = some (v', lcR lo1 r) ∧ Fol A lo (r.getD (g, s)).1 lo1 ∧ (r = none → lo1 = lo) := by
  rcases escape_cases h with ⟨h1, rfl, rfl⟩ | ⟨t, id, g1, s1, h1, h2, h3, rfl, rfl⟩
  · exact ⟨lo, by rw [escape_of (by rw [isLp_key, h1]; rfl)]; rfl, ⟨ha, fun _ _ => rfl⟩, fun _ => rfl⟩
  · have ht : t ∈ A := hk t (mem_lpKey.2 h1)
    obtain ⟨lo1, q1, q2⟩ := promote_f h3 ha ht
    refine ⟨lo1, ?_, q2, fun e => by cases e⟩
    have hl : lsOk ((g.lc lo).lo.get t) v = true := by
      have e : (g.lc lo).lo.get t = g.lo.get t := ha t ht
      rw [e]; exact h2
    exact escape_some h1 hl q1

theorem escapes_f {A : List Nat} : ∀ (vs : List AV) {g : Fr} {s : St} {vs' : List AV} {r : Option (Fr × St)}, escapes g s vs = some (vs', r) → ∀ {lo : Tr LObj}, Agr A lo g.lo → (∀ t, t ∈ vs.flatMap lpKey → t ∈ A) →
    ∃ lo1, escapes (g.lc lo) s vs = some (vs', lcR lo1 r) ∧ Fol A lo (r.getD (g, s)).1 lo1 ∧ (r = none → lo1 = lo)
  | [], g, s, vs', r, h, lo, ha, hk => by
    simp only [escapes, Option.some.injEq, Prod.mk.injEq] at h
    obtain ⟨rfl, rfl⟩ := h
    exact ⟨lo, rfl, ⟨ha, fun _ _ => rfl⟩, fun _ => rfl⟩
  | v :: vs, g, s, vs', r, h, lo, ha, hk => by
    simp only [escapes] at h
    have hk1 : ∀ t, t ∈ lpKey v → t ∈ A := fun t ht => hk t (by simp only [List.flatMap_cons, List.mem_append]; exact .inl ht)
    have hk2 : ∀ t, t ∈ vs.flatMap lpKey → t ∈ A := fun t ht => hk t (by simp only [List.flatMap_cons, List.mem_append]; exact .inr ht)
    split at h
    · cases h
    · rename_i v1 he
      obtain ⟨lo1, e1, e2, e3⟩ := escape_f he ha hk1
      have := e3 rfl; subst this
      split at h
      · cases h
      · rename_i vs1 r1 hs
        simp only [Option.some.injEq, Prod.mk.injEq] at h
        obtain ⟨rfl, rfl⟩ := h
        obtain ⟨lo2, f1, f2, f3⟩ := escapes_f vs hs ha hk2
        exact ⟨lo2, by simp only [escapes, e1, lcR, Option.map_none, f1], f2, f3⟩
    · rename_i v1 g1 s1 he
      obtain ⟨lo1, e1, e2, _⟩ := escape_f he ha hk1
      split at h
      · cases h
      · rename_i vs1 hs
        simp only [Option.some.injEq, Prod.mk.injEq] at h
        obtain ⟨rfl, rfl⟩ := h
        obtain ⟨lo2, f1, f2, f3⟩ := escapes_f vs hs (lo := lo1) e2.in_ hk2
        have := f3 rfl; subst this
        refine ⟨lo2, ?_, e2, fun e => by cases e⟩
        simp only [escapes, e1, lcR, Option.map_some, Option.map_none] at f1 ⊢
        rw [f1]
      · rename_i vs1 r1 hs
        simp only [Option.some.injEq, Prod.mk.injEq] at h
        obtain ⟨rfl, rfl⟩ := h
        obtain ⟨lo2, f1, f2, _⟩ := escapes_f vs hs (lo := lo1) e2.in_ hk2
        refine ⟨lo2, ?_, ⟨f2.in_, fun t ht => (f2.out t ht).trans (e2.out t ht)⟩, fun e => by cases e⟩
        simp only [escapes, e1, lcR, Option.map_some] at f1 ⊢
        rw [f1]

theorem storeAt_f {A : List Nat} {g g1 : Fr} {s s1 : St} {p : AV} {vs : List AV} (h : storeAt g s p vs = some (g1, s1)) {lo : Tr LObj} (ha : Agr A lo g.lo) (hk : ∀ t, t ∈ lpKey p → t ∈ A) :
    ∃ lo1, storeAt (g.lc lo) s p vs = some (g1.lc lo1, s1) ∧ Fol A lo g1 lo1 := by
  have inSt : ∀ b off, (match s.cellsAt b with
      | some cs => cond (Nat.ble s.lock b && Nat.ble (off + vs.length) cs.length) (some (g, { s with objs := s.objs.set b (.cells (setAll cs off vs)) })) none
      | none => none) = some (g1, s1) → g1 = g ∧ (match s.cellsAt b with
      | some cs => cond (Nat.ble s.lock b && Nat.ble (off + vs.length) cs.length) (some (g.lc lo, { s with objs := s.objs.set b (.cells (setAll cs off vs)) })) none
      | none => none) = some (g.lc lo, s1) := by
    intro b off h
    split at h
    · rename_i cs hcs
      cases hb : Nat.ble s.lock b && Nat.ble (off + vs.length) cs.length <;> rw [hb] at h
      · cases h
      · simp only [cond_true, Option.some.injEq, Prod.mk.injEq] at h ⊢
        obtain ⟨rfl, rfl⟩ := h
        exact ⟨rfl, by simp⟩
    · cases h
  cases p with
  | hp b off =>
    obtain ⟨rfl, h2⟩ := inSt b off h
    exact ⟨lo, h2, ha, fun _ _ => rfl⟩
  | lp t off =>
    have e : (g.lc lo).lo.get t = g.lo.get t := ha t (hk t (by simp [lpKey]))
    simp only [storeAt] at h ⊢
    rw [e]
    cases ho : g.lo.get t with
    | none => rw [ho] at h; cases h
    | some o => cases o with
      | own cs =>
        rw [ho] at h
        simp only at h ⊢
        cases hb : Nat.ble (off + vs.length) cs.length <;> rw [hb] at h
        · cases h
        · simp only [cond_true, Option.some.injEq, Prod.mk.injEq] at h ⊢
          obtain ⟨rfl, rfl⟩ := h
          refine ⟨lo.set t (.own (setAll cs off vs)), ⟨rfl, rfl⟩, fun k hk' => ?_, fun k hk' => ?_⟩
          · show (lo.set t _).get k = (g.lo.set t _).get k
            rw [Tr.get_set, Tr.get_set, ha k hk']
          · rw [Tr.get_set, if_neg (fun e => hk' (by rw [e]; exact hk t (by simp [lpKey])))]
      | fwd b =>
        rw [ho] at h
        obtain ⟨rfl, h2⟩ := inSt b off h
        exact ⟨lo, h2, ha, fun _ _ => rfl⟩
      | map0 => rw [ho] at h; cases h
  | _ => cases h

theorem mapSet_f {A : List Nat} {Γ : Ctx} {g : Fr} {s : St} {t : TypeId} {m k v x : AV} {r : Option (Fr × St)} (h : mapSet Γ g s t m k v = some (x, r)) (lo : Tr LObj) : ∃ g1 s1, r = some (g1, s1) ∧ g1 = g ∧ mapSet Γ (g.lc lo) s t m k v = some (x, some (g.lc lo, s1)) := by
  unfold mapSet at h ⊢
  split at h
  · cases h
  · split at h
    · split at h
      · rename_i ki kvs _ _
        cases hb : isKey ki.und k && _ && !v.isLp <;> rw [hb] at h
        · cases h
        · rw [cond_true] at h
          split at h
          · simp only [Option.some.injEq, Prod.mk.injEq] at h
            obtain ⟨rfl, rfl⟩ := h
            refine ⟨_, _, rfl, rfl, ?_⟩
            simp_all
          · cases h
      · cases h
    · cases h

theorem thenOut_lc {g : Fr} {s : St} {r1 : Option (Fr × St)} {k k' : Fr → St → Out} {v : AV} {g2 : Fr} {s2 : St} (h : thenOut g s r1 k = some (v, some (g2, s2))) {lo lo1 lo2 : Tr LObj} (h0 : r1 = none → lo1 = lo)
    (hk : ∀ r, k (r1.getD (g, s)).1 (r1.getD (g, s)).2 = some (v, r) → (r.getD (r1.getD (g, s))) = (g2, s2) → k' ((r1.getD (g, s)).1.lc lo1) (r1.getD (g, s)).2 = some (v, lcR lo2 r) ∧ (r = none → lo2 = lo1)) :
    thenOut (g.lc lo) s (lcR lo1 r1) k' = some (v, some (g2.lc lo2, s2)) := by
  obtain ⟨r, h1, h2⟩ := thenOut_inv h
  obtain ⟨q1, q2⟩ := hk r h1 (by rw [← h2]; rfl)
  cases r1 with
  | none =>
    have := h0 rfl; subst this
    have hr : r = some (g2, s2) := by
      simp only [thenOut] at h
      simp only [Option.getD_none] at h1
      rw [h1] at h
      simp only [Option.some.injEq, Prod.mk.injEq, true_and] at h; exact h
    subst hr
    exact q1
  | some p =>
    obtain ⟨g1, s1⟩ := p
    simp only [Option.getD_some] at q1 h2
    simp only [thenOut, lcR, Option.map_some]
    rw [q1]
    cases r with
    | none =>
      have := q2 rfl; subst this
      simp only [Option.getD_none, Prod.mk.injEq] at h2
      obtain ⟨rfl, rfl⟩ := h2
      rfl
    | some p => simp only [Option.getD_some] at h2; rw [← h2]; rfl

theorem opx_frame (Γ : Ctx) (call : CallT) (f : FuncId) (g : Fr) (s : St) (dst : Option Tmp) (op : Op) {v : AV} {g1 : Fr} {s1 : St} (h : opx Γ call f g s dst op = some (v, some (g1, s1))) (lo : Tr LObj)
    (ha : Agr (effW Γ f g s dst op).wl lo g.lo) (s' : St) (hs : (effW Γ f g s dst op).hw = true → s' = s) :
    ∃ lo1 s1', opx Γ call f (g.lc lo) s' dst op = some (v, some (g1.lc lo1, s1')) ∧ Fol (effW Γ f g s dst op).wl lo g1 lo1 ∧ ((effW Γ f g s dst op).hw = true → s1' = s1) ∧ ((effW Γ f g s dst op).hw = false → s1' = s') := by
  have hw_of : (effW Γ f g s dst op).hw = true → ∀ {lo1 : Tr LObj}, opx Γ call f (g.lc lo) s dst op = some (v, some (g1.lc lo1, s1)) → Fol (effW Γ f g s dst op).wl lo g1 lo1 →
      ∃ lo1 s1', opx Γ call f (g.lc lo) s' dst op = some (v, some (g1.lc lo1, s1')) ∧ Fol (effW Γ f g s dst op).wl lo g1 lo1 ∧ ((effW Γ f g s dst op).hw = true → s1' = s1) ∧ ((effW Γ f g s dst op).hw = false → s1' = s') := by
    intro hw lo1 q1 q2
    have := hs hw; subst this
    exact ⟨lo1, s1, q1, q2, fun _ => rfl, fun e => by rw [hw] at e; cases e⟩
  cases op with
  | assign x =>
    simp only [opx] at h
    obtain ⟨lo1, q1, q2, _⟩ := escape_f h ha (fun t ht => ht)
    exact hw_of rfl (by simp only [opx, lc_ev]; rw [q1]; rfl) q2
  | alloc e =>
    simp only [opx] at h
    split at h
    · rename_i i d hty
      split at h
      · rename_i z hz hd
        cases hf : fits i (.ofValue z) <;> rw [hf] at h
        · cases h
        · simp only [cond_true, Option.some.injEq, Prod.mk.injEq] at h
          obtain ⟨rfl, rfl, rfl⟩ := h
          have hd' : lo.get d = none := by rw [ha d (by simp [effW]), hd]
          refine ⟨lo.set d (.own (AV.ofValue z).cells), s', ?_, ⟨fun k hk => ?_, fun k hk => ?_⟩, fun e => (nomatch e), fun _ => rfl⟩
          · simp only [opx, hty, hz]
            have : (g.lc lo).lo.get d = none := hd'
            simp only [this, hf, cond_true]; rfl
          · show (lo.set d _).get k = (g.lo.set d _).get k
            rw [Tr.get_set, Tr.get_set, ha k hk]
          · rw [Tr.get_set, if_neg (by simpa [effW] using hk)]
      · cases h
    · cases h
  | box e x =>
    simp only [opx] at h
    split at h
    · rename_i d v1 r he
      obtain ⟨r2, hk, h2⟩ := thenOut_inv h
      have hkA : ∀ t, t ∈ lpKey (g.ev x) → t ∈ (effW Γ f g s (some d) (.box e x)).wl := fun t ht => by simp [effW, ht]
      have hdA : d ∈ (effW Γ f g s (some d) (.box e x)).wl := by simp [effW]
      split at hk
      · rename_i hd
        cases hf : v1.isPart <;> rw [hf] at hk
        · cases hk
        · simp only [cond_true, Option.some.injEq, Prod.mk.injEq] at hk
          obtain ⟨rfl, rfl⟩ := hk
          simp only [Option.getD_some, Prod.mk.injEq] at h2
          obtain ⟨rfl, rfl⟩ := h2
          obtain ⟨lo1, e1, e2, e3⟩ := escape_f he ha hkA
          have hd1 : lo1.get d = none := by rw [e2.in_ d hdA]; exact hd
          have fol : Fol (effW Γ f g s (some d) (.box e x)).wl lo { (r.getD (g, s)).1 with lo := (r.getD (g, s)).1.lo.set d (.own v1.cells) } (lo1.set d (.own v1.cells)) := by
            refine ⟨fun k hk => ?_, fun k hk => ?_⟩
            · show (lo1.set d _).get k = ((r.getD (g, s)).1.lo.set d _).get k
              rw [Tr.get_set, Tr.get_set, e2.in_ k hk]
            · rw [Tr.get_set, if_neg (fun e => hk (by rw [e]; exact hdA)), e2.out k hk]
          cases r with
          | none =>
            have := e3 rfl; subst this
            have hnl : (g.ev x).isLp = false := (escape_quiet he).2
            have hv1 : v1 = g.ev x := (escape_quiet he).1
            refine ⟨lo1.set d (.own v1.cells), s', ?_, fol, fun e => ?_, fun _ => rfl⟩
            · simp only [opx, lc_ev, escape_of hnl, thenOut]
              have : (g.lc lo1).lo.get d = none := hd1
              simp only [this, ← hv1, hf, cond_true]; rfl
            · have : (g.ev x).isLp = true := e
              rw [hnl] at this; cases this
          | some p =>
            obtain ⟨g2, s2⟩ := p
            have hlp : (g.ev x).isLp = true := by
              cases hq : (g.ev x).isLp with
              | true => rfl
              | false => rw [escape_of hq] at he; simp at he
            refine hw_of hlp (lo1 := lo1.set d (.own v1.cells)) ?_ fol
            simp only [opx, lc_ev, e1, lcR, Option.map_some, thenOut]
            have : (g2.lc lo1).lo.get d = none := hd1
            simp only [this, hf, cond_true]; rfl
      · cases hk
    · cases h
  | store t p x =>
    simp only [opx] at h
    split at h
    · rename_i i v1 r hi he
      obtain ⟨r2, hk, h2⟩ := thenOut_inv h
      cases hb : v1.isPart && Nat.beq v1.cells.length i.size with
      | false => rw [hb] at hk; cases hk
      | true =>
        rw [hb, cond_true] at hk
        split at hk
        · rename_i gs hst
          simp only [Option.some.injEq, Prod.mk.injEq] at hk
          obtain ⟨rfl, rfl⟩ := hk
          simp only [Option.getD_some] at h2
          subst h2
          have kt := escape_turns he
          have hgp : (r.getD (g, s)).1.ev p = g.ev p := by cases p <;> simp only [Fr.ev, kt.tm]
          rw [hgp] at hst
          obtain ⟨lo1, e1, e2, e3⟩ := escape_f he ha (fun t ht => by simp [effW, ht])
          obtain ⟨lo2, f1, f2⟩ := storeAt_f hst (lo := lo1) e2.in_ (A := (effW Γ f g s dst (.store t p x)).wl) (fun t ht => by simp [effW, ht])
          have fol : Fol (effW Γ f g s dst (.store t p x)).wl lo g1 lo2 := ⟨f2.in_, fun k hk => (f2.out k hk).trans (e2.out k hk)⟩
          cases r with
          | none =>
            have := e3 rfl; subst this
            have hnl : (g.ev x).isLp = false := (escape_quiet he).2
            have hv1 : v1 = g.ev x := (escape_quiet he).1
            have hnl' : v1.isLp = false := by rw [hv1]; exact hnl
            simp only [Option.getD_none] at hst f1
            cases hw : (effW Γ f g s dst (.store t p x)).hw with
            | true =>
              have := hs hw; subst this
              refine ⟨lo2, s1, ?_, fol, fun _ => rfl, fun e => (nomatch e)⟩
              simp only [opx, hi, lc_ev, ← hv1, escape_of hnl', thenOut, hb, cond_true, f1]
            | false =>
              -- a local of the frame's own: the store is not looked at
              simp only [effW, Bool.or_eq_false_iff, Bool.not_eq_false', List.isEmpty_iff] at hw
              refine ⟨lo2, s', ?_, fol, fun e => (nomatch e), fun _ => rfl⟩
              have hloc : storeAt (g.lc lo1) s' (g.ev p) v1.cells = some (g1.lc lo2, s') := by
                cases hp : g.ev p with
                | hp b off => rw [hp] at hw; simp [hpIds] at hw
                | lp k off =>
                  rw [hp] at hw f1
                  simp only [storeAt] at f1 ⊢
                  have hke : (g.lc lo1).lo.get k = g.lo.get k := ha k (by simp [effW, hp, lpKey])
                  rw [hke] at f1 ⊢
                  cases ho : g.lo.get k with
                  | none => rw [ho] at f1; cases f1
                  | some o => cases o with
                    | own cs =>
                      rw [ho] at f1
                      simp only at f1 ⊢
                      cases hq : Nat.ble (off + v1.cells.length) cs.length <;> rw [hq] at f1
                      · cases f1
                      · simp only [cond_true, Option.some.injEq, Prod.mk.injEq] at f1 ⊢
                        exact ⟨f1.1, trivial⟩
                    | fwd b => simp [hpIds, ho] at hw
                    | map0 => rw [ho] at f1; cases f1
                | _ => rw [hp] at f1; cases f1
              simp only [opx, hi, lc_ev, ← hv1, escape_of hnl', thenOut, hb, cond_true, hloc]
          | some q =>
            obtain ⟨g2, s2⟩ := q
            have hlp : (g.ev x).isLp = true := by
              cases hq : (g.ev x).isLp with
              | true => rfl
              | false => rw [escape_of hq] at he; simp at he
            refine hw_of (by simp [effW, hlp]) (lo1 := lo2) ?_ fol
            simp only [Option.getD_some] at hgp f1
            have : (g2.lc lo1).ev p = g.ev p := by rw [lc_ev, hgp]
            simp only [opx, hi, lc_ev, e1, lcR, Option.map_some, thenOut, hb, cond_true, hgp, f1]
        · cases hk
    · cases h
  | buildSlice t len ps =>
    simp only [opx] at h
    split at h
    · cases h
    · rename_i ti ht
      split at h
      · rename_i e he
        split at h
        · rename_i es hes
          cases hh : dst.any (Γ.hard f) && !es.isEmpty with
          | true =>
            rw [hh] at h
            simp only [cond_true, Option.some.injEq, Prod.mk.injEq] at h
            obtain ⟨rfl, rfl, rfl⟩ := h
            refine hw_of rfl (lo1 := lo) ?_ ⟨ha, fun _ _ => rfl⟩
            simp only [opx, lc_evf, ht, he, hes, hh, cond_true]
          | false => rw [hh] at h; simp at h
        · cases h
      · cases h
  | makeFunc fn first caps =>
    cases fn with
    | func hf =>
      simp only [opx] at h
      cases hb : first.isEmpty <;> rw [hb] at h
      · cases h
      · rw [cond_true] at h
        split at h
        · rename_i vs r he
          simp only [Option.some.injEq, Prod.mk.injEq] at h
          obtain ⟨rfl, rfl⟩ := h
          obtain ⟨lo1, e1, e2, _⟩ := escapes_f _ he ha (fun t ht => ht)
          refine hw_of rfl (lo1 := lo1) ?_ e2
          simp only [opx, lc_evf, hb, cond_true, e1]; rfl
        · cases h
    | _ => simp [opx] at h
  | makeMap t r =>
    simp only [opx] at h
    split at h
    · cases h
    · rename_i ti ht
      split at h
      · rename_i k e hu
        cases hb : r.isNone || r.any fun x => (asNat (g.ev x)).isSome <;> rw [hb] at h
        · cases h
        · rw [cond_true] at h
          cases hh : dst.any (Γ.hard f) with
          | true =>
            rw [hh, cond_true] at h
            have he : effW Γ f g s dst (.makeMap t r) = ⟨[], [], false, dst.toList, [], s.next, true, false, false, [], .none⟩ := by simp only [effW, hh, cond_true]
            rw [he] at ha ⊢
            split at h
            · rename_i d
              split at h
              · rename_i hd
                simp only [Option.some.injEq, Prod.mk.injEq] at h
                obtain ⟨rfl, rfl, rfl⟩ := h
                have hd' : lo.get d = none := by rw [ha d (by simp), hd]
                refine ⟨lo.set d .map0, s', ?_, ⟨fun k hk => ?_, fun k hk => ?_⟩, fun e => (nomatch e), fun _ => rfl⟩
                · have h' : (g.lc lo).lo.get d = none := hd'
                  simp only [opx, lc_ev, ht, hu, hb, cond_true, hh, h']; rfl
                · show (lo.set d _).get k = (g.lo.set d _).get k
                  rw [Tr.get_set, Tr.get_set, ha k hk]
                · rw [Tr.get_set, if_neg (by simpa using hk)]
              · cases h
            · cases h
          | false =>
            rw [hh, cond_false] at h
            simp only [Option.some.injEq, Prod.mk.injEq] at h
            obtain ⟨rfl, rfl, rfl⟩ := h
            refine hw_of (by simp only [effW, hh, cond_false]) (lo1 := lo) ?_ ⟨ha, fun _ _ => rfl⟩
            simp only [opx, lc_ev, ht, hu, hb, cond_true, hh, cond_false]
      · cases h
  | makeSlice t l c =>
    simp only [opx] at h
    cases hh : dst.any (Γ.hard f) with
    | true =>
      rw [hh, cond_true] at h
      have he : effW Γ f g s dst (.makeSlice t l c) = ⟨[], [], false, dst.toList, [], s.next, true, false, false, [], .none⟩ := by simp only [effW, hh, cond_true]
      rw [he] at ha ⊢
      split at h
      · rename_i d e sz n cs hro
        split at h
        · rename_i hd
          simp only [Option.some.injEq, Prod.mk.injEq] at h
          obtain ⟨rfl, rfl, rfl⟩ := h
          have hd' : lo.get d = none := by rw [ha d (by simp), hd]
          refine ⟨lo.set d (.own cs), s', ?_, ⟨fun k hk => ?_, fun k hk => ?_⟩, fun e => (nomatch e), fun _ => rfl⟩
          · have h' : (g.lc lo).lo.get d = none := hd'
            simp only [opx, lc_ev, hh, cond_true, hro, h']; rfl
          · show (lo.set d _).get k = (g.lo.set d _).get k
            rw [Tr.get_set, Tr.get_set, ha k hk]
          · rw [Tr.get_set, if_neg (by simpa using hk)]
        · cases h
      · cases h
    | false =>
    rw [hh, cond_false] at h
    obtain ⟨h1, rfl⟩ := withSt_inv h
    refine hw_of (by simp only [effW, hh, cond_false]) (lo1 := lo) ?_ ⟨ha, fun _ _ => rfl⟩
    simp only [opx, lc_ev, hh, cond_false, h1, withSt]
  | slice t x lw up mx =>
    simp only [opx] at h
    cases hm : mx.isSome with
    | true => rw [hm] at h; cases h
    | false =>
      rw [hm, cond_false] at h
      split at h
      · rename_i k off hx
        split at h
        · rename_i b g2 s2 hp
          split at h
          · rename_i u hu
            simp only [Option.some.injEq, Prod.mk.injEq] at h
            obtain ⟨rfl, rfl, rfl⟩ := h
            obtain ⟨lo1, e1, e2⟩ := promote_f hp ha (by simp [effW, hx, lpKey])
            refine hw_of rfl (lo1 := lo1) ?_ e2
            simp only [opx, lc_evf, hm, cond_false, hx, e1, hu]
          · cases h
        · cases h
      · exact (quiet_not h).elim
  | mapUpdate t m k x =>
    simp only [opx] at h
    split at h
    · rename_i v1 r he
      obtain ⟨lo1, e1, e2, e3⟩ := escape_f he ha (fun t ht => ht)
      have kt := escape_turns he
      have em : (r.getD (g, s)).1.ev m = g.ev m := by cases m <;> simp only [Fr.ev, kt.tm]
      have ek : (r.getD (g, s)).1.ev k = g.ev k := by cases k <;> simp only [Fr.ev, kt.tm]
      have hg1 : Agr (effW Γ f g s dst (.mapUpdate t m k x)).wl lo1 g1.lo := by
        obtain ⟨r2, hk, h2⟩ := thenOut_inv h
        obtain ⟨gx, sx, hr, hgx, _⟩ := mapSet_f (A := []) hk lo1
        subst hr
        simp only [Option.getD_some, Prod.mk.injEq] at h2
        rw [h2.1, hgx]; exact e2.in_
      refine hw_of rfl (lo1 := lo1) ?_ ⟨hg1, e2.out⟩
      simp only [opx, lc_ev, e1]
      refine thenOut_lc h e3 fun r2 hk h2 => ?_
      obtain ⟨gx, sx, hr, hgx, hq⟩ := mapSet_f (A := []) hk lo1
      subst hr; subst hgx
      exact ⟨by rw [lc_ev, lc_ev]; exact hq, fun e => by cases e⟩
    · cases h
  | mapEntry t m k =>
    simp only [opx] at h
    obtain ⟨h1, rfl⟩ := withSt_inv h
    refine hw_of rfl (lo1 := lo) ?_ ⟨ha, fun _ _ => rfl⟩
    simp only [opx, lc_ev, h1, withSt]
  | entryStore t m i x =>
    simp only [opx] at h
    obtain ⟨h1, rfl⟩ := withSt_inv h
    refine hw_of rfl (lo1 := lo) ?_ ⟨ha, fun _ _ => rfl⟩
    simp only [opx, lc_ev, h1, withSt]
  | insert t m k x =>
    simp only [opx] at h
    split at h
    · rename_i v1 r he
      obtain ⟨lo1, e1, e2, e3⟩ := escape_f he ha (fun t ht => ht)
      have hg1 : Agr (effW Γ f g s dst (.insert t m k x)).wl lo1 g1.lo := by
        obtain ⟨r2, hk, h2⟩ := thenOut_inv h
        obtain ⟨gx, sx, hr, hgx, _⟩ := mapSet_f (A := []) hk lo1
        subst hr
        simp only [Option.getD_some, Prod.mk.injEq] at h2
        rw [h2.1, hgx]; exact e2.in_
      refine hw_of rfl (lo1 := lo1) ?_ ⟨hg1, e2.out⟩
      simp only [opx, lc_ev, e1]
      refine thenOut_lc h e3 fun r2 hk h2 => ?_
      obtain ⟨gx, sx, hr, hgx, hq⟩ := mapSet_f (A := []) hk lo1
      subst hr; subst hgx
      exact ⟨by rw [lc_ev, lc_ev]; exact hq, fun e => by cases e⟩
    · cases h
  | call c =>
    obtain ⟨callee, args, argTypes⟩ := c
    cases callee with
    | builtin b =>
      simp only [opx] at h
      have main : ∀ (t : TypeId) (y z : AV), withSt g (append Γ (dst.any (Γ.hard f)) s t y z) = some (v, some (g1, s1)) → withSt (g.lc lo) (append Γ (dst.any (Γ.hard f)) s t y z) = some (v, some (g1.lc lo, s1)) ∧ g1 = g := fun t y z h => by
        obtain ⟨h1, rfl⟩ := withSt_inv h
        exact ⟨by rw [h1]; rfl, rfl⟩
      have hx : builtinX Γ f (g.lc lo) s dst b argTypes.toList (args.toList.map g.ev) = some (v, some (g1.lc lo, s1)) ∧ g1 = g := by
        generalize argTypes.toList = T at h ⊢
        generalize args.toList.map g.ev = V at h ⊢
        cases b with
        | append =>
          match T, V, h with
          | t :: u :: _, x :: y :: zs, h =>
            simp only [builtinX] at h ⊢
            split at h
            · cases h
            · rename_i ui hu
              split at h
              · rename_i q hq; exact main _ _ _ h
              · rename_i hq; exact main _ _ _ h
              · cases h
          | [], _, h => simp [builtinX] at h
          | [_], _, h => simp [builtinX] at h
          | _ :: _ :: _, [], h => simp [builtinX] at h
          | _ :: _ :: _, [_], h => simp [builtinX] at h
        | len => match T, V, h with
          | t :: _, x :: _, h =>
            simp only [builtinX] at h
            split at h
            · cases h
            · exact (quiet_not h).elim
          | [], _, h => simp [builtinX] at h
          | _ :: _, [], h => simp [builtinX] at h
        | min => match V, h with
          | x :: _, h => exact (quiet_not h).elim
          | [], h => simp [builtinX] at h
        | max => match V, h with
          | x :: _, h => exact (quiet_not h).elim
          | [], h => simp [builtinX] at h
        | _ => simp [builtinX] at h
      obtain ⟨q1, rfl⟩ := hx
      exact hw_of rfl (lo1 := lo) (by simp only [opx, lc_evf]; exact q1) ⟨ha, fun _ _ => rfl⟩
    | value x =>
      simp only [opx] at h
      split at h
      · rename_i hf caps vs r hq he
        obtain ⟨lo1, e1, e2, e3⟩ := escapes_f _ he ha (fun t ht => ht)
        have hg1 : Agr (effW Γ f g s dst (.call ⟨.value x, args, argTypes⟩)).wl lo1 g1.lo := by
          obtain ⟨r2, hk, h2⟩ := thenOut_inv h
          have : g1 = (r.getD (g, s)).1 := by
            split at hk
            · rename_i v2 s2 _
              cases hsc : Γ.scope hf <;> rw [hsc] at hk
              · simp only [cond_false, Option.some.injEq, Prod.mk.injEq] at hk
                obtain ⟨_, rfl⟩ := hk
                simp only [Option.getD_some, Prod.mk.injEq] at h2
                exact h2.1
              · simp only [cond_true, Option.some.injEq, Prod.mk.injEq] at hk
                obtain ⟨_, rfl⟩ := hk
                simp only [Option.getD_none, Option.getD_some] at h2
                rw [← h2]
            · cases hk
          rw [this]; exact e2.in_
        refine hw_of rfl (lo1 := lo1) ?_ ⟨hg1, e2.out⟩
        simp only [opx, lc_evf, hq, e1]
        refine thenOut_lc h e3 fun r2 hk h2 => ?_
        split at hk
        · rename_i v2 s2 hc
          cases hsc : Γ.scope hf <;> rw [hsc] at hk
          · simp only [cond_false, Option.some.injEq, Prod.mk.injEq] at hk
            obtain ⟨rfl, rfl⟩ := hk
            exact ⟨rfl, fun e => (nomatch e)⟩
          · simp only [cond_true, Option.some.injEq, Prod.mk.injEq] at hk
            obtain ⟨rfl, rfl⟩ := hk
            exact ⟨rfl, fun _ => rfl⟩
        · cases hk
      · cases h
    | invoke _ _ => simp [opx] at h
  | load t p =>
    simp only [opx] at h
    split at h
    · exact (quiet_not h).elim
    · cases h
  | pick c x y => simp only [opx] at h; split at h <;> simp at h
  | build t ps =>
    simp only [opx] at h
    split at h
    · rename_i vs r he
      obtain ⟨lo1, e1, e2, e3⟩ := escapes_f _ he ha (fun t ht => ht)
      obtain ⟨r2, hk, h2⟩ := thenOut_inv h
      cases r2 with
      | some p => exact (quiet_not hk).elim
      | none =>
        simp only [Option.getD_none, Option.getD_some] at h2
        have hg1 : Agr (effW Γ f g s dst (.build t ps)).wl lo1 g1.lo := by
          have := e2.in_
          rw [← h2] at this; exact this
        refine hw_of rfl (lo1 := lo1) ?_ ⟨hg1, e2.out⟩
        simp only [opx, lc_evf, e1]
        exact thenOut_lc h e3 fun r hk' _ => by
          cases r with
          | some p => exact (quiet_not hk').elim
          | none => exact ⟨hk', fun _ => rfl⟩
    · cases h
  | nilCheck x => simp only [opx] at h; split at h <;> simp at h
  | extract t i => simp only [opx] at h; split at h <;> first | exact (quiet_not h).elim | cases h
  | move x => simp [opx] at h
  | binOp op t x y yt => simp only [opx] at h; exact (quiet_not h).elim
  | unOp op t x => simp only [opx] at h; exact (quiet_not h).elim
  | convert a b x => simp only [opx] at h; exact (quiet_not h).elim
  | fieldAddr t x j => simp only [opx] at h; exact (quiet_not h).elim
  | field t x j => simp only [opx] at h; exact (quiet_not h).elim
  | indexAddr t x i => simp only [opx] at h; exact (quiet_not h).elim
  | index t x i => simp only [opx] at h; exact (quiet_not h).elim
  | lookup t x i ok => simp only [opx] at h; exact (quiet_not h).elim
  | _ => simp [opx] at h
end
end Go.Vm

namespace Go.Vm
noncomputable section

/-! ### Masks -/
theorem testBit_one_shift {i k : Nat} (h : (Nat.shiftLeft 1 k).testBit i = true) : i = k := by
  have : (1 <<< k).testBit i = true := h
  rw [Nat.one_shiftLeft, Nat.testBit_two_pow] at this
  simpa [eq_comm] using this

theorem fold_bit {ms : List Nat} {i : Nat} : ∀ (es : List Edge) (m : Nat), (es.foldl (fun m e => cond (Region.binds .any e) (Nat.lor m (Nat.lor (Nat.shiftLeft 1 e.on) (ms.getD e.on 0))) m) m).testBit i = true →
    m.testBit i = true ∨ ∃ e, e ∈ es ∧ Region.binds .any e = true ∧ (i = e.on ∨ (ms.getD e.on 0).testBit i = true)
  | [], m, h => .inl h
  | e :: es, m, h => by
    simp only [List.foldl_cons] at h
    rcases fold_bit es _ h with h | ⟨e', h1, h2, h3⟩
    · cases hb : Region.binds .any e with
      | false => rw [hb] at h; exact .inl h
      | true =>
        rw [hb, cond_true] at h
        have h : (m ||| (Nat.shiftLeft 1 e.on ||| ms.getD e.on 0)).testBit i = true := h
        rw [Nat.testBit_or, Nat.testBit_or, Bool.or_eq_true, Bool.or_eq_true] at h
        rcases h with h | h | h
        · exact .inl h
        · exact .inr ⟨e, by simp, hb, .inl (testBit_one_shift h)⟩
        · exact .inr ⟨e, by simp, hb, .inr h⟩
    · exact .inr ⟨e', by simp [h1], h2, h3⟩

theorem masks_get : ∀ (ops : List Oper) (acc : List Nat), (masks ops acc).length = acc.length + ops.length ∧ (∀ j, j < acc.length → (masks ops acc)[j]? = acc[j]?) ∧
    ∀ (j : Nat) (o : Oper), ops[j]? = some o → (masks ops acc)[acc.length + j]? = some (maskOf ((masks ops acc).take (acc.length + j)) o)
  | [], acc => ⟨by simp [masks], fun _ _ => rfl, fun j o h => by simp at h⟩
  | o :: r, acc => by
    obtain ⟨h1, h2, h3⟩ := masks_get r (acc ++ [maskOf acc o])
    simp only [masks]
    refine ⟨by rw [h1]; simp; omega, fun j hj => by rw [h2 j (by simp; omega), List.getElem?_append_left hj], fun j o' h => ?_⟩
    cases j with
    | zero =>
      simp only [List.getElem?_cons_zero, Option.some.injEq] at h
      subst h
      rw [Nat.add_zero, h2 acc.length (by simp), List.getElem?_append_right (Nat.le_refl _), Nat.sub_self, List.getElem?_cons_zero]
      congr 2
      apply List.ext_getElem?
      intro k
      rw [List.getElem?_take]
      by_cases hk : k < acc.length
      · rw [if_pos hk, h2 k (by simp; omega), List.getElem?_append_left hk]
      · rw [if_neg hk, List.getElem?_eq_none (by omega)]
    | succ j =>
      have := h3 j o' (by simpa using h)
      simp only [List.length_append, List.length_singleton] at this
      rw [show acc.length + (j + 1) = acc.length + 1 + j by omega]
      exact this

theorem masks_at {ops : List Oper} {j : Nat} {o : Oper} (h : ops[j]? = some o) : (masks ops []).getD j 0 = maskOf ((masks ops []).take j) o := by
  have := (masks_get ops []).2.2 j o h
  simp only [List.length_nil, Nat.zero_add] at this
  rw [List.getD_eq_getElem?_getD, this]; rfl

/-- What is listed holds whatever must come ahead of it. -/
def DownL (ops : List Oper) (L : Nat → Bool) : Prop := ∀ (j : Nat) (o : Oper), L j = true → ops[j]? = some o → ∀ e, e ∈ o.after → Region.binds .any e = true → L e.on = true

theorem anc_in {ops : List Oper} {L : Nat → Bool} (hL : DownL ops L) {i : Nat} : ∀ (j : Nat) (o : Oper), ops[j]? = some o → (∀ e, e ∈ o.after → Region.binds .any e = true → L e.on = true) → ((masks ops []).getD j 0).testBit i = true → L i = true := by
  intro j
  induction j using Nat.strongRecOn with
  | _ j ih =>
    intro o ho ha hb
    rw [masks_at ho] at hb
    rcases fold_bit _ _ hb with h | ⟨e, h1, h2, h3⟩
    · simp at h
    · have h1 : e ∈ o.after := by simpa using h1
      have hl := ha e h1 h2
      rcases h3 with rfl | h3
      · exact hl
      · by_cases hlt : e.on < j
        · have e1 : ((masks ops []).take j).getD e.on 0 = (masks ops []).getD e.on 0 := by
            rw [List.getD_eq_getElem?_getD, List.getElem?_take, if_pos hlt, List.getD_eq_getElem?_getD]
          rw [e1] at h3
          have hje : e.on < ops.length := Nat.lt_trans hlt (List.getElem?_eq_some_iff.1 ho).1
          exact ih e.on hlt _ (List.getElem?_eq_getElem hje) (hL e.on _ hl (List.getElem?_eq_getElem hje)) h3
        · rw [List.getD_eq_getElem?_getD, List.getElem?_take, if_neg hlt] at h3
          simp at h3

/-! ### The trace of the order of the text -/
def StepAt (Γ : Ctx) (call : CallT) (f : FuncId) (ops : List Oper) (o : Oper) (g : Fr) (s : St) (v : AV) (e : Eff) (g' : Fr) (s' : St) : Prop :=
  (wantedV ops g o = some false ∧ v = .lit undef ∧ e = Eff.none ∧ g.put o.dst (.lit undef) = some g' ∧ s' = s) ∨
  (wantedV ops g o = some true ∧ opx Γ call f g s o.dst o.op = some (v, none) ∧ e = effR Γ g o.op ∧ g.put o.dst v = some g' ∧ s' = s) ∨
  (wantedV ops g o = some true ∧ ∃ g1, opx Γ call f g s o.dst o.op = some (v, some (g1, s')) ∧ e = (effW Γ f g s o.dst o.op).at s s' ∧ g1.put o.dst v = some g')

structure Traced (Γ : Ctx) (call : CallT) (f : FuncId) (ops : List Oper) (ms : List Nat) (b : Nat) (rest : List Oper) (G : Nat → Fr) (S : Nat → St) (V : Nat → AV) (E : Nat → Eff) (R : Nat → List Rec) : Prop where
  at_ : ∀ (j : Nat) (o : Oper), rest[j]? = some o → StepAt Γ call f ops o (G (b + j)) (S (b + j)) (V (b + j)) (E (b + j)) (G (b + j + 1)) (S (b + j + 1))
  rec_ : ∀ j, j < rest.length → addRec ms (b + j) (E (b + j)) (R (b + j)) = some (R (b + j + 1))

theorem runRec_traced {Γ : Ctx} {call : CallT} {f : FuncId} {ops : List Oper} {ms : List Nat} : ∀ (rest : List Oper) (b : Nat) (g : Fr) (s : St) (rs : List Rec) (g' : Fr) (s' : St), runRec Γ call f ops ms b rest g s rs = some (g', s') →
    ∃ G S V E R, G b = g ∧ S b = s ∧ R b = rs ∧ G (b + rest.length) = g' ∧ S (b + rest.length) = s' ∧ Traced Γ call f ops ms b rest G S V E R
  | [], b, g, s, rs, g', s', h => by
    simp only [runRec, Option.some.injEq, Prod.mk.injEq] at h
    obtain ⟨rfl, rfl⟩ := h
    exact ⟨fun _ => g, fun _ => s, fun _ => .any, fun _ => Eff.none, fun _ => rs, rfl, rfl, rfl, rfl, rfl, ⟨fun j o h => by simp at h, fun j h => by simp at h⟩⟩
  | o :: r, b, g, s, rs, g', s', h => by
    have more : ∀ (v : AV) (e : Eff) (g1 : Fr) (s1 : St) (rs1 : List Rec), StepAt Γ call f ops o g s v e g1 s1 → addRec ms b e rs = some rs1 → runRec Γ call f ops ms (b + 1) r g1 s1 rs1 = some (g', s') →
        ∃ G S V E R, G b = g ∧ S b = s ∧ R b = rs ∧ G (b + (o :: r).length) = g' ∧ S (b + (o :: r).length) = s' ∧ Traced Γ call f ops ms b (o :: r) G S V E R := by
      intro v e g1 s1 rs1 h1 h2 h3
      obtain ⟨G, S, V, E, R, e1, e2, e3, e4, e5, T⟩ := runRec_traced r (b + 1) g1 s1 rs1 g' s' h3
      refine ⟨fun k => if k = b then g else G k, fun k => if k = b then s else S k, fun k => if k = b then v else V k, fun k => if k = b then e else E k, fun k => if k = b then rs else R k, by simp, by simp, by simp, ?_, ?_, ?_, ?_⟩
      · simp only [List.length_cons]; rw [if_neg (by omega), show b + (r.length + 1) = b + 1 + r.length by omega]; exact e4
      · simp only [List.length_cons]; rw [if_neg (by omega), show b + (r.length + 1) = b + 1 + r.length by omega]; exact e5
      · intro j o' ho
        cases j with
        | zero =>
          simp only [List.getElem?_cons_zero, Option.some.injEq] at ho
          subst ho
          simp only [Nat.add_zero, if_true]
          rw [if_neg (by omega), if_neg (by omega), e1, e2]; exact h1
        | succ j =>
          have := T.at_ j o' (by simpa using ho)
          rw [show b + 1 + j = b + (j + 1) by omega] at this
          rw [if_neg (by omega), if_neg (by omega), if_neg (by omega), if_neg (by omega), if_neg (by omega), if_neg (by omega)]
          exact this
      · intro j hj
        cases j with
        | zero => simp only [Nat.add_zero, if_true]; rw [if_neg (by omega), e3]; exact h2
        | succ j =>
          have := T.rec_ j (by simpa using hj)
          rw [show b + 1 + j = b + (j + 1) by omega] at this
          rw [if_neg (by omega), if_neg (by omega), if_neg (by omega)]
          exact this
    simp only [runRec, opxF_eq] at h
    split at h
    · rename_i hw
      split at h
      · rename_i v ho
        split at h
        · rename_i g1 rs1 hp hr
          exact more v _ g1 s rs1 (.inr (.inl ⟨hw, ho, rfl, hp, rfl⟩)) hr h
        · cases h
      · rename_i v g1 s1 ho
        split at h
        · rename_i g2 rs1 hp hr
          exact more v _ g2 s1 rs1 (.inr (.inr ⟨hw, g1, ho, rfl, hp⟩)) hr h
        · cases h
      · cases h
    · rename_i hw
      split at h
      · rename_i g1 hp
        exact more (.lit undef) Eff.none g1 s rs (.inl ⟨hw, rfl, rfl, hp, rfl⟩) rfl h
      · cases h
    · cases h

theorem clear_all {ms : List Nat} {i : Nat} {e : Eff} : ∀ {rs : List Rec}, clear ms i e rs = true → ∀ q, q ∈ rs → (ms.getD i 0).testBit q.i = true ∨ q.e.clash e = false
  | [], _, q, hq => by cases hq
  | p :: r, h, q, hq => by
    unfold clear at h
    have rest : clear ms i e r = true ∧ ((ms.getD i 0).testBit p.i = true ∨ p.e.clash e = false) := by
      cases hl : (p.e.loud || e.loud) with
      | false =>
        rw [hl, cond_false] at h
        rw [Bool.or_eq_false_iff] at hl
        refine ⟨h, .inr ?_⟩
        unfold Eff.clash Eff.sees
        rw [hl.1, hl.2]; rfl
      | true =>
        rw [hl, cond_true] at h
        cases hc : p.e.clash e with
        | false => rw [hc, cond_false] at h; exact ⟨h, .inr rfl⟩
        | true =>
          rw [hc, cond_true] at h
          cases ht : (ms.getD i 0).testBit p.i with
          | false => rw [ht, cond_false] at h; cases h
          | true => rw [ht, cond_true] at h; exact ⟨h, .inl rfl⟩
    rcases List.mem_cons.1 hq with rfl | hq
    · exact rest.2
    · exact clear_all rest.1 q hq

theorem addRec_mem {ms : List Nat} {i : Nat} {e : Eff} {rs rs' : List Rec} (h : addRec ms i e rs = some rs') : (∀ q, q ∈ rs → q ∈ rs') ∧ (e.still = true ∨ (⟨i, e⟩ ∈ rs' ∧ ∀ q, q ∈ rs → (ms.getD i 0).testBit q.i = true ∨ q.e.clash e = false)) := by
  unfold addRec at h
  cases hs : e.still <;> rw [hs] at h
  · rw [cond_false] at h
    cases ha : clear ms i e rs <;> rw [ha] at h
    · cases h
    · simp only [cond_true, Option.some.injEq] at h
      subst h
      exact ⟨fun q hq => by simp [hq], .inr ⟨by simp, fun q hq => clear_all ha q hq⟩⟩
  · simp only [cond_true, Option.some.injEq] at h
    subst h
    exact ⟨fun q hq => hq, .inl rfl⟩

theorem Traced.pair {Γ : Ctx} {call : CallT} {f : FuncId} {ops : List Oper} {ms : List Nat} {rest : List Oper} {G : Nat → Fr} {S : Nat → St} {V : Nat → AV} {E : Nat → Eff} {R : Nat → List Rec}
    (T : Traced Γ call f ops ms 0 rest G S V E R) {i j : Nat} (hij : i < j) (hj : j < rest.length) : (E i).still = true ∨ (E j).still = true ∨ (ms.getD j 0).testBit i = true ∨ (E i).clash (E j) = false := by
  have hin : ∀ k, i < k → k ≤ rest.length → (E i).still = true ∨ (⟨i, E i⟩ : Rec) ∈ R k := by
    intro k
    induction k with
    | zero => intro h; omega
    | succ k ih =>
      intro h1 h2
      have hr := T.rec_ k (by omega)
      rw [Nat.zero_add] at hr
      obtain ⟨q1, q2⟩ := addRec_mem hr
      by_cases he : k = i
      · subst he
        rcases q2 with q | q
        · exact .inl q
        · exact .inr q.1
      · rcases ih (by omega) (by omega) with h | h
        · exact .inl h
        · exact .inr (q1 _ h)
  rcases hin j hij (by omega) with h | h
  · exact .inl h
  · have hr := T.rec_ j hj
    rw [Nat.zero_add] at hr
    obtain ⟨_, q2⟩ := addRec_mem hr
    rcases q2 with q | q
    · exact .inr (.inl q)
    · exact .inr (.inr (q.2 _ h))

theorem put_inv {g g' : Fr} {d : Option Tmp} {v : AV} (h : g.put d v = some g') : g'.lo = g.lo ∧ g'.nt = g.nt ∧ (∀ t, d = some t → t < g.nt) ∧ ∀ t, g'.tm.get t = if d = some t then some v else g.tm.get t := by
  unfold Fr.put at h
  cases d with
  | none =>
    simp only [Option.some.injEq] at h; subst h
    exact ⟨rfl, rfl, fun t h => (nomatch h), fun t => by simp⟩
  | some d =>
    cases hb : Nat.blt d g.nt <;> simp only [hb, cond_true, cond_false, Option.some.injEq] at h
    · cases h
    · subst h
      refine ⟨rfl, rfl, fun t h => by injection h with h; subst h; exact Nat.le_of_ble_eq_true hb, fun t => ?_⟩
      show (g.tm.set d v).get t = _
      rw [Tr.get_set]
      by_cases ht : t = d
      · subst ht; simp
      · rw [if_neg ht, if_neg (fun e => ht (by injection e with e; exact e.symm))]
theorem put_of {g : Fr} {d : Option Tmp} {v : AV} (h : ∀ t, d = some t → t < g.nt) : ∃ g', g.put d v = some g' := by
  cases d with
  | none => exact ⟨g, rfl⟩
  | some d =>
    refine ⟨{ g with tm := g.tm.set d v }, ?_⟩
    have : Nat.blt d g.nt = true := Nat.ble_eq_true_of_le (h d rfl)
    simp only [Fr.put, this, cond_true]

theorem effR_loud (Γ : Ctx) (g : Fr) (op : Op) : (effR Γ g op).loud = false := by
  cases op <;> first | rfl | skip
  rename_i c
  obtain ⟨callee, args, ts⟩ := c
  cases callee <;> rfl
theorem effW_loud (Γ : Ctx) (f : FuncId) (g : Fr) (s : St) (dst : Option Tmp) (op : Op) : (effW Γ f g s dst op).loud = true := by
  cases op with
  | makeMap t r => show (cond _ _ _ : Eff).loud = true; cases dst.any (Γ.hard f) <;> rfl
  | makeSlice t l c => show (cond _ _ _ : Eff).loud = true; cases dst.any (Γ.hard f) <;> rfl
  | call c =>
    obtain ⟨callee, args, ts⟩ := c
    cases callee <;> rfl
  | _ => rfl

theorem at_loud (e : Eff) (s s1 : St) : (e.at s s1).loud = e.loud := rfl
theorem meets_not {a b : List Nat} (h : meets a b = false) {t : Nat} (ht : t ∈ a) : t ∉ b := by
  intro hb
  have : meets a b = true := by
    unfold meets
    rw [List.any_eq_true]
    exact ⟨t, ht, by rw [List.any_eq_true]; exact ⟨t, hb, Nat.beq_refl t⟩⟩
  rw [h] at this; cases this

theorem meets_comm (a b : List Nat) : meets a b = meets b a := by
  have go : ∀ a b : List Nat, meets a b = true → meets b a = true := fun a b h => by
    unfold meets at h ⊢
    rw [List.any_eq_true] at h
    obtain ⟨x, hx, h⟩ := h
    rw [List.any_eq_true] at h
    obtain ⟨y, hy, h⟩ := h
    rw [List.any_eq_true]
    exact ⟨y, hy, by rw [List.any_eq_true]; exact ⟨x, hx, by rw [Nat.eq_of_beq_eq_true h]; exact Nat.beq_refl y⟩⟩
  cases h : meets a b with
  | true => exact (go a b h).symm
  | false => cases h' : meets b a with
    | true => rw [go b a h'] at h; cases h
    | false => rfl

theorem clash_comm (a b : Eff) : a.clash b = b.clash a := by
  unfold Eff.clash
  rw [meets_comm a.wl b.wl, Bool.and_comm a.loud, Bool.and_comm a.hw, Bool.or_assoc, Bool.or_assoc, Bool.or_comm (a.sees b)]

section
variable {Γ : Ctx} {call : CallT} {f : FuncId} {ops : List Oper} {ms : List Nat} {G : Nat → Fr} {S : Nat → St} {V : Nat → AV} {E : Nat → Eff} {R : Nat → List Rec} (T : Traced Γ call f ops ms 0 ops G S V E R)
include T

theorem Traced.step {k : Nat} {o : Oper} (ho : ops[k]? = some o) : StepAt Γ call f ops o (G k) (S k) (V k) (E k) (G (k + 1)) (S (k + 1)) := by
  have := T.at_ k o ho; rwa [Nat.zero_add] at this

theorem Traced.next {k : Nat} {o : Oper} (ho : ops[k]? = some o) : (G (k + 1)).nt = (G k).nt ∧ (∀ t, o.dst = some t → t < (G k).nt) ∧ (∀ t, (G (k + 1)).tm.get t = if o.dst = some t then some (V k) else (G k).tm.get t) ∧
    ((E k).loud = false → (G (k + 1)).lo = (G k).lo ∧ S (k + 1) = S k) ∧
    ((E k).loud = true → ∃ g1, TurnsBy (G k) (S k) g1 (S (k + 1)) (E k) ∧ (G (k + 1)).lo = g1.lo) := by
  rcases T.step ho with ⟨h1, h2, h3, h4, h5⟩ | ⟨h1, h2, h3, h4, h5⟩ | ⟨h1, g1, h2, h3, h4⟩
  · obtain ⟨p1, p2, p3, p4⟩ := put_inv h4
    refine ⟨p2, p3, fun t => by rw [p4, h2], fun _ => ⟨p1, h5⟩, fun h => ?_⟩
    rw [h3] at h; cases h
  · obtain ⟨p1, p2, p3, p4⟩ := put_inv h4
    refine ⟨p2, p3, p4, fun _ => ⟨p1, h5⟩, fun h => ?_⟩
    rw [h3, effR_loud] at h; cases h
  · obtain ⟨p1, p2, p3, p4⟩ := put_inv h4
    have k := opx_turns Γ call f (G _) (S _) o.dst o.op h2
    refine ⟨p2.trans k.nt, fun t ht => by rw [← k.nt]; exact p3 t ht, fun t => by rw [p4, k.tm], fun h => ?_, fun _ => ⟨g1, by rw [h3]; exact ⟨k.tm, k.nt, k.lo, k.hw, k.vs, k.lou⟩, p1⟩⟩
    rw [h3, at_loud, effW_loud] at h; cases h

theorem Traced.stores {k : Nat} (hk : k < ops.length) (hl : (E k).loud = true) : (E k).ss = some (S k, S (k + 1)) := by
  rcases T.step (List.getElem?_eq_getElem hk) with ⟨h1, h2, h3, h4, h5⟩ | ⟨h1, h2, h3, h4, h5⟩ | ⟨h1, g1, h2, h3, h4⟩
  · rw [h3] at hl; cases hl
  · rw [h3, effR_loud] at hl; cases hl
  · rw [h3]; rfl

theorem Traced.nt : ∀ k, k ≤ ops.length → (G k).nt = (G 0).nt := by
  intro k
  induction k with
  | zero => intro _; rfl
  | succ k ih =>
    intro h
    have ho := List.getElem?_eq_getElem (l := ops) (i := k) (by omega)
    rw [(T.next ho).1, ih (by omega)]

theorem Traced.sameS {a b : Nat} (hab : a ≤ b) (hb : b ≤ ops.length) (h : ∀ k, a ≤ k → k < b → (E k).loud = true → (E k).hw = true → False) : S b = S a := by
  induction b with
  | zero => have : a = 0 := by omega
            subst this; rfl
  | succ b ih =>
    by_cases he : a = b + 1
    · subst he; rfl
    · have h1 := ih (by omega) (by omega) (fun k h1 h2 => h k h1 (by omega))
      have ho := List.getElem?_eq_getElem (l := ops) (i := b) (by omega)
      cases hl : (E b).loud with
      | false => exact ((T.next ho).2.2.2.1 hl).2.trans h1
      | true =>
        obtain ⟨g1, k, q1⟩ := (T.next ho).2.2.2.2 hl
        cases hh : (E b).hw with
        | true => exact (h b (by omega) (by omega) hl hh).elim
        | false => exact (k.hw hh).trans h1

theorem Traced.sameLo {t : Nat} {a b : Nat} (hab : a ≤ b) (hb : b ≤ ops.length) (h : ∀ k, a ≤ k → k < b → (E k).loud = true → t ∉ (E k).wl) : (G b).lo.get t = (G a).lo.get t := by
  induction b with
  | zero => have : a = 0 := by omega
            subst this; rfl
  | succ b ih =>
    by_cases he : a = b + 1
    · subst he; rfl
    · have h1 := ih (by omega) (by omega) (fun k h1 h2 => h k h1 (by omega))
      have ho := List.getElem?_eq_getElem (l := ops) (i := b) (by omega)
      cases hl : (E b).loud with
      | false => rw [((T.next ho).2.2.2.1 hl).1]; exact h1
      | true =>
        obtain ⟨g1, k, q1⟩ := (T.next ho).2.2.2.2 hl
        rw [q1, k.lo t (h b (by omega) (by omega) hl)]; exact h1

theorem Traced.agree {e : Eff} {a b : Nat} (hab : a ≤ b) (hb : b ≤ ops.length) (h : ∀ k, a ≤ k → k < b → (E k).loud = true → (E k).hw = true → e.sees (E k) = false) :
    (∀ id, id ∈ e.ri → vis (S b) id = vis (S a) id) ∧ (e.ra = true → S b = S a) ∧ (∀ r, r ∈ e.rc → readAt (S b) r = readAt (S a) r) := by
  induction b with
  | zero => have : a = 0 := by omega
            subst this; exact ⟨fun _ _ => rfl, fun _ => rfl, fun _ _ => rfl⟩
  | succ b ih =>
    by_cases he : a = b + 1
    · subst he; exact ⟨fun _ _ => rfl, fun _ => rfl, fun _ _ => rfl⟩
    · obtain ⟨h2, h3, h4⟩ := ih (by omega) (by omega) (fun k h1 h2 => h k h1 (by omega))
      have ho := List.getElem?_eq_getElem (l := ops) (i := b) (by omega)
      cases hl : (E b).loud with
      | false =>
        obtain ⟨q1, q2⟩ := (T.next ho).2.2.2.1 hl
        rw [q2]; exact ⟨h2, h3, h4⟩
      | true =>
        obtain ⟨g1, k, q1⟩ := (T.next ho).2.2.2.2 hl
        cases hh : (E b).hw with
        | false => rw [k.hw hh]; exact ⟨h2, h3, h4⟩
        | true =>
          have hs := h b (by omega) (by omega) hl hh
          unfold Eff.sees at hs
          rw [hl, Bool.true_and] at hs
          simp only [Bool.or_eq_false_iff] at hs
          obtain ⟨⟨⟨⟨s1, s2⟩, s3⟩, s4⟩, s5⟩ := hs
          refine ⟨fun id hid => ?_, fun ha => ?_, fun r hr => ?_⟩
          · have hall : (E b).all = false := by
              cases hq : (E b).all with
              | false => rfl
              | true =>
                rw [hq, Bool.and_true] at s3
                have : e.ri = [] := by simpa using s3
                rw [this] at hid; cases hid
            have := List.any_eq_false.1 s4 id hid
            simp only [Bool.or_eq_true, not_or, Bool.not_eq_true, Bool.not_eq_eq_eq_not, Bool.not_false, Bool.not_true] at this
            have l1 : id < (E b).nx := by
              cases hq : Nat.blt id (E b).nx with
              | true => exact Nat.le_of_ble_eq_true hq
              | false => rw [hq] at this; simp at this
            have l2 : id ∉ (E b).wi := fun hm => by
              have := this.2
              rw [List.any_eq_false] at this
              exact this id hm (Nat.beq_refl id)
            rw [k.vs hall id l1 l2, h2 id hid]
          · rw [ha, hh] at s2; cases s2
          · rw [← h4 r hr]
            have := List.any_eq_false.1 s5 r hr
            simp only [Bool.not_eq_true, Bool.not_eq_false'] at this
            unfold rcOk at this
            rw [hh] at this
            simp only [Bool.not_true, Bool.false_or, Bool.or_eq_true, Bool.and_eq_true, Bool.not_eq_true'] at this
            rcases this with ⟨⟨t1, t2⟩, t3⟩ | t
            · have l2 : r.1 ∉ (E b).wi := fun hm => by
                rw [List.any_eq_false] at t3
                exact t3 r.1 hm (Nat.beq_refl r.1)
              have hv := k.vs t1 r.1 (Nat.le_of_ble_eq_true t2) l2
              unfold readAt
              rw [cellsAt_vis hv]
            · rw [T.stores (by omega) hl] at t
              exact (sameO_eq t).symm
end
end
end Go.Vm

namespace Go.Vm
noncomputable section

theorem put_sound {n : Nat} {μ : Mu} {ℓ : Loc} {g g' : Fr} {s : St} {w : World} {a : Act} (C : Cfg n μ ℓ g s w a.tmps) {v : AV} {c : Value} (hv : RL μ ℓ v c) {d : Option Tmp} (h : g.put d v = some g') : Cfg n μ ℓ g' s w (a.put d c).tmps := by
  obtain ⟨p1, p2, p3, p4⟩ := put_inv h
  have hsz : (a.put d c).tmps.size = a.tmps.size := by cases d <;> simp [Act.put]
  refine ⟨C.wr, ⟨fun t u ht => ?_, by rw [hsz, p2]; exact C.fr.nt, fun t o ht => C.fr.lo t o (by rw [← p1]; exact ht), fun t t' cs cs' b e1 e2 => C.fr.inj t t' cs cs' b (by rw [← p1]; exact e1) (by rw [← p1]; exact e2), fun t b hb => by rw [p1]; exact C.fr.dom t b hb⟩, C.le⟩
  rw [p4] at ht
  cases d with
  | none => exact C.fr.tm t u (by simpa using ht)
  | some d =>
    by_cases he : d = t
    · subst he
      simp only [if_true, Option.some.injEq] at ht
      subst ht
      have hlt : d < a.tmps.size := by rw [C.fr.nt]; exact p3 d rfl
      simp only [Act.put, Array.getD_eq_getD_getElem?, Array.getElem?_setIfInBounds_self_of_lt hlt, Option.getD_some]
      exact hv
    · rw [if_neg (by simpa using he)] at ht
      have := C.fr.tm t u ht
      simp only [Act.put, Array.getD_eq_getD_getElem?, Array.getElem?_setIfInBounds_ne he] at this ⊢
      exact this

theorem wantedV_sound {n : Nat} {μ : Mu} {ℓ : Loc} {g : Fr} {w : World} {tmps : Array Value} (F : FRel n μ ℓ g w tmps) {ops : Array Oper} {o : Oper} {b : Bool} (h : wantedV ops.toList g o = some b) : Region.wanted o (yielded ops tmps) = b := by
  unfold wantedV at h
  unfold Region.wanted
  cases hg : o.guard with
  | none => rw [hg] at h; simp only [Option.some.injEq] at h; exact h
  | some p =>
    obtain ⟨j, want⟩ := p
    rw [hg] at h
    simp only at h
    split at h
    · rename_i d hd
      split at h
      · rename_i bb hb
        simp only [Option.some.injEq] at h
        have hd : (ops[j]?).bind (·.dst) = some d := by rw [← Array.getElem?_toList]; exact hd
        have hv := F.tm d _ hb
        have hc := RV.lit_inv hv
        have hq : tmps[d]? = some (.bool bb) := by
          rw [Array.getD_eq_getD_getElem?] at hc
          cases ht : tmps[d]? with
          | none => rw [ht] at hc; simp [undef] at hc
          | some u => rw [ht] at hc; simp only [Option.getD_some] at hc; rw [hc]
        simp only [yielded, hd, Option.bind_some, hq]
        rw [← h]
        cases bb <;> cases want <;> rfl
      · rename_i vs hb
        simp only [Option.some.injEq] at h
        have hd : (ops[j]?).bind (·.dst) = some d := by rw [← Array.getElem?_toList]; exact hd
        have hc := RV.lit_inv (F.tm d _ hb)
        rw [Array.getD_eq_getD_getElem?] at hc
        simp only [yielded, hd, Option.bind_some]
        cases ht : tmps[d]? with
        | none => rw [← h]; rfl
        | some u => rw [ht] at hc; simp only [Option.getD_some] at hc; subst hc; rw [← h]; rfl
      · cases h
    · cases h

def wrote (ops : List Oper) (k : Nat) (t : Nat) : Prop := (ops[k]?).bind (·.dst) = some t

def TmAt (ops : List Oper) (V : Nat → AV) (tm0 : Tr AV) (L : Nat → Bool) (tm : Tr AV) (t : Nat) : Prop :=
  ((∀ k, k < ops.length → L k = true → ¬ wrote ops k t) ∧ tm.get t = tm0.get t) ∨
  ∃ k, k < ops.length ∧ L k = true ∧ wrote ops k t ∧ (∀ k', k' < ops.length → L k' = true → wrote ops k' t → k' ≤ k) ∧ tm.get t = some (V k)

theorem TmAt.eq {ops : List Oper} {V : Nat → AV} {tm0 : Tr AV} {L L' : Nat → Bool} {tm tm' : Tr AV} {t : Nat} (h : TmAt ops V tm0 L tm t) (h' : TmAt ops V tm0 L' tm' t)
    (he : ∀ k, k < ops.length → wrote ops k t → (L k = true ↔ L' k = true)) : tm.get t = tm'.get t := by
  rcases h with ⟨h1, h2⟩ | ⟨k, k1, k2, k3, k4, k5⟩
  · rcases h' with ⟨g1, g2⟩ | ⟨j, j1, j2, j3, j4, j5⟩
    · rw [h2, g2]
    · exact absurd j3 (h1 j j1 ((he j j1 j3).2 j2))
  · rcases h' with ⟨g1, g2⟩ | ⟨j, j1, j2, j3, j4, j5⟩
    · exact absurd k3 (g1 k k1 ((he k k1 k3).1 k2))
    · have a := k4 j j1 ((he j j1 j3).2 j2) j3
      have b := j4 k k1 ((he k k1 k3).1 k2) k3
      have : j = k := by omega
      subst this
      rw [k5, j5]

theorem TmAt.put {ops : List Oper} {V : Nat → AV} {tm0 : Tr AV} {L L' : Nat → Bool} {tm tm' : Tr AV} {i : Nat} {o : Oper} (ho : ops[i]? = some o) (hL : ∀ k, L' k = (L k || k == i)) (hmax : ∀ k t, k < ops.length → L k = true → wrote ops k t → wrote ops i t → k ≤ i)
    (hp : ∀ t, tm'.get t = if o.dst = some t then some (V i) else tm.get t) (h : ∀ t, TmAt ops V tm0 L tm t) (t : Nat) : TmAt ops V tm0 L' tm' t := by
  have hil := (List.getElem?_eq_some_iff.1 ho).1
  by_cases hw : o.dst = some t
  · have hwi : wrote ops i t := by unfold wrote; rw [ho]; exact hw
    refine .inr ⟨i, hil, by rw [hL]; simp, hwi, fun k hk hl hwk => ?_, by rw [hp, if_pos hw]⟩
    rw [hL] at hl
    by_cases hki : k = i
    · omega
    · have : L k = true := by simpa [hki] using hl
      exact hmax k t hk this hwk hwi
  · have hnw : ∀ k, wrote ops k t → k ≠ i := fun k hk e => by subst e; unfold wrote at hk; rw [ho] at hk; exact hw hk
    rcases h t with ⟨h1, h2⟩ | ⟨k, k1, k2, k3, k4, k5⟩
    · refine .inl ⟨fun k hk hl hwk => ?_, by rw [hp, if_neg hw]; exact h2⟩
      rw [hL] at hl
      have := hnw k hwk
      exact h1 k hk (by simpa [this] using hl) hwk
    · refine .inr ⟨k, k1, by rw [hL, k2]; rfl, k3, fun k' hk' hl hwk => ?_, by rw [hp, if_neg hw]; exact k5⟩
      rw [hL] at hl
      have := hnw k' hwk
      exact k4 k' hk' (by simpa [this] using hl) hwk

theorem Traced.tmAt {Γ : Ctx} {call : CallT} {f : FuncId} {ops : List Oper} {ms : List Nat} {G : Nat → Fr} {S : Nat → St} {V : Nat → AV} {E : Nat → Eff} {R : Nat → List Rec} (T : Traced Γ call f ops ms 0 ops G S V E R) :
    ∀ i, i ≤ ops.length → ∀ t, TmAt ops V (G 0).tm (fun k => decide (k < i)) (G i).tm t := by
  intro i
  induction i with
  | zero => intro _ t; exact .inl ⟨fun k _ h => by simp at h, rfl⟩
  | succ i ih =>
    intro hi
    have ho := List.getElem?_eq_getElem (l := ops) (i := i) (by omega)
    refine TmAt.put ho (fun k => ?_) (fun k t _ h _ _ => by have := of_decide_eq_true h; omega) (T.next ho).2.2.1 (ih (by omega))
    by_cases h1 : k < i
    · have h2 : k < i + 1 := by omega
      simp [h1, h2]
    · by_cases h2 : k = i
      · subst h2; simp
      · have h3 : ¬ k < i + 1 := by omega
        simp [h1, h2, h3]

theorem allPairs_get {p : Nat → Nat → Oper → Oper → Bool} : ∀ (l : List Oper) (b : Nat), allPairs p b l = true → ∀ (i j : Nat) (x y : Oper), i < j → l[i]? = some x → l[j]? = some y → p (b + i) (b + j) x y = true
  | [], b, _, i, j, x, y, _, h, _ => by simp at h
  | o :: r, b, h, i, j, x, y, hij, hi, hj => by
    simp only [allPairs, Bool.and_eq_true] at h
    cases i with
    | zero =>
      simp only [List.getElem?_cons_zero, Option.some.injEq] at hi
      subst hi
      cases j with
      | zero => omega
      | succ j =>
        have hj : r[j]? = some y := by simpa using hj
        have hm : (y, b + 1 + j) ∈ r.zipIdx (b + 1) := by
          rw [List.mk_mem_zipIdx_iff_le_and_getElem?_sub]
          exact ⟨by omega, by rw [Nat.add_sub_cancel_left]; exact hj⟩
        have := List.all_eq_true.1 h.1 _ hm
        rw [show b + (j + 1) = b + 1 + j by omega]
        exact this
    | succ i =>
      cases j with
      | zero => omega
      | succ j =>
        have := allPairs_get r (b + 1) h.2 i j x y (by omega) (by simpa using hi) (by simpa using hj)
        rw [show b + 1 + i = b + (i + 1) by omega, show b + 1 + j = b + (j + 1) by omega] at this
        exact this

structure Shape (ops : List Oper) : Prop where
  back : ∀ (j : Nat) (o : Oper), ops[j]? = some o → ∀ e, e ∈ o.after → Region.binds .any e = true → e.on < j
  apart : ∀ (i j : Nat) (x y : Oper), i < j → ops[i]? = some x → ops[j]? = some y → tmpsApart ops (masks ops []) i j x y = true

theorem Shape.of {ops : List Oper} (h : shapeOk ops = true) : Shape ops := by
  unfold shapeOk at h
  simp only [Bool.and_eq_true] at h
  obtain ⟨⟨h1, h2⟩, h3⟩ := h
  refine ⟨fun j o ho e he hb => ?_, fun i j x y hij hi hj => ?_⟩
  · have hm : (o, j) ∈ ops.zipIdx := by
      rw [List.mk_mem_zipIdx_iff_le_and_getElem?_sub]
      exact ⟨Nat.zero_le _, ho⟩
    have := List.all_eq_true.1 (List.all_eq_true.1 h1 _ hm) e (by simpa using he)
    simp only [hb, Bool.not_true, Bool.false_or] at this
    exact Nat.le_of_ble_eq_true this
  · have := allPairs_get ops 0 h3 i j x y hij hi hj
    simpa using this

theorem tmpsApart_w {ops : List Oper} {ms : List Nat} {i j : Nat} {x y : Oper} (h : tmpsApart ops ms i j x y = true) {d : Tmp} (hd : x.dst = some d) (hy : d ∈ tmpsOf ops y ∨ y.dst = some d) : (ms.getD j 0).testBit i = true := by
  unfold tmpsApart at h
  rw [Bool.or_eq_true] at h
  rcases h with h | h
  · exact h
  · exfalso
    simp only [hd] at h
    have : ((tmpsOf ops y).any (Nat.beq d) || y.dst.any (Nat.beq d)) = true := by
      rcases hy with hy | hy
      · rw [Bool.or_eq_true]; left; rw [List.any_eq_true]; exact ⟨d, hy, Nat.beq_refl d⟩
      · rw [hy]; simp [Nat.beq_refl]
    rw [this] at h; simp at h
theorem tmpsApart_r {ops : List Oper} {ms : List Nat} {i j : Nat} {x y : Oper} (h : tmpsApart ops ms i j x y = true) {d : Tmp} (hd : y.dst = some d) (hy : d ∈ tmpsOf ops x) : (ms.getD j 0).testBit i = true := by
  unfold tmpsApart at h
  rw [Bool.or_eq_true] at h
  rcases h with h | h
  · exact h
  · exfalso
    simp only [hd] at h
    have : (tmpsOf ops x).any (Nat.beq d) = true := by rw [List.any_eq_true]; exact ⟨d, hy, Nat.beq_refl d⟩
    rw [this] at h; simp at h

theorem filter_less {p p' : Nat → Bool} {i : Nat} (hi : p i = true) (h : ∀ k, p' k = (p k && !(k == i))) : ∀ (l : List Nat), (l.filter p').length ≤ (l.filter p).length ∧ (i ∈ l → (l.filter p').length < (l.filter p).length)
  | [] => ⟨Nat.le_refl _, fun h => by cases h⟩
  | x :: l => by
    obtain ⟨h1, h2⟩ := filter_less hi h l
    by_cases hx : x = i
    · subst hx
      have e1 : p' x = false := by rw [h]; simp
      rw [List.filter_cons_of_neg (by simp [e1]), List.filter_cons_of_pos hi]
      simp only [List.length_cons]
      exact ⟨by omega, fun _ => by omega⟩
    · have e1 : p' x = p x := by rw [h]; simp [hx]
      cases hp : p x with
      | true =>
        rw [List.filter_cons_of_pos (by rw [e1, hp]), List.filter_cons_of_pos hp]
        simp only [List.length_cons]
        refine ⟨by omega, fun hm => ?_⟩
        have := h2 (by rcases List.mem_cons.1 hm with e | e; exact absurd e.symm hx; exact e)
        omega
      | false =>
        rw [List.filter_cons_of_neg (by rw [e1, hp]; simp), List.filter_cons_of_neg (by rw [hp]; simp)]
        exact ⟨h1, fun hm => h2 (by rcases List.mem_cons.1 hm with e | e; exact absurd e.symm hx; exact e)⟩

theorem rep0 (N k : Nat) : (Array.replicate N false).getD k false = false := by
  rw [Array.getD_eq_getD_getElem?, Array.getElem?_replicate]
  split <;> rfl

section
variable {P : Program} {Γ : Ctx} (hΓ : Γ.Ok P) {call : CallT} (hC : CallOk P Γ call)
include hΓ hC

/-- What holds when these operations have run, in whatever order. -/
structure Sim (n lock : Nat) (μ0 : Mu) (w0 : World) (d0 : List Deferred) (ops : List Oper) (G : Nat → Fr) (S : Nat → St) (V : Nat → AV) (E : Nat → Eff) (L : Nat → Bool) (a : Act) (w : World) (μ : Mu) (ℓ : Loc) (g : Fr) (s : St) (m : Nat) : Prop where
  cf : Cfg n μ ℓ g s w a.tmps
  st : Step n lock μ0 w0 μ w
  lk : s.lock = lock
  nt : g.nt = (G 0).nt
  le : m ≤ ops.length
  lou : ∀ k, k < ops.length → (E k).loud = true → (E k).hw = true → (L k = true ↔ k < m)
  lo : ∀ t, ∃ mt, mt ≤ ops.length ∧ (∀ k, k < ops.length → (E k).loud = true → t ∈ (E k).wl → (L k = true ↔ k < mt)) ∧ g.lo.get t = (G mt).lo.get t
  s : s = S m
  tm : ∀ t, TmAt ops V (G 0).tm L g.tm t
  df : a.defers = d0

theorem sim_step {f : FuncId} {ops : Array Oper} {G : Nat → Fr} {S : Nat → St} {V : Nat → AV} {E : Nat → Eff} {R : Nat → List Rec} (T : Traced Γ call f ops.toList (masks ops.toList []) 0 ops.toList G S V E R) (hS : Shape ops.toList)
    {n lock : Nat} {μ0 : Mu} {w0 : World} {d0 : List Deferred} {L L' : Nat → Bool} (hdown : DownL ops.toList L) {a : Act} {w : World} {μ : Mu} {ℓ : Loc} {g : Fr} {s : St} {m : Nat} (I : Sim n lock μ0 w0 d0 ops.toList G S V E L a w μ ℓ g s m)
    {i : Nat} {o : Oper} (ho : ops.toList[i]? = some o) (hLi : L i = false) (hready : ∀ e, e ∈ o.after → Region.binds .any e = true → L e.on = true) (hL' : ∀ k, L' k = (L k || k == i))
    {K : Act → World → Prop} {Q : Exit → Act → World → Prop} (hK : ∀ a w μ ℓ g s m, Sim n lock μ0 w0 d0 ops.toList G S V E L' a w μ ℓ g s m → K a w) : wpOp P ops Q i K a w := by
  have hil := (List.getElem?_eq_some_iff.1 ho).1
  -- who comes ahead of i is listed; who is listed has not i ahead of it
  have anc : ∀ k, ((masks ops.toList []).getD i 0).testBit k = true → L k = true := fun k hk => anc_in hdown i o ho hready hk
  have desc : ∀ k, k < ops.toList.length → L k = true → ((masks ops.toList []).getD k 0).testBit i = true → False := fun k hk hl hb => by
    have := anc_in hdown k _ (List.getElem?_eq_getElem hk) (hdown k _ hl (List.getElem?_eq_getElem hk)) hb
    rw [hLi] at this; cases this
  -- the tmps that it names
  have htm : ∀ t, t ∈ tmpsOf ops.toList o → g.tm.get t = (G i).tm.get t := fun t ht => by
    refine (I.tm t).eq (T.tmAt i (by omega) t) fun k hk hw => ?_
    obtain ⟨ok, hok, hd⟩ : ∃ ok, ops.toList[k]? = some ok ∧ ok.dst = some t := by
      unfold wrote at hw
      cases hq : ops.toList[k]? with
      | none => rw [hq] at hw; cases hw
      | some ok => rw [hq] at hw; exact ⟨ok, rfl, hw⟩
    by_cases h1 : k < i
    · have := tmpsApart_w (hS.apart k i ok o h1 hok ho) hd (.inl ht)
      simp [h1, anc k this]
    · by_cases h2 : k = i
      · subst h2; simp [hLi]
      · have := tmpsApart_r (hS.apart i k o ok (by omega) ho hok) hd ht
        have hf : L k = false := by
          cases hl : L k with
          | false => rfl
          | true => exact (desc k hk hl this).elim
        simp [h1, hf]
  have hmax : ∀ k t, k < ops.toList.length → L k = true → wrote ops.toList k t → wrote ops.toList i t → k ≤ i := fun k t hk hl hw hwi => by
    by_cases h1 : k ≤ i
    · exact h1
    · exfalso
      obtain ⟨ok, hok, hd⟩ : ∃ ok, ops.toList[k]? = some ok ∧ ok.dst = some t := by
        unfold wrote at hw
        cases hq : ops.toList[k]? with
        | none => rw [hq] at hw; cases hw
        | some ok => rw [hq] at hw; exact ⟨ok, rfl, hw⟩
      have hdi : o.dst = some t := by unfold wrote at hwi; rw [ho] at hwi; exact hwi
      exact desc k hk hl (tmpsApart_w (hS.apart i k o ok (by omega) ho hok) hdi (.inr hd))
  have hwant : wantedV ops.toList g o = wantedV ops.toList (G i) o := by
    unfold wantedV
    cases hg : o.guard with
    | none => rfl
    | some p =>
      obtain ⟨j, want⟩ := p
      simp only
      cases hd : (ops.toList[j]?).bind (·.dst) with
      | none => rfl
      | some d =>
        have : d ∈ tmpsOf ops.toList o := by
          unfold tmpsOf
          refine List.mem_append_right _ ?_
          rw [hg]; simp only [hd]; simp
        simp only [htm d this]
  have hev : ∀ x, x ∈ o.op.operands → g.ev x = (G i).ev x := fun x hx => by
    cases x with
    | tmp t =>
      have : t ∈ tmpsOf ops.toList o := by
        unfold tmpsOf
        refine List.mem_append_left _ (List.mem_filterMap.2 ⟨.tmp t, by simpa using hx, rfl⟩)
      simp only [Fr.ev, htm t this]
    | _ => rfl
  have hoA : ops[i]? = some o := by rw [← Array.getElem?_toList]; exact ho
  have hnti := T.nt i (by omega)
  have hnext := T.next ho
  -- louds and i
  have hl1 : ∀ k, k < ops.toList.length → k ≠ i → (E k).loud = true → (E i).still = true ∨ (E i).clash (E k) = false ∨ ((k < i → L k = true) ∧ (i < k → L k = false)) := by
    intro k hk hki hlk
    have hst : (E k).still = false := by unfold Eff.still; rw [hlk]; rfl
    by_cases h1 : k < i
    · rcases T.pair h1 hil with h | h | h | h
      · rw [hst] at h; cases h
      · exact .inl h
      · exact .inr (.inr ⟨fun _ => anc k h, fun h2 => by omega⟩)
      · exact .inr (.inl (by rw [clash_comm]; exact h))
    · rcases T.pair (i := i) (j := k) (by omega) hk with h | h | h | h
      · exact .inl h
      · rw [hst] at h; cases h
      · refine .inr (.inr ⟨fun h2 => by omega, fun _ => ?_⟩)
        cases hl : L k with
        | false => rfl
        | true => exact (desc k hk hl h).elim
      · exact .inr (.inl h)
  unfold wpOp
  simp only [hoA]
  have done : ∀ {c : Value} {μ' : Mu} {ℓ' : Loc} {w' : World} {g1 : Fr} {s1 : St} {m' : Nat}, Cfg n μ' ℓ' g1 s1 w' a.tmps → Step n lock μ0 w0 μ' w' → RL μ' ℓ' (V i) c → s1.lock = lock → g1.tm = g.tm → g1.nt = g.nt → m' ≤ ops.toList.length →
      (∀ k, k < ops.toList.length → (E k).loud = true → (E k).hw = true → (L' k = true ↔ k < m')) → (∀ t, ∃ mt, mt ≤ ops.toList.length ∧ (∀ k, k < ops.toList.length → (E k).loud = true → t ∈ (E k).wl → (L' k = true ↔ k < mt)) ∧ g1.lo.get t = (G mt).lo.get t) → s1 = S m' → K (a.put o.dst c) w' := by
    intro c μ' ℓ' w' g1 s1 m' c1 c2 c3 c4 c5 c6 c7 c8 c9 c10
    obtain ⟨g2, hp⟩ := put_of (g := g1) (d := o.dst) (v := V i) (fun t ht => by rw [c6, I.nt, ← hnti]; exact hnext.2.1 t ht)
    obtain ⟨p1, p2, p3, p4⟩ := put_inv hp
    refine hK _ w' μ' ℓ' g2 s1 m' ⟨put_sound c1 c3 hp, c2, c4, by rw [p2, c6, I.nt], c7, c8, by rw [p1]; exact c9, c10, ?_, by rw [← I.df]; cases o.dst <;> rfl⟩
    exact TmAt.put ho hL' hmax (fun t => by rw [p4, c5]) I.tm
  -- nothing loud runs: what holds stays
  have quietLo : (E i).loud = false → ∀ t, ∃ mt, mt ≤ ops.toList.length ∧ (∀ k, k < ops.toList.length → (E k).loud = true → t ∈ (E k).wl → (L' k = true ↔ k < mt)) ∧ g.lo.get t = (G mt).lo.get t := fun hq t => by
    obtain ⟨mt, q1, q2, q3⟩ := I.lo t
    refine ⟨mt, q1, fun k hk hlk hw => ?_, q3⟩
    have hki : k ≠ i := fun e => by subst e; rw [hq] at hlk; cases hlk
    rw [hL' k, ← q2 k hk hlk hw]; simp [hki]
  have quietLou : (E i).loud = false → ∀ k, k < ops.toList.length → (E k).loud = true → (E k).hw = true → (L' k = true ↔ k < m) := fun hq k hk hlk hw => by
    have hki : k ≠ i := fun e => by subst e; rw [hq] at hlk; cases hlk
    rw [hL' k, ← I.lou k hk hlk hw]; simp [hki]
  rcases T.step ho with ⟨h1, h2, h3, h4, h5⟩ | ⟨h1, h2, h3, h4, h5⟩ | ⟨h1, gi, h2, h3, h4⟩
  · rw [← hwant] at h1
    rw [wantedV_sound I.cf.fr h1]
    simp only [Bool.false_eq_true, if_false]
    have hq : (E i).loud = false := by rw [h3]; rfl
    exact done I.cf I.st (by rw [h2]; exact .of_RV (.lit _)) I.lk rfl rfl I.le (quietLou hq) (quietLo hq) I.s
  · rw [← hwant] at h1
    rw [wantedV_sound I.cf.fr h1]
    simp only [if_true]
    left
    -- the quiet operation reads here what it reads there
    have hqi : (E i).loud = false := by rw [h3]; exact effR_loud _ _ _
    have hag : (∀ t, t ∈ (E i).rl → g.lo.get t = (G i).lo.get t) ∧ (∀ id, id ∈ (E i).ri → vis (S m) id = vis (S i) id) ∧ ((E i).ra = true → S m = S i) ∧ (∀ r, r ∈ (E i).rc → readAt (S m) r = readAt (S i) r) := by
      by_cases hst : (E i).still = true
      · have hst' := hst
        unfold Eff.still at hst'
        simp only [Bool.and_eq_true, Bool.not_eq_true', List.isEmpty_iff] at hst'
        obtain ⟨⟨⟨⟨_, e1⟩, e2⟩, e3⟩, e4⟩ := hst'
        exact ⟨fun t ht => (by rw [e1] at ht; cases ht), fun id hid => (by rw [e2] at hid; cases hid), fun ha => (by rw [e3] at ha; cases ha), fun r hr => (by rw [e4] at hr; cases hr)⟩
      · have hne : ∀ k, k < ops.toList.length → (E k).loud = true → ((k < i ∧ L k = false) ∨ (i < k ∧ L k = true)) → (E i).sees (E k) = false := fun k hk hlk hor => by
          have hki : k ≠ i := by rcases hor with h | h <;> omega
          rcases hl1 k hk hki hlk with h | h | ⟨ha, hb⟩
          · exact absurd h hst
          · unfold Eff.clash at h
            simp only [Bool.or_eq_false_iff] at h
            exact h.1.2
          · rcases hor with ⟨q1, q2⟩ | ⟨q1, q2⟩
            · rw [ha q1] at q2; cases q2
            · rw [hb q1] at q2; cases q2
        refine ⟨fun t ht => ?_, ?_⟩
        · obtain ⟨mt, q1, q2, q3⟩ := I.lo t
          rw [q3]
          have hno : ∀ k, k < ops.toList.length → (E k).loud = true → ((k < i ∧ L k = false) ∨ (i < k ∧ L k = true)) → t ∉ (E k).wl := fun k hk hlk hor => by
            have := hne k hk hlk hor
            unfold Eff.sees at this
            rw [hlk, Bool.true_and] at this
            simp only [Bool.or_eq_false_iff] at this
            exact meets_not this.1.1.1.1 ht
          rcases Nat.le_total mt i with hmi | him
          · refine (T.sameLo hmi (by omega) fun k hk1 hk2 hlk hw => ?_).symm
            refine hno k (by omega) hlk (.inl ⟨hk2, ?_⟩) hw
            cases hl : L k with
            | false => rfl
            | true => have := (q2 k (by omega) hlk hw).1 hl; omega
          · refine T.sameLo him q1 fun k hk1 hk2 hlk hw => ?_
            have hki : k ≠ i := fun e => by subst e; rw [hqi] at hlk; cases hlk
            exact hno k (by omega) hlk (.inr ⟨by omega, (q2 k (by omega) hlk hw).2 hk2⟩) hw
        · rcases Nat.le_total m i with hmi | him
          · obtain ⟨q2, q3, q4⟩ := T.agree (e := E i) hmi (by omega) fun k hk1 hk2 hlk hw => hne k (by omega) hlk (.inl ⟨hk2, by
              cases hl : L k with
              | false => rfl
              | true => have := (I.lou k (by omega) hlk hw).1 hl; omega⟩)
            exact ⟨fun id hid => (q2 id hid).symm, fun ha => (q3 ha).symm, fun r hr => (q4 r hr).symm⟩
          · exact T.agree (e := E i) him I.le fun k hk1 hk2 hlk hw => by
              have hki : k ≠ i := fun e => by subst e; rw [hqi] at hlk; cases hlk
              exact hne k (by have := I.le; omega) hlk (.inr ⟨by omega, (I.lou k (by have := I.le; omega) hlk hw).2 hk2⟩)
    rw [h3] at hag
    have hx := opx_reads Γ call f (G i) (S i) o.dst o.op h2 g.lo (S m) hag.1 hag.2.1 hag.2.2.1 hag.2.2.2
    have hgeq : g = ({ G i with lo := g.lo } : Fr).as g.tm := by
      have e2 : g.nt = (G i).nt := by rw [I.nt, hnti]
      show g = { tm := g.tm, lo := g.lo, nt := (G i).nt }
      rw [← e2]
    have hx' : opx Γ call f g s o.dst o.op = some (V i, none) := by
      have hx2 := opx_as Γ call f g.tm { G i with lo := g.lo } (S m) o.dst o.op (fun x hxo => by rw [← hgeq, hev x hxo]; cases x <;> rfl)
      rw [← hgeq, hx] at hx2
      rw [I.s, hx2]; rfl
    refine opx_sound hΓ hC I.cf hx' fun c μ' ℓ' w' Rt => ?_
    exact done (m' := m) Rt.cf (I.st.trans Rt.st (Nat.le_refl _) (by rw [I.lk]; exact Nat.le_refl _)) Rt.rl (Rt.lk.trans I.lk) Rt.tm Rt.nt I.le (quietLou hqi) (quietLo hqi) I.s
  · rw [← hwant] at h1
    rw [wantedV_sound I.cf.fr h1]
    simp only [if_true]
    left
    have hli : (E i).loud = true := by rw [h3]; exact effW_loud Γ f (G i) (S i) o.dst o.op
    have hnst : ¬ (E i).still = true := by unfold Eff.still; rw [hli]; simp
    have hordW : ∀ k, k < ops.toList.length → k ≠ i → (E k).loud = true → (E k).hw = true → (E i).hw = true → (k < i → L k = true) ∧ (i < k → L k = false) := fun k hk hki hlk hw hwi => by
      rcases hl1 k hk hki hlk with h | h | h
      · exact absurd h hnst
      · unfold Eff.clash at h; rw [hli, hlk, hw, hwi] at h; simp at h
      · exact h
    have hordL : ∀ k t, k < ops.toList.length → k ≠ i → (E k).loud = true → t ∈ (E k).wl → t ∈ (E i).wl → (k < i → L k = true) ∧ (i < k → L k = false) := fun k t hk hki hlk hw hwi => by
      rcases hl1 k hk hki hlk with h | h | h
      · exact absurd h hnst
      · exfalso
        unfold Eff.clash at h
        rw [hli, hlk] at h
        simp only [Bool.and_true, Bool.true_and, Bool.or_eq_false_iff] at h
        exact meets_not h.1.1.2 hwi hw
      · exact h
    -- the locals that it turns are as they are there
    have hlo : Agr (E i).wl g.lo (G i).lo := fun t ht => by
      obtain ⟨mt, q1, q2, q3⟩ := I.lo t
      have hmi : mt ≤ i := by
        have := q2 i hil hli ht
        rw [hLi] at this
        simp at this; omega
      rw [q3]
      refine (T.sameLo hmi (by omega) fun k hk1 hk2 hlk hw => ?_).symm
      have := (hordL k t (by omega) (by omega) hlk hw ht).1 hk2
      have := (q2 k (by omega) hlk hw).1 this
      omega
    have hss : (E i).hw = true → m ≤ i ∧ S m = S i := fun hw => by
      have hmi : m ≤ i := by
        have := I.lou i hil hli hw
        rw [hLi] at this
        simp at this; omega
      refine ⟨hmi, (T.sameS hmi (by omega) fun k hk1 hk2 hlk hwk => ?_).symm⟩
      have := (hordW k (by omega) (by omega) hlk hwk hw).1 hk2
      have := (I.lou k (by omega) hlk hwk).1 this
      omega
    have ewl : (E i).wl = (effW Γ f (G i) (S i) o.dst o.op).wl := by rw [h3]; rfl
    have ehw : (E i).hw = (effW Γ f (G i) (S i) o.dst o.op).hw := by rw [h3]; rfl
    rw [ewl] at hlo
    rw [ehw] at hss
    obtain ⟨lo1, s1', x1, x2, x3, x4⟩ := opx_frame Γ call f (G i) (S i) o.dst o.op h2 g.lo hlo s (fun hw => by rw [I.s]; exact (hss hw).2)
    rw [← ewl] at x2
    rw [← ehw] at x3 x4 hss
    have hgeq : g = ((G i).lc g.lo).as g.tm := by
      have e2 : g.nt = (G i).nt := by rw [I.nt, hnti]
      show g = { tm := g.tm, lo := g.lo, nt := (G i).nt }
      rw [← e2]
    have hx' : opx Γ call f g s o.dst o.op = some (V i, some ((gi.lc lo1).as g.tm, s1')) := by
      have hx2 := opx_as Γ call f g.tm ((G i).lc g.lo) s o.dst o.op (fun x hxo => by rw [← hgeq, hev x hxo, lc_ev])
      rw [← hgeq, x1] at hx2
      rw [hx2]; rfl
    refine opx_sound hΓ hC I.cf hx' fun c μ' ℓ' w' Rt => ?_
    have hgi : gi.lo = (G (i + 1)).lo := (put_inv h4).1.symm
    have newLo : ∀ t, ∃ mt, mt ≤ ops.toList.length ∧ (∀ k, k < ops.toList.length → (E k).loud = true → t ∈ (E k).wl → (L' k = true ↔ k < mt)) ∧ ((gi.lc lo1).as g.tm).lo.get t = (G mt).lo.get t := fun t => by
      by_cases ht : t ∈ (E i).wl
      · refine ⟨i + 1, by omega, fun k hk hlk hw => ?_, ?_⟩
        · rw [hL' k]
          by_cases hki : k = i
          · subst hki; simp
          · obtain ⟨o1, o2⟩ := hordL k t hk hki hlk hw ht
            by_cases hlt : k < i
            · simp [o1 hlt]; omega
            · simp [o2 (by omega), hki]; omega
        · show lo1.get t = _
          rw [x2.in_ t ht, hgi]
      · obtain ⟨mt, q1, q2, q3⟩ := I.lo t
        refine ⟨mt, q1, fun k hk hlk hw => ?_, ?_⟩
        · have hki : k ≠ i := fun e => by subst e; exact ht hw
          rw [hL' k, ← q2 k hk hlk hw]; simp [hki]
        · show lo1.get t = _
          rw [x2.out t ht, q3]
    cases hw : (E i).hw with
    | true =>
      obtain ⟨hmi, _⟩ := hss hw
      refine done (m' := i + 1) Rt.cf (I.st.trans Rt.st (Nat.le_refl _) (by rw [I.lk]; exact Nat.le_refl _)) Rt.rl (Rt.lk.trans I.lk) Rt.tm Rt.nt (by omega) (fun k hk hlk hwk => ?_) newLo (x3 hw)
      rw [hL' k]
      by_cases hki : k = i
      · subst hki; simp
      · obtain ⟨o1, o2⟩ := hordW k hk hki hlk hwk hw
        by_cases hlt : k < i
        · simp [o1 hlt]; omega
        · simp [o2 (by omega), hki]; omega
    | false =>
      refine done (m' := m) Rt.cf (I.st.trans Rt.st (Nat.le_refl _) (by rw [I.lk]; exact Nat.le_refl _)) Rt.rl (Rt.lk.trans I.lk) Rt.tm Rt.nt I.le (fun k hk hlk hwk => ?_) newLo ((x4 hw).trans I.s)
      have hki : k ≠ i := fun e => by subst e; rw [hw] at hwk; cases hwk
      rw [hL' k, ← I.lou k hk hlk hwk]; simp [hki]

theorem draw_sound {f : FuncId} {id : Nat} {ops : Array Oper} {n : Nat} {μ : Mu} {ℓ : Loc} {g g' : Fr} {s s' : St} {w : World} {a : Act} (C : Cfg n μ ℓ g s w a.tmps) (h : runDraw Γ call f ops.toList g s = some (g', s'))
    {Q : Exit → Act → World → Prop} (hQ : ∀ a' μ' ℓ' w', a'.defers = a.defers → Cfg n μ' ℓ' g' s' w' a'.tmps → Step n s.lock μ w μ' w' → s'.lock = s.lock → Q .normal a' w') : (Code.region id ops true).wp P Q a w := by
  refine wp_region_any hΓ.mixed ?_
  unfold runDraw at h
  cases hs : shapeOk ops.toList with
  | false => rw [hs] at h; cases h
  | true =>
    rw [hs, cond_true] at h
    have hS := Shape.of hs
    obtain ⟨G, S, V, E, R, e1, e2, e3, e4, e5, T⟩ := runRec_traced _ _ _ _ _ _ _ h
    rw [Nat.zero_add] at e4 e5
    obtain ⟨W0, G0⟩ := C.wr.same (w' := { w with drawn := w.drawn + 1 }) rfl rfl rfl rfl
    have key : ∀ (fuel : Nat) (listed : Array Bool) (a1 : Act) (w1 : World) (μ1 : Mu) (ℓ1 : Loc) (g1 : Fr) (s1 : St) (m : Nat), listed.size = ops.size → ((List.range ops.size).filter fun k => !listed.getD k false).length ≤ fuel →
        DownL ops.toList (fun k => listed.getD k false) → Sim n s.lock μ w a.defers ops.toList G S V E (fun k => listed.getD k false) a1 w1 μ1 ℓ1 g1 s1 m → wpAny P .any ops Q fuel listed a1 w1 := by
      intro fuel
      have full : ∀ (listed : Array Bool) (a1 : Act) (w1 : World) (μ1 : Mu) (ℓ1 : Loc) (g1 : Fr) (s1 : St) (m : Nat), listed.size = ops.size → Sim n s.lock μ w a.defers ops.toList G S V E (fun k => listed.getD k false) a1 w1 μ1 ℓ1 g1 s1 m →
          (∀ k, k < ops.size → listed.getD k false = true) → Q .normal a1 w1 := by
        intro listed a1 w1 μ1 ℓ1 g1 s1 m hsz I hall
        have hN : ops.toList.length = ops.size := by simp
        have q2 := T.sameS I.le (Nat.le_refl _) fun k hk1 hk2 hl hw => by
          have := (I.lou k hk2 hl hw).1 (hall k (by omega)); omega
        have htm : ∀ t, g1.tm.get t = g'.tm.get t := fun t => by
          rw [← e4]
          exact (I.tm t).eq (T.tmAt _ (Nat.le_refl _) t) fun k hk _ => by simp [hall k (by omega), hk]; omega
        have hlo : ∀ t, g1.lo.get t = g'.lo.get t := fun t => by
          obtain ⟨mt, r1, r2, r3⟩ := I.lo t
          rw [r3, ← e4]
          exact (T.sameLo r1 (Nat.le_refl _) fun k hk1 hk2 hl hw => by have := (r2 k hk2 hl hw).1 (hall k (by omega)); omega).symm
        have hnt : g1.nt = g'.nt := by rw [I.nt, ← e4, T.nt _ (Nat.le_refl _)]
        have hs1 : s1 = s' := by rw [I.s, ← e5, q2]
        subst hs1
        refine hQ a1 μ1 ℓ1 w1 I.df ⟨I.cf.wr, ⟨fun t v ht => I.cf.fr.tm t v (by rw [htm]; exact ht), by rw [← hnt]; exact I.cf.fr.nt, fun t o ht => I.cf.fr.lo t o (by rw [hlo]; exact ht), ?_, fun t b hb => by rw [← hlo]; exact I.cf.fr.dom t b hb⟩, I.cf.le⟩ I.st I.lk
        intro t t' cs cs' b x1 x2
        exact I.cf.fr.inj t t' cs cs' b (by rw [hlo]; exact x1) (by rw [hlo]; exact x2)
      have noready : ∀ (listed : Array Bool), listed.size = ops.size → Region.ready .any ops listed = [] → ∀ k, k < ops.size → listed.getD k false = true := by
        intro listed hsz hr k
        induction k using Nat.strongRecOn with
        | _ k ih =>
          intro hk
          cases hl : listed.getD k false with
          | true => rfl
          | false =>
            exfalso
            have : k ∈ Region.ready .any ops listed := by
              rw [mem_ready]
              refine ⟨?_, ops[k], Array.getElem?_eq_getElem hk, fun e he hb => ?_⟩
              · have : k < listed.size := by omega
                simp [this] at hl ⊢; exact hl
              · have hlt := hS.back k ops[k] (by rw [Array.getElem?_toList]; exact Array.getElem?_eq_getElem hk) e he hb
                exact ih e.on hlt (by omega)
            rw [hr] at this; cases this
      induction fuel with
      | zero =>
        intro listed a1 w1 μ1 ℓ1 g1 s1 m hsz hcnt hdown I
        have hall : ∀ k, k < ops.size → listed.getD k false = true := fun k hk => by
          have h0 : ((List.range ops.size).filter fun k => !listed.getD k false) = [] := List.eq_nil_of_length_eq_zero (by omega)
          cases hl : listed.getD k false with
          | true => rfl
          | false =>
            have : k ∈ (List.range ops.size).filter fun k => !listed.getD k false := by
              rw [List.mem_filter, List.mem_range]; exact ⟨hk, by rw [hl]; rfl⟩
            rw [h0] at this; cases this
        refine ⟨?_, full listed a1 w1 μ1 ℓ1 g1 s1 m hsz I hall⟩
        apply List.eq_nil_iff_forall_not_mem.2
        intro k hk
        rw [mem_ready] at hk
        obtain ⟨h1, o, h2, _⟩ := hk
        have hlt := (Array.getElem?_eq_some_iff.1 h2).1
        have := hall k hlt
        have hk : k < listed.size := by omega
        simp [hk] at h1 this
        rw [h1] at this; cases this
      | succ fuel ih =>
        intro listed a1 w1 μ1 ℓ1 g1 s1 m hsz hcnt hdown I
        refine ⟨fun hr => full listed a1 w1 μ1 ℓ1 g1 s1 m hsz I (noready listed hsz hr), fun i hi => ?_⟩
        rw [mem_ready] at hi
        obtain ⟨h1, o, h2, h3⟩ := hi
        have hlt := (Array.getElem?_eq_some_iff.1 h2).1
        have hil : i < listed.size := by omega
        have hLi : listed.getD i false = false := by simp [hil] at h1 ⊢; exact h1
        have hL' : ∀ k, (listed.setIfInBounds i true).getD k false = (listed.getD k false || k == i) := fun k => by
          by_cases hk : i = k
          · subst hk; simp [hil]
          · rw [getD_set_ne false hk]
            have : (k == i) = false := by simp; omega
            rw [this, Bool.or_false]
        have hoL : ops.toList[i]? = some o := by rw [Array.getElem?_toList]; exact h2
        refine sim_step hΓ hC T hS hdown I hoL hLi h3 hL' fun a2 w2 μ2 ℓ2 g2 s2 m2 I2 => ih _ a2 w2 μ2 ℓ2 g2 s2 m2 (by simp [hsz]) ?_ ?_ I2
        · have := (filter_less (p := fun k => !listed.getD k false) (p' := fun k => !(listed.setIfInBounds i true).getD k false) (i := i) (by rw [hLi]; rfl) (fun k => by rw [hL' k]; simp) (List.range ops.size)).2 (List.mem_range.2 hlt)
          omega
        · intro j oj hj hoj e he hb
          simp only at hj ⊢
          rw [hL'] at hj ⊢
          by_cases hji : j = i
          · subst hji
            rw [hoL] at hoj; injection hoj with hoj; subst hoj
            rw [h3 e he hb]; rfl
          · have : listed.getD j false = true := by simpa [hji] using hj
            have hd := hdown j oj this hoj e he hb
            simp only at hd
            rw [hd]; rfl
    refine key ops.size _ a _ μ ℓ g s 0 (by simp) ?_ ?_ ⟨⟨W0, C.fr.grow C.wr G0, C.le⟩, G0.step C.wr n s.lock C.le, rfl, by rw [e1], Nat.zero_le _, fun k hk hl _ => ?_, fun t => ⟨0, Nat.zero_le _, fun k hk hl _ => (by simp only [rep0]; simp), by rw [e1]⟩, e2.symm, fun t => ?_, rfl⟩
    · exact Nat.le_trans (List.length_filter_le _ _) (by simp)
    · intro j o hj; simp only [rep0] at hj; cases hj
    · simp only [rep0]; simp
    · exact .inl ⟨fun k hk hl => (by simp only [rep0] at hl; cases hl), by rw [e1]⟩
end
end
end Go.Vm

namespace Go.Vm
noncomputable section

/-- A frame of which less is known. -/
theorem Cfg.less {n : Nat} {μ : Mu} {ℓ : Loc} {g g' : Fr} {s : St} {w : World} {tmps : Array Value} (C : Cfg n μ ℓ g s w tmps) (h1 : g'.nt = g.nt) (h2 : ∀ t o, g'.lo.get t = some o → g.lo.get t = some o)
    (h3 : ∀ t v, g'.tm.get t = some v → g.tm.get t = some v ∧ ∀ k, k ∈ lpKey v → ∃ o, g'.lo.get k = some o) : Cfg n μ (fun t => if (g'.lo.get t).isSome then ℓ t else none) g' s w tmps := by
  have hin : ∀ t o, g'.lo.get t = some o → (if (g'.lo.get t).isSome then ℓ t else none) = ℓ t := fun t o h => by rw [h]; rfl
  refine ⟨C.wr, ⟨fun t v ht => ?_, by rw [h1]; exact C.fr.nt, fun t o ht => ?_, fun t t' cs cs' b e1 e2 m1 m2 l1 l2 => ?_, fun t b hb => ?_⟩, C.le⟩
  · obtain ⟨q1, q2⟩ := h3 t v ht
    have := C.fr.tm t v q1
    cases v with
    | lp k off =>
      obtain ⟨b, hb, hc⟩ := (this : ∃ b, ℓ k = some b ∧ _)
      obtain ⟨o, ho⟩ := q2 k (by simp [lpKey])
      exact ⟨b, by show (if (g'.lo.get k).isSome then ℓ k else none) = _; rw [hin k o ho]; exact hb, hc⟩
    | lm k =>
      obtain ⟨b, hb, hc⟩ := (this : ∃ b, ℓ k = some b ∧ _)
      obtain ⟨o, ho⟩ := q2 k (by simp [lpKey])
      exact ⟨b, by show (if (g'.lo.get k).isSome then ℓ k else none) = _; rw [hin k o ho]; exact hb, hc⟩
    | ls e1 sz1 k len1 =>
      obtain ⟨b, hb, hc⟩ := (this : ∃ b, ℓ k = some b ∧ _)
      obtain ⟨o, ho⟩ := q2 k (by simp [lpKey])
      exact ⟨b, by show (if (g'.lo.get k).isSome then ℓ k else none) = _; rw [hin k o ho]; exact hb, hc⟩
    | _ => exact this
  · obtain ⟨b, q1, q2⟩ := C.fr.lo t o (h2 t o ht)
    exact ⟨b, by simp only [hin t o ht]; exact q1, q2⟩
  · simp only [hin t _ e1] at l1
    simp only [hin t' _ e2] at l2
    exact C.fr.inj t t' cs cs' b (h2 _ _ e1) (h2 _ _ e2) m1 m2 l1 l2
  · cases ho : g'.lo.get t with
    | some o => exact ⟨o, rfl⟩
    | none => simp [ho] at hb

theorem keepLo_get (lo : Tr LObj) : ∀ (ks : List Nat) (acc : Tr LObj), (∀ t o, acc.get t = some o → lo.get t = some o) → ∀ t o, (ks.foldl (fun acc k => match lo.get k with | some o => acc.set k o | none => acc) acc).get t = some o → lo.get t = some o
  | [], acc, h, t, o, ho => h t o ho
  | k :: ks, acc, h, t, o, ho => by
    simp only [List.foldl_cons] at ho
    refine keepLo_get lo ks _ (fun t o ho => ?_) t o ho
    cases hk : lo.get k with
    | none => rw [hk] at ho; exact h t o ho
    | some ok =>
      rw [hk] at ho
      simp only [Tr.get_set] at ho
      by_cases ht : t = k
      · subst ht; rw [if_pos rfl] at ho; rw [hk, ho]
      · rw [if_neg ht] at ho; exact h t o ho

theorem keepTm_get (tm : Tr AV) (lo : Tr LObj) : ∀ (ks : List Nat) (acc : Tr AV), (∀ t v, acc.get t = some v → tm.get t = some v ∧ ∀ k, k ∈ lpKey v → ∃ o, lo.get k = some o) →
    ∀ t v, (ks.foldl (fun acc k => match tm.get k with
      | some v => match v.key with
        | some t => match lo.get t with
          | some _ => acc.set k v
          | none => acc
        | none => acc.set k v
      | none => acc) acc).get t = some v → tm.get t = some v ∧ ∀ k, k ∈ lpKey v → ∃ o, lo.get k = some o
  | [], acc, h, t, v, hv => h t v hv
  | k :: ks, acc, h, t, v, hv => by
    simp only [List.foldl_cons] at hv
    refine keepTm_get tm lo ks _ (fun t v hv => ?_) t v hv
    cases hk : tm.get k with
    | none => rw [hk] at hv; exact h t v hv
    | some u =>
      rw [hk] at hv
      have set_ : ∀ u', u' = u → (∀ j, j ∈ lpKey u' → ∃ o, lo.get j = some o) → (acc.set k u').get t = some v → tm.get t = some v ∧ ∀ k, k ∈ lpKey v → ∃ o, lo.get k = some o := by
        intro u' hu hl hs
        rw [Tr.get_set] at hs
        by_cases ht : t = k
        · subst ht; rw [if_pos rfl] at hs; injection hs with hs; subst hs; subst hu; exact ⟨hk, hl⟩
        · rw [if_neg ht] at hs; exact h t v hs
      simp only at hv
      cases hk2 : u.key with
      | none =>
        rw [hk2] at hv
        exact set_ _ rfl (fun j e => by rw [mem_lpKey, hk2] at e; cases e) hv
      | some j =>
        rw [hk2] at hv
        simp only at hv
        cases hj : lo.get j with
        | none => rw [hj] at hv; exact h t v hv
        | some o =>
          rw [hj] at hv
          exact set_ _ rfl (fun j' e => by rw [mem_lpKey, hk2] at e; injection e with e; subst e; exact ⟨o, hj⟩) hv

theorem Cfg.keep {n : Nat} {μ : Mu} {ℓ : Loc} {g : Fr} {s : St} {w : World} {tmps : Array Value} (C : Cfg n μ ℓ g s w tmps) (ts ls : List Nat) : ∃ ℓ', Cfg n μ ℓ' (g.keep ts ls) s w tmps :=
  ⟨_, C.less rfl (keepLo_get g.lo ls .nil (fun t o h => by simp [Tr.get_nil] at h)) (keepTm_get g.tm (keepLo g.lo ls) ts .nil (fun t v h => by simp [Tr.get_nil] at h))⟩

theorem Cfg.keepAll {n : Nat} {μ : Mu} {ℓ : Loc} {g : Fr} {s : St} {w : World} {tmps : Array Value} (C : Cfg n μ ℓ g s w tmps) (lo0 : Tr LObj) : ∃ ℓ', Cfg n μ ℓ' (g.keepAll lo0) s w tmps :=
  ⟨_, C.less rfl (fun t o h => (Tr.get_filter _ _ _ _ _ _ h).1) (fun t v h => by
    obtain ⟨q1, q2⟩ := Tr.get_filter _ _ _ _ _ _ h
    refine ⟨q1, fun k e => ?_⟩
    rw [mem_lpKey] at e
    rw [e] at q2
    exact Option.isSome_iff_exists.1 q2)⟩

def exOf : Ex → Exit
  | .normal => .normal
  | .exit id => .exit id
  | .ret => .ret

section
variable {P : Program} {Γ : Ctx} (hΓ : Γ.Ok P) {call : CallT} (hC : CallOk P Γ call)
include hΓ hC

theorem runOps_sound {f : FuncId} {ops : Array Oper} {Q : Exit → Act → World → Prop} {n : Nat} : ∀ (rest : List Oper) {μ : Mu} {ℓ : Loc} {g g' : Fr} {s s' : St} {w : World} {a : Act} (C : Cfg n μ ℓ g s w a.tmps) (h : runOps Γ call f ops.toList rest g s = some (g', s'))
    (hQ : ∀ a' μ' ℓ' w', a'.defers = a.defers → Cfg n μ' ℓ' g' s' w' a'.tmps → Step n s.lock μ w μ' w' → s'.lock = s.lock → Q .normal a' w'), wpList P ops Q rest a w
  | [], μ, ℓ, g, g', s, s', w, a, C, h, hQ => by
    simp only [runOps, Option.some.injEq, Prod.mk.injEq] at h
    obtain ⟨rfl, rfl⟩ := h
    exact hQ a μ ℓ w rfl C (Step.refl _ _ _ _) rfl
  | o :: rest, μ, ℓ, g, g', s, s', w, a, C, h, hQ => by
    simp only [runOps] at h
    split at h
    · rename_i g1 s1 h1
      unfold oper1 at h1
      rw [opxF_eq] at h1
      unfold wpList
      have go : ∀ {μ' : Mu} {ℓ' : Loc} {g2 g3 : Fr} {s2 : St} {v : AV} {c : Value} {w' : World}, Cfg n μ' ℓ' g2 s2 w' a.tmps → Step n s.lock μ w μ' w' → RL μ' ℓ' v c → s2.lock = s.lock → g2.put o.dst v = some g3 → (g1, s1) = (g3, s2) → wpList P ops Q rest (a.put o.dst c) w' := by
        intro μ' ℓ' g2 g3 s2 v c w' c1 c2 c3 c4 c5 c6
        injection c6 with e1 e2
        subst e1; subst e2
        refine runOps_sound rest (put_sound c1 c3 c5) h fun a' μ2 ℓ2 w2 d1 d2 d3 d4 => hQ a' μ2 ℓ2 w2 ?_ d2 ?_ (d4.trans c4)
        · rw [d1]; cases o.dst <;> rfl
        · rw [c4] at d3; exact c2.trans d3 (Nat.le_refl _) (Nat.le_refl _)
      split at h1
      · rename_i hw
        rw [wantedV_sound C.fr hw]
        simp only [if_true]
        left
        split at h1
        · rename_i v ho
          cases hp : g.put o.dst v with
          | none => rw [hp] at h1; cases h1
          | some g2 =>
            rw [hp] at h1
            simp only [Option.map_some, Option.some.injEq] at h1
            exact opx_sound hΓ hC C ho fun c μ' ℓ' w' R => go R.cf R.st R.rl R.lk hp h1.symm
        · rename_i v gx sx ho
          cases hp : gx.put o.dst v with
          | none => rw [hp] at h1; cases h1
          | some g2 =>
            rw [hp] at h1
            simp only [Option.map_some, Option.some.injEq] at h1
            exact opx_sound hΓ hC C ho fun c μ' ℓ' w' R => go R.cf R.st R.rl R.lk hp h1.symm
        · cases h1
      · rename_i hw
        rw [wantedV_sound C.fr hw]
        simp only [Bool.false_eq_true, if_false]
        cases hp : g.put o.dst (.lit undef) with
        | none => rw [hp] at h1; cases h1
        | some g2 =>
          rw [hp] at h1
          simp only [Option.map_some, Option.some.injEq] at h1
          exact go C (Step.refl _ _ _ _) (.of_RV (.lit _)) rfl hp h1.symm
      · cases h1
    · cases h

/-- What holds where code ends. -/
def Ends (n : Nat) (lock : Nat) (μ : Mu) (w : World) (d : List Deferred) (g : Fr) (s : St) (a' : Act) (w' : World) : Prop :=
  a'.defers = d ∧ s.lock = lock ∧ ∃ μ' ℓ', Cfg n μ' ℓ' g s w' a'.tmps ∧ Step n lock μ w μ' w'

theorem exec_sound {f : FuncId} {n k : Nat} : ∀ (c : Code) {μ : Mu} {ℓ : Loc} {g g' : Fr} {s s' : St} {w : World} {a : Act} {x : Ex} (C : Cfg n μ ℓ g s w a.tmps) (h : exec Γ call f k c g s = some (x, g', s')) {Q : Exit → Act → World → Prop}
    (hQ : ∀ a' w', Ends n s.lock μ w a.defers g' s' a' w' → Q (exOf x) a' w'), c.wp P Q a w := by
  intro c
  induction c with
  | skip =>
    intro μ ℓ g g' s s' w a x C h Q hQ
    simp only [exec, Option.some.injEq, Prod.mk.injEq] at h
    obtain ⟨rfl, rfl, rfl⟩ := h
    exact wp_skip (hQ a w ⟨rfl, rfl, μ, ℓ, C, Step.refl _ _ _ _⟩)
  | exit id =>
    intro μ ℓ g g' s s' w a x C h Q hQ
    simp only [exec, Option.some.injEq, Prod.mk.injEq] at h
    obtain ⟨rfl, rfl, rfl⟩ := h
    exact wp_exit (hQ a w ⟨rfl, rfl, μ, ℓ, C, Step.refl _ _ _ _⟩)
  | ret =>
    intro μ ℓ g g' s s' w a x C h Q hQ
    simp only [exec, Option.some.injEq, Prod.mk.injEq] at h
    obtain ⟨rfl, rfl, rfl⟩ := h
    exact wp_ret (hQ a w ⟨rfl, rfl, μ, ℓ, C, Step.refl _ _ _ _⟩)
  | region id ops draw =>
    intro μ ℓ g g' s s' w a x C h Q hQ
    simp only [exec] at h
    cases draw with
    | true =>
      simp only [cond_true] at h
      split at h
      · rename_i g1 s1 hr
        simp only [Option.some.injEq, Prod.mk.injEq] at h
        obtain ⟨rfl, rfl, rfl⟩ := h
        exact draw_sound hΓ hC C hr fun a' μ' ℓ' w' d1 d2 d3 d4 => hQ a' w' ⟨d1, d4, μ', ℓ', d2, d3⟩
      · cases h
    | false =>
      simp only [cond_false] at h
      split at h
      · rename_i g1 s1 hr
        simp only [Option.some.injEq, Prod.mk.injEq] at h
        obtain ⟨rfl, rfl, rfl⟩ := h
        exact wp_region_list (runOps_sound hΓ hC ops.toList C hr fun a' μ' ℓ' w' d1 d2 d3 d4 => hQ a' w' ⟨d1, d4, μ', ℓ', d2, d3⟩)
      · cases h
  | seq p q ihp ihq =>
    intro μ ℓ g g' s s' w a x C h Q hQ
    simp only [exec] at h
    refine wp_seq ?_
    split at h
    · rename_i g1 s1 h1
      refine ihp C h1 fun a1 w1 E => ?_
      obtain ⟨d1, d2, μ1, ℓ1, d3, d4⟩ := E
      show q.wp P Q a1 w1
      refine ihq d3 h fun a2 w2 E2 => hQ a2 w2 ?_
      obtain ⟨e1, e2, μ2, ℓ2, e3, e4⟩ := E2
      rw [d2] at e4
      exact ⟨e1.trans d1, e2.trans d2, μ2, ℓ2, e3, d4.trans e4 (Nat.le_refl _) (Nat.le_refl _)⟩
    · rename_i r hno
      have hx : x ≠ .normal := fun e => by subst e; exact hno g' s' h
      refine ihp C h fun a1 w1 E => ?_
      have := hQ a1 w1 E
      cases x with
      | normal => exact absurd rfl hx
      | exit id => exact this
      | ret => exact this
  | cond c p q ihp ihq =>
    intro μ ℓ g g' s s' w a x C h Q hQ
    simp only [exec] at h
    split at h
    · rename_i b hb
      have hc := C.fr.ev (a := a) c
      rw [hb] at hc
      refine wp_cond (RV.lit_inv hc) ?_
      cases b with
      | true => exact ihp C (by simpa using h) hQ
      | false => exact ihq C (by simpa using h) hQ
    · cases h
  | block id p ih =>
    intro μ ℓ g g' s s' w a x C h Q hQ
    simp only [exec] at h
    refine wp_block ?_
    split at h
    · rename_i j g1 s1 h1
      refine ih C h1 fun a1 w1 E => ?_
      show Exit.inBlock id Q (.exit j) a1 w1
      show (if j = id then Q .normal a1 w1 else Q (.exit j) a1 w1)
      cases hj : Nat.beq j id with
      | true =>
        rw [hj] at h
        simp only [cond_true, Option.some.injEq, Prod.mk.injEq] at h
        obtain ⟨rfl, rfl, rfl⟩ := h
        rw [if_pos (Nat.eq_of_beq_eq_true hj)]; exact hQ a1 w1 E
      | false =>
        rw [hj] at h
        simp only [cond_false, Option.some.injEq, Prod.mk.injEq] at h
        obtain ⟨rfl, rfl, rfl⟩ := h
        rw [if_neg (fun e => by subst e; rw [Nat.beq_refl] at hj; cases hj)]; exact hQ a1 w1 E
    · rename_i r hno
      refine ih C h fun a1 w1 E => ?_
      have := hQ a1 w1 E
      cases x with
      | normal => exact this
      | exit j => exact (hno j g' s' h).elim
      | ret => exact this
  | loop p ih =>
    intro μ ℓ g g' s s' w a x C h Q hQ
    have go : ∀ (kp : Fr → Fr) (hkp : ∀ {μ : Mu} {ℓ : Loc} {g : Fr} {s : St} {w : World} {tmps : Array Value}, Cfg n μ ℓ g s w tmps → ∃ ℓ', Cfg n μ ℓ' (kp g) s w tmps) (m : Nat) {μ1 : Mu} {ℓ1 : Loc} {g1 : Fr} {s1 : St} {w1 : World} {a1 : Act},
        Cfg n μ1 ℓ1 g1 s1 w1 a1.tmps → Step n s.lock μ w μ1 w1 → s1.lock = s.lock → a1.defers = a.defers → loopN (fun g s => exec Γ call f k p (kp g) s) m g1 s1 = some (x, g', s') → Code.rounds P p Q m a1 w1 := by
      intro kp hkp m
      induction m with
      | zero => intro μ1 ℓ1 g1 s1 w1 a1 _ _ _ _ h; cases h
      | succ m ihm =>
        intro μ1 ℓ1 g1 s1 w1 a1 C1 S1 l1 d1 h
        rw [rounds_succ]
        simp only [loopN] at h
        obtain ⟨ℓ2, C2⟩ := hkp C1
        split at h
        · rename_i g2 s2 h2
          refine ih C2 h2 fun a3 w3 E => ?_
          obtain ⟨e1, e2, μ3, ℓ3, e3, e4⟩ := E
          rw [l1] at e4
          exact ihm e3 (S1.trans e4 (Nat.le_refl _) (Nat.le_refl _)) (e2.trans l1) (e1.trans d1) h
        · rename_i r hno
          refine ih C2 h fun a3 w3 E => ?_
          obtain ⟨e1, e2, μ3, ℓ3, e3, e4⟩ := E
          rw [l1] at e4
          have := hQ a3 w3 ⟨e1.trans d1, e2.trans l1, μ3, ℓ3, e3, S1.trans e4 (Nat.le_refl _) (Nat.le_refl _)⟩
          cases x with
          | normal => exact (hno g' s' h).elim
          | exit j => exact this
          | ret => exact this
    simp only [exec] at h
    refine wp_loop_rounds k ?_
    split at h
    · rename_i ts ls _
      exact go (fun g => g.keep ts ls) (fun C => C.keep ts ls) k C (Step.refl _ _ _ _) rfl rfl h
    · exact go (fun g' => g'.keepAll g.lo) (fun C => C.keepAll g.lo) k C (Step.refl _ _ _ _) rfl rfl h
  | _ => intro μ ℓ g g' s s' w a x C h; simp [exec] at h
end
end
end Go.Vm

namespace Go.Vm
noncomputable section

theorem RV.stripT {μ : Mu} {v : AV} {c : Value} (h : RV μ v c) : RV μ v.stripT c := by
  cases v with
  | tup vs =>
    cases h with
    | tup _ C h1 h3 =>
      refine .tup _ C (by simp [h1]) fun i v hv => ?_
      rw [List.getElem?_map] at hv
      cases hi : vs[i]? with
      | none => rw [hi] at hv; cases hv
      | some u =>
        rw [hi] at hv; simp only [Option.map_some, Option.some.injEq] at hv
        subst hv; exact (h3 i u hi).strip
  | _ => exact h.strip

/-! ### Values told by what they hold -/
theorem mapO_get {α β : Type} {f : α → Option β} : ∀ (xs : List α) (ys : List β), mapO f xs = some ys → ys.length = xs.length ∧ (∀ (i : Nat) (y : β), ys[i]? = some y → ∃ x, xs[i]? = some x ∧ f x = some y) ∧ (∀ (i : Nat) (x : α), xs[i]? = some x → ∃ y, ys[i]? = some y ∧ f x = some y)
  | [], ys, h => by simp only [mapO, Option.some.injEq] at h; subst h; exact ⟨rfl, fun i y h => by simp at h, fun i x h => by simp at h⟩
  | x :: xs, ys, h => by
    simp only [mapO] at h
    split at h
    · rename_i y hy
      cases hm : mapO f xs with
      | none => rw [hm] at h; cases h
      | some zs =>
        rw [hm] at h; simp only [Option.map_some, Option.some.injEq] at h; subst h
        obtain ⟨h1, h2, h3⟩ := mapO_get xs zs hm
        refine ⟨by simp [h1], fun i z hz => ?_, fun i u hu => ?_⟩
        · cases i with
          | zero => simp at hz; subst hz; exact ⟨x, rfl, hy⟩
          | succ i => obtain ⟨u, g1, g2⟩ := h2 i z (by simpa using hz); exact ⟨u, by simpa using g1, g2⟩
        · cases i with
          | zero => simp at hu; subst hu; exact ⟨y, rfl, hy⟩
          | succ i => obtain ⟨z, g1, g2⟩ := h3 i u (by simpa using hu); exact ⟨z, by simpa using g1, g2⟩
    · cases h

theorem freeze_cell {Γ : Ctx} {s : St} {n : Nat} {v v' : AV} (h : freezeV Γ s n v = some v') (hc : v.isCell = true) : v'.isCell = true := by
  cases n with
  | zero => cases h
  | succ n =>
    cases v with
    | any => cases hc
    | agg cs => cases hc
    | tup vs => cases hc
    | lp t off => cases hc
    | lm t => cases hc
    | ls e sz t len => cases hc
    | hp b off => simp [freezeV] at h
    | mp b => simp [freezeV] at h
    | lit c => simp only [freezeV, Option.some.injEq] at h; subst h; exact hc
    | str l => simp only [freezeV, Option.some.injEq] at h; subst h; rfl
    | sl tk es => simp only [freezeV] at h; cases hm : mapO (freezeV Γ s n) es <;> rw [hm] at h <;> simp at h; subst h; rfl
    | vp cs off => simp only [freezeV] at h; cases hm : mapO (freezeV Γ s n) cs <;> rw [hm] at h <;> simp at h; subst h; rfl
    | fn f caps => simp only [freezeV] at h; cases hm : mapO (freezeV Γ s n) caps <;> rw [hm] at h <;> simp at h; subst h; rfl
    | rs e sz b off len =>
      simp only [freezeV] at h
      split at h
      · split at h
        · rename_i es _
          cases hm : mapO (freezeV Γ s n) es <;> rw [hm] at h <;> simp at h; subst h; rfl
        · cases h
      · cases h

/-- The cells of a frozen value are frozen cells. -/
theorem freeze_cells {Γ : Ctx} {s : St} {n : Nat} {v v' : AV} (h : freezeV Γ s n v = some v') (hc : ∀ c, c ∈ v.cells → c.isCell = true) :
    v'.cells.length = v.cells.length ∧ (∀ c, c ∈ v'.cells → c.isCell = true) ∧ ∀ (j : Nat) (c' : AV), v'.cells[j]? = some c' → ∃ c k, v.cells[j]? = some c ∧ k ≤ n ∧ freezeV Γ s k c = some c' := by
  have single : v.cells = [v] → v.isCell = true → v'.cells.length = v.cells.length ∧ (∀ c, c ∈ v'.cells → c.isCell = true) ∧ ∀ (j : Nat) (c' : AV), v'.cells[j]? = some c' → ∃ c k, v.cells[j]? = some c ∧ k ≤ n ∧ freezeV Γ s k c = some c' := by
    intro e1 e2
    have e3 := freeze_cell h e2
    rw [e1, cells_of_isCell e3]
    refine ⟨rfl, fun c hc => ?_, fun j c' hj => ?_⟩
    · simp at hc; subst hc; exact e3
    · cases j with
      | zero => simp at hj; subst hj; exact ⟨v, n, rfl, Nat.le_refl _, h⟩
      | succ j => simp at hj
  cases v with
  | agg cs =>
    cases n with
    | zero => cases h
    | succ n =>
      simp only [freezeV] at h
      cases hm : mapO (freezeV Γ s n) cs with
      | none => rw [hm] at h; cases h
      | some cs' =>
        rw [hm] at h; simp only [Option.map_some, Option.some.injEq] at h; subst h
        obtain ⟨h1, h2, _⟩ := mapO_get cs cs' hm
        refine ⟨h1, fun c hcm => ?_, fun j c' hj => ?_⟩
        · obtain ⟨j, hj⟩ := List.getElem?_of_mem hcm
          obtain ⟨x, q1, q2⟩ := h2 j c hj
          exact freeze_cell q2 (hc x (List.mem_of_getElem? q1))
        · obtain ⟨x, q1, q2⟩ := h2 j c' hj
          exact ⟨x, n, q1, Nat.le_succ _, q2⟩
  | _ => exact single rfl (hc _ (by simp [AV.cells]))

/-- The store frozen: what was told stays told, and the rows of the store are told. -/
structure Froze (μ : Mu) (s : St) (w : World) (ν : Mu) : Prop where
  fro : ∀ b o x, μ.fro b o = some x → ν.fro b o = some x
  obj : ∀ id cs b tot, s.objs.get id = some (.cells cs) → μ.at_ id = some (b, tot) → ∀ o x, w.cell? ⟨b, o, none⟩ = some x → ν.fro b o = some x

theorem cellsAt_get {s : St} {id : Nat} {cs : List AV} (h : s.cellsAt id = some cs) : s.objs.get id = some (.cells cs) := by
  unfold St.cellsAt at h
  split at h
  · rename_i cs' hg; injection h with h; subst h; exact hg
  · cases h

theorem freeze_sound {Γ : Ctx} {μ ν : Mu} {s : St} {w : World} (H : ∀ id cs, s.objs.get id = some (.cells cs) → ∃ b tot, μ.at_ id = some (b, tot) ∧ μ.blk b = .obj id ∧
    ∃ C T, w.heap[b]? = some (.cells C T (0, 0)) ∧ C.size = tot ∧ cs.length ≤ tot ∧ CellsRel μ cs C) (Z : Froze μ s w ν) : ∀ (n : Nat) (v v' : AV) (c : Value), freezeV Γ s n v = some v' → RV μ v c → RV ν v' c := by
  intro n
  induction n using Nat.strongRecOn with
  | _ n ih =>
    cases n with
    | zero => intro v v' c h; cases h
    | succ n =>
      intro v v' c h hv
      -- rows of elements
      have row : ∀ (es es' : List AV) (k : Nat) (hk : k ≤ n) (tk : Tok) (a : Option Addr) (cap sz b o : Nat) (d : Nat → Value), mapO (freezeV Γ s k) es = some es' → (es ≠ [] → a = some ⟨b, o, none⟩) → (∀ e, e ∈ es → e.cells.length = sz) →
          (∀ e, e ∈ es → ∀ c, c ∈ e.cells → c.isCell = true) → (∀ (i : Nat) (e : AV) (j : Nat) (c : AV), es[i]? = some e → e.cells[j]? = some c → ν.fro b (o + i * sz + j) = some (d (i * sz + j))) →
          (∀ (i : Nat) (e : AV) (j : Nat) (c : AV), es[i]? = some e → e.cells[j]? = some c → RV μ c (d (i * sz + j))) → es.length ≤ cap → TokOK ν a es.length cap tk → (∀ id, tk ≠ .tk id) → RV ν (.sl tk es') (.slice a es.length cap) := by
        intro es es' k hk tk a cap sz b o d hm hne hsz hcl hfro hrv hcap htok hntk
        obtain ⟨m1, m2, m3⟩ := mapO_get es es' hm
        rw [← m1] at htok hcap ⊢
        have back : ∀ e', e' ∈ es' → ∃ e, e ∈ es ∧ freezeV Γ s k e = some e' := fun e' he => by
          obtain ⟨i, hi⟩ := List.getElem?_of_mem he
          obtain ⟨e, q1, q2⟩ := m2 i e' hi
          exact ⟨e, List.mem_of_getElem? q1, q2⟩
        refine .sl tk es' a cap sz b o d (fun hn => hne (fun e => hn ?_)) (fun e he => ?_) (fun e he => ?_) (fun i e' j c' hi hj => ?_) (fun i e' j c' hi hj => ?_) hcap htok (fun id h e => absurd e (hntk id))
        · subst e; exact List.eq_nil_of_length_eq_zero (by simpa using m1)
        · obtain ⟨x, q1, q2⟩ := back e he
          rw [(freeze_cells q2 (hcl x q1)).1]; exact hsz x q1
        · obtain ⟨x, q1, q2⟩ := back e he
          exact (freeze_cells q2 (hcl x q1)).2.1
        · obtain ⟨e, q1, q2⟩ := m2 i e' hi
          obtain ⟨c, k', q3, _, _⟩ := (freeze_cells q2 (hcl e (List.mem_of_getElem? q1))).2.2 j c' hj
          exact hfro i e j c q1 q3
        · obtain ⟨e, q1, q2⟩ := m2 i e' hi
          obtain ⟨c, k', q3, q4, q5⟩ := (freeze_cells q2 (hcl e (List.mem_of_getElem? q1))).2.2 j c' hj
          exact ih k' (by omega) c c' _ q5 (hrv i e j c q1 q3)
      cases v with
      | any => simp only [freezeV, Option.some.injEq] at h; subst h; exact .any _
      | lit x => simp only [freezeV, Option.some.injEq] at h; subst h; rw [RV.lit_inv hv]; exact .lit _
      | str l => simp only [freezeV, Option.some.injEq] at h; subst h; rw [RV.str_inv hv]; exact .str _
      | agg cs =>
        simp only [freezeV] at h
        cases hm : mapO (freezeV Γ s n) cs with
        | none => rw [hm] at h; cases h
        | some cs' =>
          rw [hm] at h; simp only [Option.map_some, Option.some.injEq] at h; subst h
          obtain ⟨m1, m2, _⟩ := mapO_get cs cs' hm
          cases hv with
          | agg _ C h1 h2 h3 =>
            refine .agg cs' C (by rw [h1, m1]) (fun x hx => ?_) (fun i x hx => ?_)
            · obtain ⟨i, hi⟩ := List.getElem?_of_mem hx
              obtain ⟨y, q1, q2⟩ := m2 i x hi
              exact freeze_cell q2 (h2 y (List.mem_of_getElem? q1))
            · obtain ⟨y, q1, q2⟩ := m2 i x hx
              exact ih n (Nat.lt_succ_self n) y x _ q2 (h3 i y q1)
      | tup cs =>
        simp only [freezeV] at h
        cases hm : mapO (freezeV Γ s n) cs with
        | none => rw [hm] at h; cases h
        | some cs' =>
          rw [hm] at h; simp only [Option.map_some, Option.some.injEq] at h; subst h
          obtain ⟨m1, m2, _⟩ := mapO_get cs cs' hm
          cases hv with
          | tup _ C h1 h3 =>
            refine .tup cs' C (by rw [h1, m1]) (fun i x hx => ?_)
            obtain ⟨y, q1, q2⟩ := m2 i x hx
            exact ih n (Nat.lt_succ_self n) y x _ q2 (h3 i y q1)
      | fn f cs =>
        simp only [freezeV] at h
        cases hm : mapO (freezeV Γ s n) cs with
        | none => rw [hm] at h; cases h
        | some cs' =>
          rw [hm] at h; simp only [Option.map_some, Option.some.injEq] at h; subst h
          obtain ⟨m1, m2, _⟩ := mapO_get cs cs' hm
          cases hv with
          | fn _ _ C h1 h3 =>
            refine .fn f cs' C (by rw [h1, m1]) (fun i x hx => ?_)
            obtain ⟨y, q1, q2⟩ := m2 i x hx
            exact ih n (Nat.lt_succ_self n) y x _ q2 (h3 i y q1)
      | sl tk es =>
        simp only [freezeV] at h
        cases hm : mapO (freezeV Γ s n) es with
        | none => rw [hm] at h; cases h
        | some es' =>
          rw [hm] at h; simp only [Option.map_some, Option.some.injEq] at h; subst h
          cases hv with
          | sl _ _ a cap sz b o d hne hsz hcl hfro hrv hcap htok htk =>
            refine row es es' n (Nat.le_refl _) (freezeTok tk) a cap sz b o d hm hne hsz hcl (fun i e j c h1 h2 => Z.fro _ _ _ (hfro i e j c h1 h2)) hrv hcap ?_ (fun id e => by cases tk <;> simp [freezeTok] at e)
            cases tk <;> first | exact htok | trivial
      | vp cs off =>
        simp only [freezeV] at h
        cases hm : mapO (freezeV Γ s n) cs with
        | none => rw [hm] at h; cases h
        | some cs' =>
          rw [hm] at h; simp only [Option.map_some, Option.some.injEq] at h; subst h
          obtain ⟨m1, m2, _⟩ := mapO_get cs cs' hm
          cases hv with
          | vp _ _ b o d hcl hfro hrv =>
            refine .vp cs' off b o d (fun x hx => ?_) (fun j x hx => ?_) (fun j x hx => ?_)
            · obtain ⟨i, hi⟩ := List.getElem?_of_mem hx
              obtain ⟨y, q1, q2⟩ := m2 i x hi
              exact freeze_cell q2 (hcl y (List.mem_of_getElem? q1))
            · obtain ⟨y, q1, q2⟩ := m2 j x hx
              exact Z.fro _ _ _ (hfro j y q1)
            · obtain ⟨y, q1, q2⟩ := m2 j x hx
              exact ih n (Nat.lt_succ_self n) y x _ q2 (hrv j y q1)
      | rs e sz id off len =>
        simp only [freezeV] at h
        split at h
        · rename_i ei hei
          split at h
          · rename_i es hes
            cases hm : mapO (freezeV Γ s n) es with
            | none => rw [hm] at h; cases h
            | some es' =>
              rw [hm] at h; simp only [Option.map_some, Option.some.injEq] at h; subst h
              simp only [content] at hes
              split at hes
              · rename_i cs hcs
                cases hb : Nat.ble (off + len * ei.size) cs.length && Nat.blt 0 ei.size with
                | false => rw [hb] at hes; cases hes
                | true =>
                  rw [hb, cond_true] at hes
                  simp only [Bool.and_eq_true, Option.some.injEq] at hb hes
                  have b1 := Nat.le_of_ble_eq_true hb.1
                  have b2 : 0 < ei.size := Nat.le_of_ble_eq_true hb.2
                  have hcs' := cellsAt_get hcs
                  obtain ⟨bb, tot, k1, k2, C, T, k3, k4, k5, k6⟩ := H id cs hcs'
                  cases hv with
                  | rs _ _ _ _ _ a cap hcap h0 =>
                    have hlen : es.length = len := by
                      subst hes
                      unfold elems
                      cases ei.isAgg with
                      | true => simp only [cond_true, List.length_map, chunks_length]
                      | false =>
                        simp only [cond_false, List.length_take, List.length_drop]
                        have : len ≤ len * ei.size := Nat.le_mul_of_pos_right _ b2
                        omega
                    -- where each cell stands
                    have at_ : ∃ z, (∀ e, e ∈ es → e.cells.length = z) ∧ (∀ e, e ∈ es → ∀ c, c ∈ e.cells → c.isCell = true) ∧ ∀ (i : Nat) (e : AV) (j : Nat) (c : AV), es[i]? = some e → e.cells[j]? = some c → cs[off + i * z + j]? = some c := by
                      subst hes
                      unfold elems
                      cases hag : ei.isAgg with
                      | true =>
                        simp only [cond_true]
                        have here : ∀ (i : Nat) (e : AV), ((chunks len ei.size (cs.drop off)).map AV.agg)[i]? = some e → i < len ∧ e = .agg (((cs.drop off).drop (i * ei.size)).take ei.size) := fun i e hi => by
                          rw [List.getElem?_map] at hi
                          cases hx : (chunks len ei.size (cs.drop off))[i]? with
                          | none => rw [hx] at hi; cases hi
                          | some x =>
                            rw [hx] at hi; simp only [Option.map_some, Option.some.injEq] at hi
                            obtain ⟨q1, q2⟩ := chunks_get _ _ _ i x hx
                            subst q2; exact ⟨q1, hi.symm⟩
                        have fit : ∀ i, i < len → off + i * ei.size + ei.size ≤ cs.length := fun i hi => by
                          have : i * ei.size + ei.size ≤ len * ei.size := by rw [← Nat.succ_mul]; exact Nat.mul_le_mul_right _ hi
                          omega
                        refine ⟨ei.size, fun e he => ?_, fun e he c hc => ?_, fun i e j c hi hj => ?_⟩
                        · obtain ⟨i, hi⟩ := List.getElem?_of_mem he
                          obtain ⟨q1, q2⟩ := here i e hi
                          have := fit i q1
                          subst q2
                          simp only [AV.cells, List.length_take, List.length_drop]; omega
                        · obtain ⟨i, hi⟩ := List.getElem?_of_mem he
                          obtain ⟨q1, q2⟩ := here i e hi
                          subst q2
                          have hc : c ∈ cs := List.mem_of_mem_drop (List.mem_of_mem_drop (List.mem_of_mem_take hc))
                          obtain ⟨k, hk⟩ := List.getElem?_of_mem hc
                          exact (k6 k c hk).1
                        · obtain ⟨q1, q2⟩ := here i e hi
                          subst q2
                          simp only [AV.cells, List.getElem?_take, List.getElem?_drop] at hj
                          split at hj
                          · rw [Nat.add_assoc]; exact hj
                          · cases hj
                      | false =>
                        simp only [cond_false]
                        have here : ∀ (i : Nat) (e : AV), ((cs.drop off).take len)[i]? = some e → cs[off + i]? = some e := fun i e hi => by
                          rw [List.getElem?_take] at hi
                          split at hi
                          · rw [List.getElem?_drop] at hi; exact hi
                          · cases hi
                        have cell : ∀ e, e ∈ (cs.drop off).take len → e.isCell = true := fun e he => by
                          obtain ⟨i, hi⟩ := List.getElem?_of_mem he
                          exact (k6 _ e (here i e hi)).1
                        refine ⟨1, fun e he => by rw [cells_of_isCell (cell e he)]; rfl, fun e he c hc => ?_, fun i e j c hi hj => ?_⟩
                        · rw [cells_of_isCell (cell e he)] at hc; simp at hc; subst hc; exact cell c he
                        · rw [cells_of_isCell (cell e (List.mem_of_getElem? hi))] at hj
                          cases j with
                          | zero => simp at hj; subst hj; rw [Nat.mul_one, Nat.add_zero]; exact here i e hi
                          | succ j => simp at hj
                    obtain ⟨z, z1, z2, z3⟩ := at_
                    rw [← hlen]
                    have hCat : ∀ (k : Nat) (x : AV), cs[k]? = some x → w.cell? ⟨bb, k, none⟩ = some (C.getD k undef) ∧ RV μ x (C.getD k undef) := fun k x hk => by
                      have hl := (List.getElem?_eq_some_iff.1 hk).1
                      refine ⟨?_, (k6 k x hk).2⟩
                      rw [cell_of k3, Array.getD_eq_getD_getElem?, Array.getElem?_eq_getElem (by omega)]; rfl
                    refine row es es' n (Nat.le_refl _) .ro a cap z bb off (fun k => C.getD (off + k) undef) hm (fun hn => ?_) z1 z2 (fun i e j c hi hj => ?_) (fun i e j c hi hj => ?_) (by omega) trivial (fun id e => by cases e)
                    · have hpos : 0 < len := by
                        rw [← hlen]
                        exact List.length_pos_iff.2 hn
                      obtain ⟨b', tot', g1, g2, _⟩ := h0 hpos
                      rw [k1] at g1; injection g1 with g1; injection g1 with e1 e2; subst e1
                      exact g2
                    · have := z3 i e j c hi hj
                      rw [Nat.add_assoc] at this ⊢
                      exact Z.obj id cs bb tot hcs' k1 _ _ (hCat _ c this).1
                    · have := z3 i e j c hi hj
                      rw [Nat.add_assoc] at this
                      exact (hCat _ c this).2
              · cases hes
          · cases h
        · cases h
      | hp b off => simp [freezeV] at h
      | mp b => simp [freezeV] at h
      | lp t off => simp [freezeV] at h
      | lm t => simp [freezeV] at h
      | ls e sz t len => simp [freezeV] at h

def resF (tmps : Array Value) : ResultVar → Sem Value
  | .tmp t => pure (tmps.getD t undef)
  | .cell a t => do loadVar t (← asAddr (tmps.getD a undef))
theorem results_eq (fn : Func) (tmps : Array Value) : results fn tmps = (do let vs ← fn.results.mapM (resF tmps); pure (if h : vs.size = 1 then vs[0] else .tuple vs)) := by
  have e : (fun | .tmp t => pure (tmps.getD t undef) | .cell a t => do loadVar t (← asAddr (tmps.getD a undef)) : ResultVar → Sem Value) = resF tmps := funext fun x => by cases x <;> rfl
  rw [← e]; rfl

section
variable {P : Program} {Γ : Ctx} (hΓ : Γ.Ok P)
include hΓ

theorem resOf_sound {n : Nat} {μ : Mu} {ℓ : Loc} {g : Fr} {s : St} {w : World} {tmps : Array Value} (C : Cfg n μ ℓ g s w tmps) : ∀ (rs : List ResultVar) (vs : List AV), resOf Γ g s rs = some vs →
    ∃ cs : List Value, (rs.mapM (resF tmps)).run P w = .ok cs w ∧ All (RV μ) vs cs
  | [], vs, h => by simp only [resOf, Option.some.injEq] at h; subst h; exact ⟨[], rfl, trivial⟩
  | .tmp t :: rs, vs, h => by
    simp only [resOf] at h
    have hev : RL μ ℓ (g.ev (.tmp t)) (tmps.getD t undef) := C.fr.ev (a := ⟨tmps, []⟩) (.tmp t)
    split at h
    · cases h
    · cases h
    · cases h
    · rename_i v hno hno2 hno3
      cases hr : resOf Γ g s rs with
      | none => rw [hr] at h; cases h
      | some us =>
        rw [hr] at h; simp only [Option.map_some, Option.some.injEq] at h; subst h
        obtain ⟨cs, h1, h2⟩ := resOf_sound C rs us hr
        refine ⟨tmps.getD t undef :: cs, ?_, hev.toRV ?_, h2⟩
        · simp only [List.mapM_cons, resF, Sem.run_bind, Sem.run_pure, Result.andThen_ok, h1]
        · cases hg : g.ev (.tmp t) <;> first | rfl | (exact (hno _ _ hg).elim) | (exact (hno2 _ hg).elim) | (exact (hno3 _ _ _ _ hg).elim)
  | .cell x t :: rs, vs, h => by
    simp only [resOf] at h
    have hev : RL μ ℓ (g.ev (.tmp x)) (tmps.getD x undef) := C.fr.ev (a := ⟨tmps, []⟩) (.tmp x)
    split at h
    · rename_i i cs off hi hd
      split at h
      · rename_i v hv
        cases hr : resOf Γ g s rs with
        | none => rw [hr] at h; cases h
        | some us =>
          rw [hr] at h; simp only [Option.map_some, Option.some.injEq] at h; subst h
          obtain ⟨ds, h1, h2⟩ := resOf_sound C rs us hr
          obtain ⟨b, o, e1, e2⟩ := deref_sound C.wr C.fr hev hd
          obtain ⟨cv, h3, h4⟩ := partAt_sound hΓ e2 hi hv
          refine ⟨cv :: ds, ?_, h4, h2⟩
          have h5 : (resF tmps (.cell x t)).run P w = .ok cv w := by
            show (do loadVar t (← asAddr (tmps.getD x undef)) : Sem Value).run P w = _
            rw [e1]
            simp only [asAddr, Sem.run_bind, Sem.run_pure, Result.andThen_ok, h3]
          simp only [List.mapM_cons, Sem.run_bind, h5, Sem.run_pure, Result.andThen_ok, h1]
      · cases h
    · cases h

theorem results_sound {n : Nat} {μ : Mu} {ℓ : Loc} {g : Fr} {s : St} {w : World} {tmps : Array Value} (C : Cfg n μ ℓ g s w tmps) {fn : Func} {vs : List AV} (h : resOf Γ g s fn.results.toList = some vs) :
    ∃ cv, (results fn tmps).run P w = .ok cv w ∧ RV μ (oneOf vs) cv := by
  obtain ⟨cs, h1, h2⟩ := resOf_sound hΓ C _ _ h
  have hl := All.length _ _ h2
  refine ⟨if h : cs.toArray.size = 1 then cs.toArray[0] else .tuple cs.toArray, ?_, ?_⟩
  · rw [results_eq, Array.mapM_eq_mapM_toList]
    simp only [Sem.run_bind, Sem.run_map, h1]
    rfl
  · match vs, cs, h2, hl with
    | [v], [c], h2, _ => exact h2.1
    | [], [], _, _ => exact .tup [] #[] rfl fun i v h => by simp at h
    | v1 :: v2 :: vs, c1 :: c2 :: cs, h2, hl =>
      rw [dif_neg (by simp)]
      refine .tup _ _ (by simpa using hl) fun i v hv => ?_
      obtain ⟨c, q1, q2⟩ := All.get _ _ h2 i v hv
      rw [show (c1 :: c2 :: cs).toArray.getD i undef = c from getD_of (by simpa using q1)]
      exact q2
end

theorem argsTm_get : ∀ (vs : List AV) (i : Nat) (t : Tr AV) (k : Nat) (v : AV), (argsTm vs i t).get k = some v → (i ≤ k ∧ vs[k - i]? = some v) ∨ t.get k = some v
  | [], i, t, k, v, h => .inr h
  | u :: vs, i, t, k, v, h => by
    rcases argsTm_get vs (i + 1) _ k v h with ⟨h1, h2⟩ | h
    · exact .inl ⟨by omega, by rw [show k - i = (k - (i + 1)) + 1 by omega, List.getElem?_cons_succ]; exact h2⟩
    · rw [Tr.get_set] at h
      by_cases hk : k = i
      · subst hk; rw [if_pos rfl] at h; exact .inl ⟨Nat.le_refl _, by rw [Nat.sub_self]; simpa using h⟩
      · rw [if_neg hk] at h; exact .inr h

section
variable {P : Program} {Γ : Ctx} (hΓ : Γ.Ok P) {call : CallT} (hC : CallOk P Γ call)
include hΓ hC

theorem bodyX_sound {n f : Nat} {fn : Func} {c : Code} (hf : P.funcs[f]? = some fn) (hb : fn.body = some c) {args : List AV} {s s' : St} {r : AV} (hl : args.length ≤ fn.ntmps) (h : bodyX Γ call n f fn c args s = some (r, s'))
    {μ : Mu} {w : World} {cargs : List Value} (H : WRel μ s w) (ha : All (RV μ) args cargs) :
    Calls P f cargs.toArray w fun e w' => ∃ cv μ', e = .returned cv ∧ WRel μ' s' w' ∧ Step w.heap.size s.lock μ w μ' w' ∧ RV μ' r cv ∧ s'.lock = s.lock := by
  unfold bodyX at h
  have hlen := All.length _ _ ha
  have C0 : Cfg w.heap.size μ (fun _ => none) { tm := argsTm args 0 .nil, lo := .nil, nt := fn.ntmps } s w (cargs.toArray ++ Array.replicate (fn.ntmps - cargs.toArray.size) undef) := by
    refine ⟨H, ⟨fun t v ht => ?_, by simp [hlen]; omega, fun t o ht => by simp [Tr.get_nil] at ht, fun t t' cs cs' b h => by simp [Tr.get_nil] at h, fun t b h => by cases h⟩, Nat.le_refl _⟩
    rcases argsTm_get args 0 .nil t v ht with ⟨_, h1⟩ | h1
    · rw [Nat.sub_zero] at h1
      obtain ⟨c, q1, q2⟩ := All.get _ _ ha t v h1
      have hlt := (List.getElem?_eq_some_iff.1 q1).1
      have e : (cargs.toArray ++ Array.replicate (fn.ntmps - cargs.toArray.size) undef).getD t undef = c := by
        refine getD_of ?_
        rw [Array.getElem?_append_left (by simpa using hlt)]
        simpa using q1
      rw [e]; exact .of_RV q2
    · simp [Tr.get_nil] at h1
  have fin : ∀ (x : Ex) (g1 : Fr) (s1 : St), (x = .normal ∨ x = .ret) → exec Γ call f n c { tm := argsTm args 0 .nil, lo := .nil, nt := fn.ntmps } s = some (x, g1, s1) →
      ((resOf Γ g1 s1 fn.results.toList).map fun vs => (cond (Γ.keepR f) (oneOf vs) (oneOf vs).stripT, s1)) = some (r, s') →
      Calls P f cargs.toArray w fun e w' => ∃ cv μ', e = .returned cv ∧ WRel μ' s' w' ∧ Step w.heap.size s.lock μ w μ' w' ∧ RV μ' r cv ∧ s'.lock = s.lock := by
    intro x g1 s1 hx he hr
    cases hres : resOf Γ g1 s1 fn.results.toList with
    | none => rw [hres] at hr; cases hr
    | some vs =>
      rw [hres] at hr
      simp only [Option.map_some, Option.some.injEq, Prod.mk.injEq] at hr
      obtain ⟨hr, rfl⟩ := hr
      have post : ∀ a' w', Ends w.heap.size s.lock μ w [] g1 s1 a' w' → bodyPost P fn (fun e w' => ∃ cv μ', e = .returned cv ∧ WRel μ' s1 w' ∧ Step w.heap.size s.lock μ w μ' w' ∧ RV μ' r cv ∧ s1.lock = s.lock) (exOf x) a' w' := by
        intro a' w' E
        obtain ⟨d1, d2, μ', ℓ', d3, d4⟩ := E
        obtain ⟨cv, q1, q2⟩ := results_sound hΓ d3 hres
        have q3 : RV μ' r cv := by
          rw [← hr]
          cases Γ.keepR f with
          | true => exact q2
          | false => exact q2.stripT
        rcases hx with rfl | rfl
        · exact ⟨d1, cv, q1, cv, μ', rfl, d3.wr, d4, q3, d2⟩
        · exact ⟨d1, cv, q1, cv, μ', rfl, d3.wr, d4, q3, d2⟩
      exact calls_of_wp hf hb (exec_sound hΓ hC c C0 he fun a' w' E => post a' w' E)
  split at h
  · cases h
  · rename_i x g1 s1 hno he
    refine fin x g1 s1 ?_ he h
    cases x with
    | normal => exact .inl rfl
    | ret => exact .inr rfl
    | exit j => exact (hno j rfl).elim
  · cases h
end
end
end Go.Vm

namespace Go.Vm
noncomputable section

/-- The empty store. -/
def St.nil : St := ⟨0, 0, .nil⟩

/-- The memory as a body sees it that runs by itself. -/
def Mu.alone (μ : Mu) : Mu where
  blk b := match μ.blk b with
    | .data f _ => .data f none
    | _ => .free
  at_ _ := none
  hist _ := none

theorem alone_fro {μ : Mu} (b o : Nat) : μ.alone.fro b o = μ.fro b o := by
  unfold Mu.fro Mu.alone
  cases h : μ.blk b <;> simp [h]

theorem alone_still {μ : Mu} (b : Nat) : still μ.alone 0 b := by
  unfold still Mu.alone
  simp only
  cases μ.blk b <;> trivial

theorem WRel.alone {μ : Mu} {s : St} {w : World} (H : WRel μ s w) : WRel μ.alone St.nil w := by
  refine ⟨fun b o v h => H.fro b o v (by rw [← alone_fro]; exact h), fun b h => H.bnd b fun e => h (by unfold Mu.alone; simp [e]), fun id _ => ⟨rfl, rfl, rfl⟩, Nat.le_refl _, fun id cs h => ?_, fun id kvs h => ?_, fun id sz h => ?_⟩
  · cases h
  · cases h
  · cases h

/-- The memory behind a body that ran by itself. -/
def Mu.behind (μ μ1 : Mu) (n : Nat) (w' : World) : Mu where
  blk b := if b < n then μ.blk b else match μ1.blk b with
    | .data f _ => .data f none
    | .obj _ => .data (fun o => w'.cell? ⟨b, o, none⟩) none
    | _ => .free
  at_ := μ.at_
  hist := μ.hist

theorem behind_old {μ μ1 : Mu} {n : Nat} {w' : World} {b : Nat} (h : b < n) : (μ.behind μ1 n w').blk b = μ.blk b := by
  unfold Mu.behind; simp [h]

theorem WRel.behind {μ μ1 : Mu} {s s1 : St} {w w' : World} (H : WRel μ s w) (H1 : WRel μ1 s1 w') (S : Step w.heap.size 0 μ.alone w μ1 w') (lock : Nat) :
    WRel (μ.behind μ1 w.heap.size w') s w' ∧ Step w.heap.size lock μ w (μ.behind μ1 w.heap.size w') w' ∧ Froze μ1 s1 w' (μ.behind μ1 w.heap.size w') := by
  have heap : ∀ b, b < w.heap.size → w'.heap[b]? = w.heap[b]? := fun b hb => S.heap b hb (alone_still b)
  have kind : ∀ b, b < w.heap.size → μ1.blk b = μ.alone.blk b := fun b hb => S.kind b hb (alone_still b)
  have S' : Step w.heap.size lock μ w (μ.behind μ1 w.heap.size w') w' := by
    refine ⟨fun _ _ h => h, fun _ _ h => h, fun b f t h => ?_, fun b hb _ => behind_old hb, fun b hb _ => heap b hb, S.size, S.os, S.tape, S.output⟩
    have hb := H.bnd b (by rw [h]; simp)
    exact ⟨f, t, by rw [behind_old hb]; exact h, fun _ _ h => h⟩
  have old : ∀ b, μ.blk b ≠ .free → b < w.heap.size ∧ (μ.behind μ1 w.heap.size w').blk b = μ.blk b ∧ w'.heap[b]? = w.heap[b]? := fun b h => by
    have hb := H.bnd b h
    exact ⟨hb, behind_old hb, heap b hb⟩
  refine ⟨⟨fun b o v h => ?_, fun b h => ?_, H.nxt, H.lck, fun id cs h => ?_, fun id kvs h => ?_, fun id sz h => ?_⟩, S', ?_⟩
  · by_cases hb : b < w.heap.size
    · have e : μ.fro b o = some v := by unfold Mu.fro at h ⊢; rw [behind_old hb] at h; exact h
      rw [cell_heap (heap b hb)]; exact H.fro b o v e
    · unfold Mu.fro Mu.behind at h
      simp only [if_neg hb] at h
      cases hk : μ1.blk b with
      | free => rw [hk] at h; cases h
      | map id => rw [hk] at h; cases h
      | obj id => rw [hk] at h; exact h
      | data f t => rw [hk] at h; exact H1.fro b o v (by unfold Mu.fro; rw [hk]; exact h)
  · by_cases hb : b < w.heap.size
    · exact Nat.lt_of_lt_of_le hb S.size
    · refine H1.bnd b fun e => h ?_
      unfold Mu.behind; simp only [if_neg hb, e]
  · obtain ⟨b, tot, h1, h2, C, T, h3, h4, h5, h6⟩ := H.obj id cs h
    obtain ⟨o1, o2, o3⟩ := old b (by rw [h2]; simp)
    exact ⟨b, tot, h1, o2.trans h2, C, T, o3.trans h3, h4, h5, h6.mono S'⟩
  · obtain ⟨b, tot, h1, h2, es, clk, h3, h4⟩ := H.map id kvs h
    obtain ⟨o1, o2, o3⟩ := old b (by rw [h2]; simp)
    exact ⟨b, tot, h1, o2.trans h2, es, clk, o3.trans h3, h4.mono S'⟩
  · obtain ⟨b, e, tot, f, h1, h2, h3, h4, h5, C, T, h6, h7⟩ := H.tok id sz h
    obtain ⟨o1, o2, o3⟩ := old b (by rw [h2]; simp)
    exact ⟨b, e, tot, f, h1, o2.trans h2, h3, h4, h5, C, T, o3.trans h6, h7⟩
  · refine ⟨fun b o x h => ?_, fun id cs b tot h hat o x hx => ?_⟩
    · by_cases hb : b < w.heap.size
      · have : μ.fro b o = some x := by
          rw [← alone_fro]; unfold Mu.fro at h ⊢; rw [← kind b hb]; exact h
        unfold Mu.fro at this ⊢; rw [behind_old hb]; exact this
      · unfold Mu.fro Mu.behind
        unfold Mu.fro at h
        simp only [if_neg hb]
        cases hk : μ1.blk b <;> rw [hk] at h <;> first | (cases h; done) | exact h
    · obtain ⟨b', tot', k1, k2, _⟩ := H1.obj id cs h
      rw [hat] at k1; injection k1 with k1; injection k1 with e1 e2; subst e1
      have hb : ¬ b < w.heap.size := fun hb => by
        rw [kind b hb] at k2
        unfold Mu.alone at k2
        simp only at k2
        cases hq : μ.blk b <;> rw [hq] at k2 <;> cases k2
      unfold Mu.fro Mu.behind
      simp only [if_neg hb, k2]; exact hx

theorem freeze_args {Γ : Ctx} {μ : Mu} {s : St} {w : World} (H : WRel μ s w) {n : Nat} : ∀ (args args' : List AV) (cs : List Value), mapO (freezeV Γ St.nil n) args = some args' → All (RV μ) args cs → All (RV μ.alone) args' cs
  | [], args', [], h, _ => by simp only [mapO, Option.some.injEq] at h; subst h; trivial
  | [], _, _ :: _, _, h => h.elim
  | _ :: _, _, [], _, h => h.elim
  | v :: args, args', c :: cs, h, ha => by
    simp only [mapO] at h
    split at h
    · rename_i y hy
      cases hm : mapO (freezeV Γ St.nil n) args with
      | none => rw [hm] at h; cases h
      | some zs =>
        rw [hm] at h; simp only [Option.map_some, Option.some.injEq] at h; subst h
        exact ⟨freeze_sound (s := St.nil) (w := w) (fun id cs h => (nomatch h)) ⟨fun b o x h => (by rw [alone_fro]; exact h), fun id cs b tot h => (nomatch h)⟩ n v y c hy ha.1, freeze_args H args zs cs hm ha.2⟩
    · cases h

/-- The memory before the first call. -/
def Mu.all (w : World) : Mu where
  blk b := if b < w.heap.size then .data (fun o => w.cell? ⟨b, o, none⟩) none else .free
  at_ _ := none
  hist _ := none

theorem WRel.all (w : World) : WRel (Mu.all w) St.nil w := by
  refine ⟨fun b o v h => ?_, fun b h => ?_, fun id _ => ⟨rfl, rfl, rfl⟩, Nat.le_refl _, fun id cs h => (nomatch h), fun id kvs h => (nomatch h), fun id sz h => (nomatch h)⟩
  · unfold Mu.fro Mu.all at h
    simp only at h
    by_cases hb : b < w.heap.size
    · rw [if_pos hb] at h; exact h
    · rw [if_neg hb] at h; cases h
  · by_cases hb : b < w.heap.size
    · exact hb
    · exact absurd (by unfold Mu.all; simp only [if_neg hb]) h

section
variable {P : Program} {Γ : Ctx} (hΓ : Γ.Ok P)
include hΓ

theorem callF_ok : ∀ n, CallOk P Γ (callF Γ n)
  | 0 => ⟨fun h args s v s' hc => (nomatch hc), fun h args s v s' hc => (nomatch hc), fun h args s v s' hc => (nomatch hc)⟩
  | n + 1 => by
    have hC := callF_ok n
    refine ⟨fun h args s v s' hc μ w cargs H ha => ?_, fun h args s v s' hc hs => ?_, fun h args s v s' hc => ?_⟩
    · simp only [callF] at hc
      split at hc
      · cases hc
      · rename_i fn hfn
        split at hc
        · cases hc
        · rename_i c hb
          cases hl : Nat.ble args.length fn.ntmps with
          | false => rw [hl] at hc; cases hc
          | true =>
            rw [hl, cond_true] at hc
            have hl := Nat.le_of_ble_eq_true hl
            have hf := (hΓ.fn h fn hfn).1
            cases hs : Γ.scope h with
            | false =>
              rw [hs, cond_false] at hc
              exact bodyX_sound hΓ hC hf hb hl hc H ha
            | true =>
              rw [hs, cond_true] at hc
              split at hc
              · rename_i args' hfr
                cases hx : aloneX Γ (callF Γ n) n h fn c args' with
                | none => rw [hx] at hc; cases hc
                | some r =>
                  rw [hx] at hc
                  simp only [Option.map_some, Option.some.injEq, Prod.mk.injEq] at hc
                  obtain ⟨rfl, rfl⟩ := hc
                  unfold aloneX at hx
                  split at hx
                  · rename_i r1 s1 hbx
                    have hargs := freeze_args H args args' cargs hfr ha
                    have hl' : args'.length ≤ fn.ntmps := by rw [(mapO_get _ _ hfr).1]; exact hl
                    refine Calls.mono (bodyX_sound hΓ hC hf hb hl' hbx H.alone hargs) ?_
                    rintro e w' ⟨cv, μ1, rfl, W1, S1, R1, _⟩
                    obtain ⟨W, S, Z⟩ := H.behind W1 S1 s.lock
                    exact ⟨cv, _, rfl, W, S, freeze_sound W1.obj Z 20 r1 r cv hx R1, rfl⟩
                  · cases hx
              · cases hc
    · simp only [callF] at hc
      split at hc
      · cases hc
      · rename_i fn hfn
        split at hc
        · cases hc
        · rename_i c hb
          cases hl : Nat.ble args.length fn.ntmps with
          | false => rw [hl] at hc; cases hc
          | true =>
            rw [hl, cond_true, hs, cond_true] at hc
            split at hc
            · rename_i args' _
              cases hx : aloneX Γ (callF Γ n) n h fn c args' with
              | none => rw [hx] at hc; cases hc
              | some r => rw [hx] at hc; simp only [Option.map_some, Option.some.injEq, Prod.mk.injEq] at hc; exact hc.2.symm
            · cases hc
    · simp only [callF] at hc
      split at hc
      · cases hc
      · rename_i fn hfn
        split at hc
        · cases hc
        · rename_i c hb
          obtain ⟨h1, h2⟩ := hΓ.fn h fn hfn
          exact ⟨fn, h1, by rw [hb]; rfl, h2⟩

/-- A CALL OF THE MACHINE IS A CALL OF THE PROGRAM. -/
theorem calls_of_callF {n f : Nat} {args : List AV} {v : AV} {s' : St} (h : callF Γ n f args St.nil = some (v, s')) {w : World} {cargs : List Value} (ha : All (RV (Mu.all w)) args cargs) :
    Calls P f cargs.toArray w fun e w' => ∃ cv μ', e = .returned cv ∧ RV μ' v cv ∧ RowKit.Below w.heap.size w w' := by
  refine Calls.mono ((callF_ok hΓ n).go f args St.nil v s' h (Mu.all w) w cargs (WRel.all w) ha) ?_
  rintro e w' ⟨cv, μ', rfl, W, S, R, _⟩
  refine ⟨cv, μ', rfl, R, S.os, S.tape, S.output, S.size, fun k hk => S.heap k hk ?_⟩
  unfold still Mu.all
  simp only [if_pos hk]
end
end
end Go.Vm

namespace Go.Vm
noncomputable section

noncomputable def tiOf (P : Program) (t : TypeId) : Option TI :=
  match P.info? t, P.underlying t with
  | some i, some u => some { und := u, size := i.size, bytes := i.bytes, zero := i.zero, plain := !(P.eqGuardType P.depth t) && !(P.stoodInHeld t) }
  | _, _ => none

/-- How the machine is to run the program: which functions run by themselves, which rows may be written. -/
structure How where
  keepA : FuncId → Bool
  keepR : FuncId → Bool
  scope : FuncId → Bool
  hard : FuncId → Nat → Bool
  live : FuncId → Nat → Option (List Nat × List Nat)

noncomputable def ctxOf (P : Program) (H : How) : Ctx :=
  { fn := fun f => P.funcs[f]?, ty := tiOf P, keepA := H.keepA, keepR := H.keepR, scope := H.scope, hard := H.hard, live := H.live }

theorem ctxOf_ok {P : Program} (H : How) (h1 : P.follows .mixedOrders = true) (h2 : (P.funcs.toList.all fun fn => !(fn.name == "runtime.NumGoroutine")) = true) : (ctxOf P H).Ok P := by
  refine ⟨h1, fun f fn h => ⟨h, ?_⟩, fun t i h => ?_, fun t i h hp => ?_⟩
  · have hm : fn ∈ P.funcs.toList := by
      have h : P.funcs[f]? = some fn := h
      rw [← Array.getElem?_toList] at h
      exact List.mem_of_getElem? h
    have := List.all_eq_true.1 h2 fn hm
    simpa using this
  · have h : tiOf P t = some i := h
    unfold tiOf at h
    split at h
    · rename_i i' u hi hu
      injection h with h; subst h
      exact ⟨i', hi, hu, rfl, rfl, rfl⟩
    · cases h
  · have h : tiOf P t = some i := h
    unfold tiOf at h
    split at h
    · injection h with h; subst h
      simpa using hp
    · cases h

def tells : Option (AV × St) → Bool
  | some (.lit (.bool true), _) => true
  | _ => false

theorem tells_spec {r : Option (AV × St)} (h : tells r = true) : ∃ s, r = some (.lit (.bool true), s) := by
  match r, h with
  | some (.lit (.bool true), s), _ => exact ⟨s, rfl⟩

theorem calls_true {P : Program} {Γ : Ctx} (hΓ : Γ.Ok P) {n f : Nat} {args : List AV} (h : tells (callF Γ n f args St.nil) = true) {w : World} {cargs : List Value} (ha : All (RV (Mu.all w)) args cargs) :
    Calls P f cargs.toArray w fun e w' => e = .returned (.bool true) ∧ RowKit.Below w.heap.size w w' := by
  obtain ⟨s, hs⟩ := tells_spec h
  refine (calls_of_callF hΓ hs ha).mono ?_
  rintro e w' ⟨cv, μ', rfl, R, B⟩
  exact ⟨by rw [RV.lit_inv R], B⟩
end
end Go.Vm
