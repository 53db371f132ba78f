/-
  Runs of the machine over values that are not known, as trees of their cases, proved sound; the arguments of laws; closed runs by pieces; no conditions but those that the theorems name.
-/
import Derived.Test.YtoigofkddkpijaaVmc
import Derived.DataReads
import Derived.ChangeArms
import Derived.ChangeSame
import Derived.Lib.SmallJoins

namespace Go.Vm
noncomputable section

/-- A call of the machine ends so, with fuel enough. -/
def Runs (Γ : Ctx) (h : FuncId) (args : List AV) (s : St) (v : AV) (s' : St) : Prop := ∃ n0, ∀ n, n0 ≤ n → callF Γ n h args s = some (v, s')
/-- Code ends so, with fuel enough. -/
def ExecN (Γ : Ctx) (f : FuncId) (c : Code) (g : Fr) (s : St) (x : Ex) (g' : Fr) (s' : St) : Prop := ∃ n0, ∀ n, n0 ≤ n → exec Γ (callF Γ n) f n c g s = some (x, g', s')
/-- Rounds of a loop end so, with fuel enough. -/
def LoopN (Γ : Ctx) (f : FuncId) (c : Code) (ts ls : List Nat) (g : Fr) (s : St) (x : Ex) (g' : Fr) (s' : St) : Prop :=
  ∃ n0, ∀ n, n0 ≤ n → ∀ m, n0 ≤ m → loopN (fun g s => exec Γ (callF Γ n) f n c (g.keep ts ls) s) m g s = some (x, g', s')

/-- What the tree is told: go on by what is reckoned; take both ways of a truth value; the result of the operation at a place; that the order check at a place is owed; the end of a loop. -/
inductive Hint where
  | done
  | go (h : Hint)
  | ite (l r : Hint)
  | got (rid i : Nat) (v : AV) (r : Option St) (h : Hint)
  | gotF (rid i : Nat) (v : AV) (g : Fr) (s : St) (h : Hint)
  | must (rid i : Nat) (h : Hint)
  | loop (x : Ex) (g : Fr) (s : St) (h : Hint)
  | dead

/-- A way that is never taken. -/
def orDead (h : Hint) (p : Prop) : Prop :=
  match h with
  | .dead => False
  | _ => p
theorem orDead_ok {h : Hint} {p : Prop} (H : orDead h p) : p := by
  unfold orDead at H
  split at H
  · exact H.elim
  · exact H

def learn (t : Option Tmp) (b : Bool) (g : Fr) : Fr :=
  match t with
  | some d => { g with tm := g.tm.set d (.lit (.bool b)) }
  | none => g

def look (t : Option Tmp) (b : Bool) (g : Fr) (h : Hint) (k : Bool → Fr → Hint → Prop) : Prop :=
  match h with
  | .ite l r => (b = true → orDead l (k true (learn t true g) l)) ∧ (b = false → orDead r (k false (learn t false g) r))
  | .go h => cond b (k true g h) (k false g h)
  | h => cond b (k true g h) (k false g h)

def noCall : CallT := fun _ _ _ => none

def asked (rid i : Nat) : Hint → Option (AV × Option St × Hint)
  | .got rid' i' v r h => cond (Nat.beq rid rid' && Nat.beq i i') (some (v, r, h)) none
  | _ => none

def askedF (rid i : Nat) : Hint → Option (AV × Fr × St × Hint)
  | .gotF rid' i' v g s h => cond (Nat.beq rid rid' && Nat.beq i i') (some (v, g, s, h)) none
  | _ => none

def askedMust (rid i : Nat) : Hint → Option Hint
  | .must rid' i' h => cond (Nat.beq rid rid' && Nat.beq i i') (some h) none
  | _ => none

def loadAt (Γ : Ctx) (t : TypeId) (o : Option (List AV × Nat)) : Option AV :=
  match Γ.ty t, o with
  | some i, some (cs, off) => partAt i cs off
  | _, _ => none

def Fr.empty : Fr := ⟨.nil, .nil, 0⟩

/-- A store of what is told through a pointer into the store. -/
def storeB (Γ : Ctx) (s : St) (t : TypeId) (p v : AV) : Option St :=
  match p with
  | .hp b off => match Γ.ty t with
    | some i => cond (v.isPart && Nat.beq v.cells.length i.size) (match s.cellsAt b with
      | some cs => cond (Nat.ble s.lock b && Nat.ble (off + v.cells.length) cs.length) (some { s with objs := s.objs.set b (.cells (setAll cs off v.cells)) }) none
      | none => none) none
    | none => none
  | _ => none
def sliceB (Γ : Ctx) (s : St) (t : TypeId) (x : AV) (lo hi : Option AV) : Option AV :=
  match x with
  | .lp _ _ => none
  | v => slice Γ s t v lo hi
def mapB (Γ : Ctx) (s : St) (t : TypeId) (m k v : AV) : Option St :=
  match mapSet Γ Fr.empty s t m k v with
  | some (_, some (_, s)) => some s
  | _ => none

/-- A number of a list that is written out. -/
def elI (xs : List Int) (n : Nat) : Int := xs.getD n 0

/-- What is owed where the result of an operation is told. -/
def owed (Γ : Ctx) (f : FuncId) (g : Fr) (s : St) (dst : Option Tmp) (op : Op) (v : AV) (r : Option St) : Prop :=
  match r with
  | none => (match op with
    | .binOp op t x y _ => bin Γ op t (g.ev x) (g.ev y) = some v
    | .unOp op _ x => un op (g.ev x) = some v
    | .convert src dst x => conv Γ s src dst (g.ev x) = some v
    | .load t p => loadAt Γ t (deref g s (g.ev p)) = some v
    | .indexAddr t x i => indexAddr Γ t (g.ev x) (g.ev i) = some v
    | .index t x i => index Γ t (g.ev x) (g.ev i) = some v
    | .field t x j => field Γ t (g.ev x) j = some v
    | .lookup t x i ok => lookup Γ s t (g.ev x) (g.ev i) ok = some v
    | .slice t x lo hi none => sliceB Γ s t (g.ev x) (lo.map g.ev) (hi.map g.ev) = some v
    | op => opx Γ noCall f g s dst op = some (v, none))
  | some s' => (match op, v with
    | .store t p x, .any => storeB Γ s t (g.ev p) (g.ev x) = some s'
    | .mapUpdate t m k x, .any => mapB Γ s t (g.ev m) (g.ev k) (g.ev x) = some s'
    | .insert t m k x, .any => mapB Γ s t (g.ev m) (g.ev k) (g.ev x) = some s'
    | op, v => opx Γ noCall f g s dst op = some (v, some (g, s')))
def vrem (k : IntKind) (a b : Int) : AV := .lit (.int k (a.tmod b))
def vquo (k : IntKind) (a b : Int) : AV := .lit (.int k (k.wrap (a.tdiv b)))
def vshl (k : IntKind) (a b : Int) : AV := .lit (.int k (k.wrap (a * 2 ^ (min b.toNat k.bits))))
def vshr (k : IntKind) (a b : Int) : AV := .lit (.int k (a.fdiv (2 ^ (min b.toNat k.bits))))

abbrev KO := AV → Option (Fr × St) → Hint → Prop

def callP (Γ : Ctx) (sp : CallT) (rid i : Nat) (h : FuncId) (args : List AV) (s : St) (hint : Hint) (k : AV → St → Hint → Prop) : Prop :=
  match asked rid i hint with
  | some (v, r, hint) => Runs Γ h args s v (r.getD s) ∧ k v (r.getD s) hint
  | none => match sp h args s with
    | some (v, s') => k v s' hint
    | none => False

def opP (Γ : Ctx) (sp : CallT) (f rid i : Nat) (g : Fr) (s : St) (dst : Option Tmp) (op : Op) (hint : Hint) (k : KO) : Prop :=
  match op with
  | .call c => match c.callee with
    | .value x => match g.ev x, escapes g s (c.args.toList.map g.ev) with
      | .fn h caps, some (vs, r) => callP Γ sp rid i h (stripArgs Γ h (vs ++ caps)) (match r with | some q => q.2 | none => s) hint fun v s2 hint =>
          k v (cond (Γ.scope h) r (some ((match r with | some q => q.1 | none => g), s2))) hint
      | _, _ => False
    | .builtin b => match asked rid i hint with
      | some (v, r, hint) => builtinX Γ f Fr.empty s dst b c.argTypes.toList (c.args.toList.map g.ev) = some (v, r.map fun s => (Fr.empty, s)) ∧ k v (r.map fun s => (g, s)) hint
      | none => match builtinX Γ f g s dst b c.argTypes.toList (c.args.toList.map g.ev) with
        | some (v, r) => k v r hint
        | none => False
    | _ => False
  | .pick c a b => match g.ev c with
    | .lit (.bool q) => look none q g hint fun q _ hint => k (cond q (g.ev a) (g.ev b)) none hint
    | _ => False
  | op => match asked rid i hint with
    | some (v, r, hint) => owed Γ f g s dst op v r ∧ k v (r.map fun s => (g, s)) hint
    | none => match askedF rid i hint with
      | some (v, g', s', hint) => opx Γ noCall f g s dst op = some (v, some (g', s')) ∧ k v (some (g', s')) hint
      | none => match opx Γ noCall f g s dst op with
        | some (v, r) => k v r hint
        | none => False

def recP (draw : Bool) (ms : List Nat) (rid i : Nat) (e : Eff) (rs : List Rec) (h : Hint) (k : List Rec → Hint → Prop) : Prop :=
  cond draw (cond e.still (k rs h) (match askedMust rid i h with
    | some h => clear ms i e rs = true ∧ k (⟨i, e⟩ :: rs) h
    | none => cond (clear ms i e rs) (k (⟨i, e⟩ :: rs) h) False)) (k rs h)

def wantP (ops : List Oper) (g : Fr) (o : Oper) (h : Hint) (k : Bool → Fr → Hint → Prop) : Prop :=
  match o.guard with
  | none => k true g h
  | some (j, want) => match (ops[j]?).bind (·.dst) with
    | some d => match g.tm.get d with
      | some (.lit (.bool b)) => look (some d) b g h fun b g h => k (b == want) g h
      | some (.lit (.tuple _)) => k false g h
      | _ => False
    | none => False

def runP (Γ : Ctx) (sp : CallT) (f rid : Nat) (ops : List Oper) (ms : List Nat) (draw : Bool) : Nat → List Oper → Fr → St → List Rec → Hint → (Fr → St → Hint → Prop) → Prop
  | _, [], g, s, rs, h, k => k g s h
  | i, o :: r, g, s, rs, h, k => wantP ops g o h fun want g h => cond want
      (opP Γ sp f rid i g s o.dst o.op h fun v e h => match e with
        | none => match g.put o.dst v with
          | some g' => recP draw ms rid i (effR Γ g o.op) rs h fun rs h => runP Γ sp f rid ops ms draw (i + 1) r g' s rs h k
          | none => False
        | some (g1, s1) => match g1.put o.dst v with
          | some g' => recP draw ms rid i ((effW Γ f g s o.dst o.op).at s s1) rs h fun rs h => runP Γ sp f rid ops ms draw (i + 1) r g' s1 rs h k
          | none => False)
      (match g.put o.dst (.lit undef) with
        | some g' => runP Γ sp f rid ops ms draw (i + 1) r g' s rs h k
        | none => False)

def regionP (Γ : Ctx) (sp : CallT) (f rid : Nat) (ops : List Oper) (draw : Bool) (g : Fr) (s : St) (h : Hint) (k : Fr → St → Hint → Prop) : Prop :=
  cond draw (cond (shapeOk ops) (runP Γ sp f rid ops (masks ops []) true 0 ops g s [] h k) False) (runP Γ sp f rid ops [] false 0 ops g s [] h k)

abbrev KX := Ex → Fr → St → Hint → Prop

def loopP (body : Fr → St → Hint → KX → Prop) : Nat → Fr → St → Hint → KX → Prop
  | 0, _, _, _, _ => False
  | m + 1, g, s, h, k => body g s h fun x g s h => match x with
    | .normal => loopP body m g s h k
    | .exit j => k (.exit j) g s h
    | .ret => k .ret g s h

def opTmp : Operand → Option Tmp
  | .tmp t => some t
  | _ => none

def execP (Γ : Ctx) (sp : CallT) (f : FuncId) : Code → Fr → St → Hint → KX → Prop
  | .skip, g, s, h, k => k .normal g s h
  | .region id ops draw, g, s, h, k => regionP Γ sp f id ops.toList draw g s h fun g s h => k .normal g s h
  | .seq a b, g, s, h, k => execP Γ sp f a g s h fun x g s h => match x with
    | .normal => execP Γ sp f b g s h k
    | .exit j => k (.exit j) g s h
    | .ret => k .ret g s h
  | .cond c x y, g, s, h, k => match g.ev c with
    | .lit (.bool b) => look (opTmp c) b g h fun b g h => cond b (execP Γ sp f x g s h k) (execP Γ sp f y g s h k)
    | _ => False
  | .block id c, g, s, h, k => execP Γ sp f c g s h fun x g s h => match x with
    | .normal => k .normal g s h
    | .exit j => cond (Nat.beq j id) (k .normal g s h) (k (.exit j) g s h)
    | .ret => k .ret g s h
  | .loop c, g, s, h, k => match h with
    | .loop x g' s' h => ExecN Γ f (.loop c) g s x g' s' ∧ k x g' s' h
    | .go h => match (firstRegion c).bind (Γ.live f) with
      | some (ts, ls) => loopP (fun g s h k => execP Γ sp f c (g.keep ts ls) s h k) 1000 g s h k
      | none => loopP (fun g' s h k => execP Γ sp f c (g'.keepAll g.lo) s h k) 1000 g s h k
    | _ => False
  | .exit id, g, s, h, k => k (.exit id) g s h
  | .ret, g, s, h, k => k .ret g s h
  | _, _, _, _, _ => False

/-- The tree of a function's run. -/
def funP (Γ : Ctx) (sp : CallT) (f : FuncId) (args : List AV) (s : St) (h : Hint) (Q : AV → St → Prop) : Prop :=
  match Γ.fn f with
  | none => False
  | some fn => match fn.body with
    | none => False
    | some c => cond (Nat.ble args.length fn.ntmps) (execP Γ sp f c { tm := argsTm args 0 .nil, lo := .nil, nt := fn.ntmps } s h fun x g s1 h => match x with
      | .exit _ => False
      | _ => match resOf Γ g s1 fn.results.toList with
        | some vs => Q (cond (Γ.keepR f) (oneOf vs) (oneOf vs).stripT) s1
        | none => False) False

/-! ### Soundness -/

/-- What a table says of calls is so. -/
def SpecOk (Γ : Ctx) (sp : CallT) : Prop := ∀ h args s v s', sp h args s = some (v, s') → Runs Γ h args s v s'

theorem Tr.setF_self {α : Type} : ∀ (f : Nat) (t : Tr α) (n : Nat) (x : α), t.get n = some x → Tr.setF (f + 1) t n (some x) = t ∨ f < n := by
  intro f
  induction f with
  | zero =>
    intro t n x h
    by_cases h0 : n = 0
    · subst h0
      cases t with
      | nil => cases h
      | node l v r => rw [Tr.get_node, if_pos rfl] at h; left; rw [Tr.setF_succ]; simp [h]
    · right; omega
  | succ f ih =>
    intro t n x h
    cases t with
    | nil => cases h
    | node l v r =>
      rw [Tr.get_node] at h
      rw [Tr.setF_succ]
      by_cases h0 : n = 0
      · left; rw [if_pos h0] at h; simp [h0, h]
      · rw [if_neg h0] at h
        by_cases h1 : n % 2 = 1
        · rw [if_pos h1] at h
          rcases ih l (n / 2) x h with e | e
          · left; simp [h0, h1, e]
          · right; omega
        · rw [if_neg h1] at h
          rcases ih r (n / 2 - 1) x h with e | e
          · left; simp [h0, h1, e]
          · right; omega

theorem Tr.set_self {α : Type} {t : Tr α} {n : Nat} {x : α} (h : t.get n = some x) : t.set n x = t := by
  rcases Tr.setF_self n t n x h with e | e
  · show t.put n (some x) = t
    rw [Tr.put_eq]; exact e
  · omega

theorem learn_self {t : Option Tmp} {b : Bool} {g : Fr} (h : ∀ d, t = some d → g.tm.get d = some (.lit (.bool b))) : learn t b g = g := by
  cases t with
  | none => rfl
  | some d => show { g with tm := g.tm.set d (.lit (.bool b)) } = g; rw [Tr.set_self (h d rfl)]

theorem look_sound {t : Option Tmp} {b : Bool} {g : Fr} {h : Hint} {k : Bool → Fr → Hint → Prop} (ht : ∀ d, t = some d → g.tm.get d = some (.lit (.bool b))) (H : look t b g h k) : ∃ h', k b g h' := by
  have go : ∀ {k : Bool → Fr → Hint → Prop} {h}, cond b (k true g h) (k false g h) → k b g h := fun H => by cases b <;> exact H
  unfold look at H
  split at H
  · cases b with
    | true => have := orDead_ok (H.1 rfl); rw [learn_self ht] at this; exact ⟨_, this⟩
    | false => have := orDead_ok (H.2 rfl); rw [learn_self ht] at this; exact ⟨_, this⟩
  · exact ⟨_, go H⟩
  · exact ⟨_, go H⟩

theorem opx_dead {Γ : Ctx} {call : CallT} {f : FuncId} {g : Fr} {s : St} {dst : Option Tmp} {op : Op} (h : ∀ c, op ≠ .call c) : opx Γ call f g s dst op = opx Γ noCall f g s dst op := by
  cases op with
  | call c => exact absurd rfl (h c)
  | makeFunc fn a b => cases fn <;> rfl
  | _ => rfl

theorem wantP_sound {ops : List Oper} {g : Fr} {o : Oper} {h : Hint} {k : Bool → Fr → Hint → Prop} (H : wantP ops g o h k) : ∃ b h', wantedV ops g o = some b ∧ k b g h' := by
  unfold wantP at H
  unfold wantedV
  split at H
  · rename_i h1; rw [h1]; exact ⟨_, _, rfl, H⟩
  · rename_i j want h1
    rw [h1]
    split at H
    · rename_i d h2
      simp only [h2]
      split at H
      · rename_i b h3
        obtain ⟨h', K⟩ := look_sound (fun d' e => by injection e with e; subst e; exact h3) H
        rw [h3]; exact ⟨_, _, rfl, K⟩
      · rename_i h3; rw [h3]; exact ⟨_, _, rfl, H⟩
      · exact H.elim
    · exact H.elim

theorem recP_sound {draw : Bool} {ms : List Nat} {rid i : Nat} {e : Eff} {rs : List Rec} {h : Hint} {k : List Rec → Hint → Prop} (H : recP draw ms rid i e rs h k) : ∃ rs' h', (draw = true → addRec ms i e rs = some rs') ∧ k rs' h' := by
  unfold recP at H
  cases draw with
  | false => refine ⟨rs, h, fun e => ?_, H⟩; cases e
  | true =>
    simp only [cond_true] at H
    suffices hh : ∃ rs' h', addRec ms i e rs = some rs' ∧ k rs' h' by
      obtain ⟨rs', h', h1, h2⟩ := hh
      exact ⟨rs', h', fun _ => h1, h2⟩
    unfold addRec
    cases hs : e.still with
    | true => rw [hs] at H; exact ⟨_, _, rfl, H⟩
    | false =>
      rw [hs] at H
      simp only [cond_false] at H ⊢
      have fin : ∀ {h'}, clear ms i e rs = true → k (⟨i, e⟩ :: rs) h' → ∃ rs' h', (cond (clear ms i e rs) (some (⟨i, e⟩ :: rs)) none) = some rs' ∧ k rs' h' := by
        intro h' hc hk
        exact ⟨_, _, by rw [hc]; rfl, hk⟩
      split at H
      · exact fin H.1 H.2
      · cases hc : clear ms i e rs with
        | true => rw [hc] at H; have := fin hc H; rw [hc] at this; exact this
        | false => rw [hc] at H; exact H.elim

theorem loopP_sound {Γ : Ctx} {sp : CallT} {f : FuncId} {c : Code} {kp : Fr → Fr} (ih : ∀ (g : Fr) (s : St) (h : Hint) (k : KX), execP Γ sp f c g s h k → ∃ x g' s' h', ExecN Γ f c g s x g' s' ∧ k x g' s' h') : ∀ (m : Nat) (g : Fr) (s : St) (h : Hint) (k : KX),
    loopP (fun g s h k => execP Γ sp f c (kp g) s h k) m g s h k → ∃ x g' s' h', (∃ n0, ∀ n, n0 ≤ n → ∀ m, n0 ≤ m → loopN (fun g s => exec Γ (callF Γ n) f n c (kp g) s) m g s = some (x, g', s')) ∧ k x g' s' h' := by
  intro m
  induction m with
  | zero => intro g s h k H; exact H.elim
  | succ m ihm =>
    intro g s h k H
    simp only [loopP] at H
    obtain ⟨x, g1, s1, h1, ⟨n0, E⟩, H⟩ := ih _ _ _ _ H
    have step : ∀ (hx : x ≠ .normal), ∃ n0, ∀ n, n0 ≤ n → ∀ m, n0 ≤ m → loopN (fun g s => exec Γ (callF Γ n) f n c (kp g) s) m g s = some (x, g1, s1) := by
      intro hx
      refine ⟨n0 + 1, fun n hn m hm => ?_⟩
      obtain ⟨m, rfl⟩ : ∃ m', m = m' + 1 := ⟨m - 1, by omega⟩
      have E := E n (by omega)
      simp only [loopN, E]
      cases x with
      | normal => exact absurd rfl hx
      | exit j => rfl
      | ret => rfl
    cases x with
    | normal =>
      obtain ⟨x, g2, s2, h2, ⟨n1, E2⟩, K⟩ := ihm _ _ _ _ H
      refine ⟨x, g2, s2, h2, ⟨max n0 n1 + 1, fun n hn m hm => ?_⟩, K⟩
      obtain ⟨m, rfl⟩ : ∃ m', m = m' + 1 := ⟨m - 1, by omega⟩
      have E := E n (by omega)
      simp only [loopN, E]
      exact E2 n (by omega) m (by omega)
    | exit j => exact ⟨_, _, _, _, step (by simp), H⟩
    | ret => exact ⟨_, _, _, _, step (by simp), H⟩

section
theorem builtinX_fr {Γ : Ctx} {f : FuncId} {g : Fr} {s : St} {dst : Option Tmp} {b : Builtin} {ts : List TypeId} {vs : List AV} {v : AV} {r : Option St} (h : builtinX Γ f Fr.empty s dst b ts vs = some (v, r.map fun s => (Fr.empty, s))) : builtinX Γ f g s dst b ts vs = some (v, r.map fun s => (g, s)) := by
  have q : ∀ {o : Option AV}, quiet o = some (v, r.map fun s => (Fr.empty, s)) → quiet o = some (v, r.map fun s => (g, s)) := fun {o} h => by
    cases o with
    | none => cases h
    | some o =>
      cases r with
      | none => exact h
      | some r => simp [quiet] at h
  have w : ∀ {o : Option (AV × Option St)}, withSt Fr.empty o = some (v, r.map fun s => (Fr.empty, s)) → withSt g o = some (v, r.map fun s => (g, s)) := fun {o} h => by
    cases o with
    | none => cases h
    | some o =>
      obtain ⟨x, o⟩ := o
      cases o with
      | none =>
        cases r with
        | none => exact h
        | some r => simp [withSt] at h
      | some o =>
        cases r with
        | none => simp [withSt] at h
        | some r => simp [withSt] at h ⊢; exact h
  unfold builtinX at h ⊢
  split at h
  · rename_i t _ x _
    cases e : Γ.ty t with
    | none => rw [e] at h; cases h
    | some ti => rw [e] at h; exact q h
  · rename_i t u _ x y _
    cases e : Γ.ty u with
    | none => rw [e] at h; cases h
    | some ui =>
      rw [e] at h
      dsimp only at h ⊢
      cases e2 : ui.und with
      | slice a => rw [e2] at h; exact w h
      | string => rw [e2] at h; exact w h
      | _ => rw [e2] at h; cases h
  · cases h
  · exact q h
  · exact q h
  · cases h
  · cases h

theorem storeB_opx {Γ : Ctx} {f : FuncId} {g : Fr} {s s' : St} {dst : Option Tmp} {t : TypeId} {p x : Operand} (h : storeB Γ s t (g.ev p) (g.ev x) = some s') : opx Γ noCall f g s dst (.store t p x) = some (.any, some (g, s')) := by
  unfold storeB at h
  split at h
  · rename_i b off hp
    split at h
    · rename_i i hi
      cases hc : ((g.ev x).isPart && Nat.beq (g.ev x).cells.length i.size) with
      | false => rw [hc] at h; cases h
      | true =>
        rw [hc, cond_true] at h
        have he : escape g s (g.ev x) = some (g.ev x, none) := by
          cases hx : g.ev x with
          | lp t off => rw [hx] at hc; simp [AV.isPart, AV.isCell] at hc
          | lm t => rw [hx] at hc; simp [AV.isPart, AV.isCell] at hc
          | ls e sz t len => rw [hx] at hc; simp [AV.isPart, AV.isCell] at hc
          | _ => rfl
        simp only [opx, hi, he, thenOut, hc, cond_true, storeAt, hp]
        split at h
        · rename_i cs hcs
          simp only [hcs]
          cases hl : (Nat.ble s.lock b && Nat.ble (off + (g.ev x).cells.length) cs.length) with
          | false => rw [hl] at h; cases h
          | true => rw [hl, cond_true] at h; injection h with h; subst h; rfl
        · cases h
    · cases h
  · cases h

theorem mapB_set {Γ : Ctx} {g : Fr} {s s' : St} {t : TypeId} {m k v : AV} (h : mapB Γ s t m k v = some s') : mapSet Γ g s t m k v = some (.any, some (g, s')) ∧ v.isLp = false := by
  unfold mapB mapSet at h
  unfold mapSet
  split at h
  · rename_i x s1 hq
    injection h with h; subst h
    split at hq
    · cases hq
    · rename_i ti hti
      split at hq
      · rename_i kt e b hu
        split at hq
        · rename_i ki kvs e1 e2
          cases hc : (isKey ki.und k && Nat.ble s.lock b && !v.isLp) with
          | false => rw [hc] at hq; cases hq
          | true =>
            rw [hc, cond_true] at hq
            simp only [cond_true]
            split at hq
            · rename_i kvs' e3
              simp only [Option.some.injEq, Prod.mk.injEq] at hq
              refine ⟨?_, ?_⟩
              · rw [← hq.2.2]
              · simp only [Bool.and_eq_true, Bool.not_eq_true'] at hc; exact hc.2
            · cases hq
        · cases hq
      · cases hq
  · cases h
theorem mapB_opx {Γ : Ctx} {f : FuncId} {g : Fr} {s s' : St} {dst : Option Tmp} {t : TypeId} {m k x : Operand} (h : mapB Γ s t (g.ev m) (g.ev k) (g.ev x) = some s') : opx Γ noCall f g s dst (.mapUpdate t m k x) = some (.any, some (g, s')) ∧ opx Γ noCall f g s dst (.insert t m k x) = some (.any, some (g, s')) := by
  obtain ⟨h1, h2⟩ := mapB_set (g := g) h
  have he : escape g s (g.ev x) = some (g.ev x, none) := by
    cases hx : g.ev x with
    | lp t off => rw [hx] at h2; cases h2
    | lm t => rw [hx] at h2; cases h2
    | ls e sz t len => rw [hx] at h2; cases h2
    | _ => rfl
  exact ⟨by simp only [opx, he, thenOut, h1], by simp only [opx, he, thenOut, h1]⟩

variable {Γ : Ctx} {sp : CallT} (hsp : SpecOk Γ sp) {f : FuncId}
include hsp

theorem callP_sound {rid i : Nat} {h : FuncId} {args : List AV} {s : St} {hint : Hint} {k : AV → St → Hint → Prop} (H : callP Γ sp rid i h args s hint k) : ∃ v s' hint', Runs Γ h args s v s' ∧ k v s' hint' := by
  unfold callP at H
  split at H
  · exact ⟨_, _, _, H.1, H.2⟩
  · split at H
    · rename_i h1; exact ⟨_, _, _, hsp _ _ _ _ _ h1, H⟩
    · exact H.elim

theorem opP_sound {rid i : Nat} {g : Fr} {s : St} {dst : Option Tmp} {op : Op} {hint : Hint} {k : KO} (H : opP Γ sp f rid i g s dst op hint k) :
    ∃ v r hint', (∃ n0, ∀ n, n0 ≤ n → opx Γ (callF Γ n) f g s dst op = some (v, r)) ∧ k v r hint' := by
  have dead : ∀ {v r} {hint' : Hint}, (∀ c, op ≠ .call c) → opx Γ noCall f g s dst op = some (v, r) → k v r hint' → ∃ v r hint', (∃ n0, ∀ n, n0 ≤ n → opx Γ (callF Γ n) f g s dst op = some (v, r)) ∧ k v r hint' :=
    fun hc ho hk => ⟨_, _, _, ⟨0, fun n _ => by rw [opx_dead hc]; exact ho⟩, hk⟩
  unfold opP at H
  split at H
  · rename_i c
    split at H
    · rename_i x hx
      split at H
      · rename_i h caps vs r e1 e2
        obtain ⟨v, s', h', ⟨n0, R⟩, K⟩ := callP_sound hsp H
        refine ⟨_, _, _, ⟨n0, fun n hn => ?_⟩, K⟩
        have R := R n hn
        simp only [opx, hx, e1, e2]
        cases r with
        | none =>
          simp only at R
          simp only [thenOut, R]
          cases Γ.scope h <;> rfl
        | some q =>
          obtain ⟨g1, s1⟩ := q
          simp only at R
          simp only [thenOut, R]
          cases Γ.scope h <;> rfl
      · exact H.elim
    · rename_i b hb
      split at H
      · rename_i v r h' _
        exact ⟨_, _, _, ⟨0, fun n _ => by simp only [opx, hb]; exact builtinX_fr H.1⟩, H.2⟩
      · split at H
        · rename_i v r hbx
          exact ⟨_, _, _, ⟨0, fun n _ => by simp only [opx, hb]; exact hbx⟩, H⟩
        · exact H.elim
    · exact H.elim
  · rename_i c a b
    split at H
    · rename_i q hq
      obtain ⟨h', K⟩ := look_sound (fun d h => by cases h) H
      refine ⟨_, _, _, ⟨0, fun n _ => ?_⟩, K⟩
      simp only [opx, hq]
      cases q <;> rfl
    · exact H.elim
  · rename_i hc hp
    split at H
    · rename_i v r h' _
      obtain ⟨ho, K⟩ := H
      refine dead (fun c => hc c) ?_ K
      unfold owed at ho
      cases r with
      | some s' =>
        simp only at ho
        split at ho
        · exact storeB_opx ho
        · exact (mapB_opx ho).1
        · exact (mapB_opx ho).2
        · exact ho
      | none =>
        simp only at ho
        split at ho
        · simp only [opx, ho, quiet, Option.map_some, Option.map_none]
        · simp only [opx, ho, quiet, Option.map_some, Option.map_none]
        · simp only [opx, ho, quiet, Option.map_some, Option.map_none]
        · rename_i t p
          have h1 := ho
          unfold loadAt at h1
          split at h1
          · rename_i i cs off e1 e2
            simp only [opx, e1, e2, h1, quiet, Option.map_some, Option.map_none]
          · cases h1
        · simp only [opx, ho, quiet, Option.map_some, Option.map_none]
        · simp only [opx, ho, quiet, Option.map_some, Option.map_none]
        · simp only [opx, ho, quiet, Option.map_some, Option.map_none]
        · simp only [opx, ho, quiet, Option.map_some, Option.map_none]
        · rename_i t x lo hi
          have hx : opx Γ noCall f g s dst (.slice t x lo hi none) = (match g.ev x with
            | .lp k off => match promote g s k with
              | some (b, g1, s1) => match slice Γ s1 t (.hp b off) (lo.map g.ev) (hi.map g.ev) with
                | some v => some (v, some (g1, s1))
                | none => none
              | none => none
            | v => quiet (slice Γ s t v (lo.map g.ev) (hi.map g.ev))) := rfl
          rw [hx]
          unfold sliceB at ho
          cases hg : g.ev x with
          | lp k off => rw [hg] at ho; cases ho
          | _ =>
            rw [hg] at ho
            exact congrArg quiet ho
        · exact ho
    · split at H
      · exact dead (fun c => hc c) H.1 H.2
      · split at H
        · rename_i v r ho
          exact dead (fun c => hc c) ho H
        · exact H.elim

theorem runP_sound {rid : Nat} {ops : List Oper} {ms : List Nat} {draw : Bool} : ∀ (rest : List Oper) (i : Nat) (g : Fr) (s : St) (rs : List Rec) (h : Hint) (k : Fr → St → Hint → Prop), runP Γ sp f rid ops ms draw i rest g s rs h k →
    ∃ g' s' h', (∃ n0, ∀ n, n0 ≤ n → (cond draw (runRec Γ (callF Γ n) f ops ms i rest g s rs) (runOps Γ (callF Γ n) f ops rest g s)) = some (g', s')) ∧ k g' s' h'
  | [], i, g, s, rs, h, k, H => ⟨g, s, h, ⟨0, fun n _ => by cases draw <;> rfl⟩, H⟩
  | o :: r, i, g, s, rs, h, k, H => by
    simp only [runP] at H
    obtain ⟨b, h1, hw, H⟩ := wantP_sound H
    cases b with
    | false =>
      simp only [cond_false] at H
      split at H
      · rename_i g' hp
        obtain ⟨g2, s2, h2, ⟨n0, E⟩, K⟩ := runP_sound r _ _ _ _ _ _ H
        refine ⟨g2, s2, h2, ⟨n0, fun n hn => ?_⟩, K⟩
        have E := E n hn
        cases draw with
        | true => simp only [cond_true] at E ⊢; simp only [runRec, hw, hp]; exact E
        | false => simp only [cond_false] at E ⊢; simp only [runOps, oper1, hw, hp, Option.map_some]; exact E
      · exact H.elim
    | true =>
      simp only [cond_true] at H
      obtain ⟨v, e, h2, ⟨n1, O⟩, H⟩ := opP_sound hsp H
      split at H
      · split at H
        · rename_i g' hp
          obtain ⟨rs', h3, hr, H⟩ := recP_sound H
          obtain ⟨g2, s2, h4, ⟨n0, E⟩, K⟩ := runP_sound r _ _ _ _ _ _ H
          refine ⟨g2, s2, h4, ⟨max n0 n1, fun n hn => ?_⟩, K⟩
          have E := E n (by omega)
          have O := O n (by omega)
          cases draw with
          | true => simp only [cond_true] at E ⊢; simp only [runRec, opxF_eq, hw, hp, O, hr rfl]; exact E
          | false => simp only [cond_false] at E ⊢; simp only [runOps, oper1, opxF_eq, hw, hp, O, Option.map_some]; exact E
        · exact H.elim
      · rename_i g1 s1
        split at H
        · rename_i g' hp
          obtain ⟨rs', h3, hr, H⟩ := recP_sound H
          obtain ⟨g2, s2, h4, ⟨n0, E⟩, K⟩ := runP_sound r _ _ _ _ _ _ H
          refine ⟨g2, s2, h4, ⟨max n0 n1, fun n hn => ?_⟩, K⟩
          have E := E n (by omega)
          have O := O n (by omega)
          cases draw with
          | true => simp only [cond_true] at E ⊢; simp only [runRec, opxF_eq, hw, hp, O, hr rfl]; exact E
          | false => simp only [cond_false] at E ⊢; simp only [runOps, oper1, opxF_eq, hw, hp, O, Option.map_some]; exact E
        · exact H.elim

theorem execP_sound : ∀ (c : Code) (g : Fr) (s : St) (h : Hint) (k : KX), execP Γ sp f c g s h k → ∃ x g' s' h', ExecN Γ f c g s x g' s' ∧ k x g' s' h' := by
  intro c
  induction c with
  | skip => intro g s h k H; exact ⟨_, _, _, _, ⟨0, fun n _ => rfl⟩, H⟩
  | exit id => intro g s h k H; exact ⟨_, _, _, _, ⟨0, fun n _ => rfl⟩, H⟩
  | ret => intro g s h k H; exact ⟨_, _, _, _, ⟨0, fun n _ => rfl⟩, H⟩
  | region id ops draw =>
    intro g s h k H
    simp only [execP, regionP] at H
    cases draw with
    | true =>
      simp only [cond_true] at H
      cases hs : shapeOk ops.toList with
      | false => rw [hs] at H; exact H.elim
      | true =>
        rw [hs, cond_true] at H
        obtain ⟨g', s', h', ⟨n0, E⟩, K⟩ := runP_sound hsp _ _ _ _ _ _ _ H
        refine ⟨_, _, _, _, ⟨n0, fun n hn => ?_⟩, K⟩
        have E := E n hn
        simp only [cond_true] at E
        simp only [exec, cond_true, runDraw, hs, E]
    | false =>
      simp only [cond_false] at H
      obtain ⟨g', s', h', ⟨n0, E⟩, K⟩ := runP_sound hsp _ _ _ _ _ _ _ H
      refine ⟨_, _, _, _, ⟨n0, fun n hn => ?_⟩, K⟩
      have E := E n hn
      simp only [cond_false] at E
      simp only [exec, cond_false, E]
  | seq a b iha ihb =>
    intro g s h k H
    simp only [execP] at H
    obtain ⟨x, g1, s1, h1, ⟨n0, E⟩, H⟩ := iha _ _ _ _ H
    cases x with
    | normal =>
      obtain ⟨x, g2, s2, h2, ⟨n1, E2⟩, K⟩ := ihb _ _ _ _ H
      refine ⟨x, g2, s2, h2, ⟨max n0 n1, fun n hn => ?_⟩, K⟩
      simp only [exec, E n (by omega)]
      exact E2 n (by omega)
    | exit j => exact ⟨_, _, _, _, ⟨n0, fun n hn => by simp only [exec, E n hn]⟩, H⟩
    | ret => exact ⟨_, _, _, _, ⟨n0, fun n hn => by simp only [exec, E n hn]⟩, H⟩
  | cond c a b iha ihb =>
    intro g s h k H
    simp only [execP] at H
    split at H
    · rename_i q hq
      obtain ⟨h1, H⟩ := look_sound (fun d e => by
        cases c with
        | tmp t =>
          injection e with e; subst e
          unfold Fr.ev at hq
          cases hg : g.tm.get t with
          | none => simp [hg] at hq
          | some v => simp only [hg, Option.getD_some] at hq; rw [hq]
        | _ => cases e) H
      cases q with
      | true =>
        obtain ⟨x, g2, s2, h2, ⟨n1, E2⟩, K⟩ := iha _ _ _ _ H
        exact ⟨x, g2, s2, h2, ⟨n1, fun n hn => by simp only [exec, hq, if_true]; exact E2 n hn⟩, K⟩
      | false =>
        obtain ⟨x, g2, s2, h2, ⟨n1, E2⟩, K⟩ := ihb _ _ _ _ H
        exact ⟨x, g2, s2, h2, ⟨n1, fun n hn => by simp only [exec, hq]; exact E2 n hn⟩, K⟩
    · exact H.elim
  | block id c ih =>
    intro g s h k H
    simp only [execP] at H
    obtain ⟨x, g1, s1, h1, ⟨n0, E⟩, H⟩ := ih _ _ _ _ H
    cases x with
    | normal => exact ⟨_, _, _, _, ⟨n0, fun n hn => by simp only [exec, E n hn]⟩, H⟩
    | ret => exact ⟨_, _, _, _, ⟨n0, fun n hn => by simp only [exec, E n hn]⟩, H⟩
    | exit j =>
      simp only at H
      cases hj : Nat.beq j id with
      | true => rw [hj] at H; exact ⟨_, _, _, _, ⟨n0, fun n hn => by simp only [exec, E n hn, hj, cond_true]⟩, H⟩
      | false => rw [hj] at H; exact ⟨_, _, _, _, ⟨n0, fun n hn => by simp only [exec, E n hn, hj, cond_false]⟩, H⟩
  | loop c ih =>
    intro g s h k H
    simp only [execP] at H
    split at H
    · exact ⟨_, _, _, _, H.1, H.2⟩
    · split at H
      · rename_i ts ls hl
        obtain ⟨x, g', s', h', ⟨n0, E⟩, K⟩ := loopP_sound (kp := fun g => g.keep ts ls) ih _ _ _ _ _ H
        exact ⟨x, g', s', h', ⟨n0, fun n hn => by simp only [exec, hl]; exact E n hn n hn⟩, K⟩
      · rename_i hl
        obtain ⟨x, g', s', h', ⟨n0, E⟩, K⟩ := loopP_sound (kp := fun g' => g'.keepAll g.lo) ih _ _ _ _ _ H
        exact ⟨x, g', s', h', ⟨n0, fun n hn => by simp only [exec, hl]; exact E n hn n hn⟩, K⟩
    · exact H.elim
  | _ => intro g s h k H; simp [execP] at H

theorem funP_body {args : List AV} {s : St} {h : Hint} {Q : AV → St → Prop} (H : funP Γ sp f args s h Q) :
    ∃ fn c v s', Γ.fn f = some fn ∧ fn.body = some c ∧ Nat.ble args.length fn.ntmps = true ∧ (∃ n0, ∀ n, n0 ≤ n → bodyX Γ (callF Γ n) n f fn c args s = some (v, s')) ∧ Q v s' := by
  unfold funP at H
  split at H
  · exact H.elim
  · rename_i fn h1
    split at H
    · exact H.elim
    · rename_i c h2
      cases hl : Nat.ble args.length fn.ntmps with
      | false => rw [hl] at H; exact H.elim
      | true =>
        rw [hl, cond_true] at H
        obtain ⟨x, g', s', h', ⟨n0, E⟩, K⟩ := execP_sound hsp _ _ _ _ _ H
        have fin : ∀ {vs}, x = .normal ∨ x = .ret → resOf Γ g' s' fn.results.toList = some vs → Q (cond (Γ.keepR f) (oneOf vs) (oneOf vs).stripT) s' →
            ∃ fn c v s', Γ.fn f = some fn ∧ fn.body = some c ∧ Nat.ble args.length fn.ntmps = true ∧ (∃ n0, ∀ n, n0 ≤ n → bodyX Γ (callF Γ n) n f fn c args s = some (v, s')) ∧ Q v s' := by
          intro vs hx hr hq
          refine ⟨fn, c, _, s', h1, h2, hl, ⟨n0, fun n hn => ?_⟩, hq⟩
          unfold bodyX
          rcases hx with rfl | rfl <;> simp only [E n hn, hr, Option.map_some]
        cases x with
        | exit j => exact K.elim
        | normal =>
          simp only at K
          split at K
          · exact fin (.inl rfl) ‹_› K
          · exact K.elim
        | ret =>
          simp only at K
          split at K
          · exact fin (.inr rfl) ‹_› K
          · exact K.elim

/-- A tree's run is a run. -/
theorem runs_of_funP (hs : Γ.scope f = false) {args : List AV} {s : St} {h : Hint} {Q : AV → St → Prop} (H : funP Γ sp f args s h Q) : ∃ v s', Runs Γ f args s v s' ∧ Q v s' := by
  obtain ⟨fn, c, v, s', h1, h2, h3, ⟨n0, E⟩, K⟩ := funP_body hsp H
  refine ⟨v, s', ⟨n0 + 1, fun n hn => ?_⟩, K⟩
  obtain ⟨n, rfl⟩ : ∃ m', n = m' + 1 := ⟨n - 1, by omega⟩
  simp only [callF, h1, h2, h3, hs, cond_true, cond_false]
  exact E n (by omega)

/-- The same of a function that runs by itself. -/
theorem runs_of_alone (hs : Γ.scope f = true) {args args' : List AV} {s : St} {h : Hint} {r : AV} (ha : mapO (freezeV Γ St.nil 20) args = some args') (H : funP Γ sp f args' St.nil h fun v s1 => freezeV Γ s1 20 v = some r) : Runs Γ f args s r s := by
  obtain ⟨fn, c, v, s', h1, h2, h3, ⟨n0, E⟩, K⟩ := funP_body hsp H
  refine ⟨n0 + 1, fun n hn => ?_⟩
  obtain ⟨n, rfl⟩ : ∃ m', n = m' + 1 := ⟨n - 1, by omega⟩
  have hl : args'.length = args.length := (mapO_get _ _ ha).1
  rw [hl] at h3
  have E := E n (by omega)
  have ha : mapO (freezeV Γ ⟨0, 0, .nil⟩ 20) args = some args' := ha
  have E : bodyX Γ (callF Γ n) n f fn c args' ⟨0, 0, .nil⟩ = some (v, s') := E
  simp only [callF, h1, h2, h3, hs, cond_true, ha, aloneX, E, K, Option.map_some]
end

/-! ### Rounds of a loop -/

theorem ExecN.loop {Γ : Ctx} {f : FuncId} {c : Code} {ts ls : List Nat} {g : Fr} {s : St} {x : Ex} {g' : Fr} {s' : St} (hl : (firstRegion c).bind (Γ.live f) = some (ts, ls)) (H : LoopN Γ f c ts ls g s x g' s') : ExecN Γ f (.loop c) g s x g' s' := by
  obtain ⟨n0, E⟩ := H
  exact ⟨n0, fun n hn => by simp only [exec, hl]; exact E n hn n hn⟩

theorem LoopN.more {Γ : Ctx} {f : FuncId} {c : Code} {ts ls : List Nat} {g g1 : Fr} {s s1 : St} {x : Ex} {g' : Fr} {s' : St} (H1 : ExecN Γ f c (g.keep ts ls) s .normal g1 s1) (H : LoopN Γ f c ts ls g1 s1 x g' s') : LoopN Γ f c ts ls g s x g' s' := by
  obtain ⟨n0, E⟩ := H
  obtain ⟨n1, E1⟩ := H1
  refine ⟨max n0 n1 + 1, fun n hn m hm => ?_⟩
  obtain ⟨m, rfl⟩ : ∃ m', m = m' + 1 := ⟨m - 1, by omega⟩
  simp only [loopN, E1 n (by omega)]
  exact E n (by omega) m (by omega)

theorem LoopN.last {Γ : Ctx} {f : FuncId} {c : Code} {ts ls : List Nat} {g : Fr} {s : St} {x : Ex} {g' : Fr} {s' : St} (hx : x ≠ .normal) (H1 : ExecN Γ f c (g.keep ts ls) s x g' s') : LoopN Γ f c ts ls g s x g' s' := by
  obtain ⟨n1, E1⟩ := H1
  refine ⟨n1 + 1, fun n hn m hm => ?_⟩
  obtain ⟨m, rfl⟩ : ∃ m', m = m' + 1 := ⟨m - 1, by omega⟩
  simp only [loopN, E1 n (by omega)]
  cases x with
  | normal => exact absurd rfl hx
  | exit j => rfl
  | ret => rfl

/-! ### Tables -/

/-- What calls of one function give. -/
abbrev Spec := List AV → St → Option (AV × St)
/-- What holds under a condition alone. -/
def gate {α : Type} (b : Bool) (x : Option α) : Option α := cond b x none
theorem bin_rem {Γ : Ctx} {t : TypeId} {k : IntKind} {a b : Int} (h : b ≠ 0) : bin Γ .rem t (.lit (.int k a)) (.lit (.int k b)) = some (.lit (.int k (a.tmod b))) := by
  simp only [bin, if_true, intBin, if_neg h]
theorem bin_quo {Γ : Ctx} {t : TypeId} {k : IntKind} {a b : Int} (h : b ≠ 0) : bin Γ .quo t (.lit (.int k a)) (.lit (.int k b)) = some (.lit (.int k (k.wrap (a.tdiv b)))) := by
  simp only [bin, if_true, intBin, if_neg h]
theorem bin_shl {Γ : Ctx} {t : TypeId} {k k' : IntKind} {a b : Int} (h : 0 ≤ b) : bin Γ .shl t (.lit (.int k a)) (.lit (.int k' b)) = some (.lit (.int k (k.wrap (a * 2 ^ (min b.toNat k.bits))))) := by
  simp only [bin, shiftBin, if_neg (Int.not_lt.2 h)]
theorem bin_shr {Γ : Ctx} {t : TypeId} {k k' : IntKind} {a b : Int} (h : 0 ≤ b) : bin Γ .shr t (.lit (.int k a)) (.lit (.int k' b)) = some (.lit (.int k (a.fdiv (2 ^ (min b.toNat k.bits))))) := by
  simp only [bin, shiftBin, if_neg (Int.not_lt.2 h)]
theorem wrap_u64_nonneg (n : Int) : 0 ≤ IntKind.wrap .u64 n := by
  unfold IntKind.wrap
  simp [IntKind.signed, IntKind.bits]
  omega
theorem wrap_i64 (n : Int) : IntKind.wrap .i64 n = if n % 18446744073709551616 ≥ 9223372036854775808 then n % 18446744073709551616 - 18446744073709551616 else n % 18446744073709551616 := by
  show (if (true && decide (n % (2 ^ 64 : Int) ≥ (2 ^ 63 : Int))) = true then n % (2 ^ 64 : Int) - (2 ^ 64 : Int) else n % (2 ^ 64 : Int)) = _
  simp
theorem wrap_u64 (n : Int) : IntKind.wrap .u64 n = n % 18446744073709551616 := by
  show (if (false && decide (n % (2 ^ 64 : Int) ≥ (2 ^ 63 : Int))) = true then n % (2 ^ 64 : Int) - (2 ^ 64 : Int) else n % (2 ^ 64 : Int)) = _
  simp
theorem wrap_u8 (n : Int) : IntKind.wrap .u8 n = n % 256 := by
  show (if (false && decide (n % (2 ^ 8 : Int) ≥ (2 ^ 7 : Int))) = true then n % (2 ^ 8 : Int) - (2 ^ 8 : Int) else n % (2 ^ 8 : Int)) = _
  simp
theorem wrap_i64_id {n : Int} (h0 : -9223372036854775808 ≤ n) (h1 : n < 9223372036854775808) : IntKind.wrap .i64 n = n := by
  rw [wrap_i64]; split <;> omega
theorem wrap_i64_range (n : Int) : -9223372036854775808 ≤ IntKind.wrap .i64 n ∧ IntKind.wrap .i64 n < 9223372036854775808 := by
  rw [wrap_i64]; split <;> omega
theorem gate_true {α : Type} {b : Bool} {x : Option α} (h : b = true) : gate b x = x := by rw [h]; rfl
def elemSize (Γ : Ctx) (t : TypeId) : Option Nat :=
  match Γ.ty t with
  | some ti => match ti.und with
    | .slice e => (Γ.ty e).map TI.size
    | _ => none
  | none => none
theorem indexAddr_sl {Γ : Ctx} {t : TypeId} {tk : Tok} {es : List AV} {k : IntKind} {n : Int} {v : AV} (h : elemSize Γ t = some v.cells.length) (h0 : 0 ≤ n) (hv : es[n.toNat]? = some v) :
    indexAddr Γ t (.sl tk es) (.lit (.int k n)) = some (.vp v.cells 0) := by
  unfold elemSize at h
  split at h
  · rename_i ti h1
    split at h
    · rename_i e h2
      cases h3 : Γ.ty e with
      | none => rw [h3] at h; cases h
      | some ei =>
        rw [h3, Option.map_some] at h
        injection h with h
        simp only [indexAddr, h1, asNat, if_pos h0, h2, h3, hv, h, Nat.beq_refl, cond_true]
    · cases h
  · cases h
theorem indexAddr_ints {Γ : Ctx} {t : TypeId} {tk : Tok} {k k' : IntKind} (xs : List Int) {n : Int} (h : elemSize Γ t = some 1) (h0 : 0 ≤ n) (h1 : n.toNat < xs.length) :
    indexAddr Γ t (.sl tk (xs.map fun x => .lit (.int k x))) (.lit (.int k' n)) = some (.vp [.lit (.int k (xs.getD n.toNat 0))] 0) := by
  refine indexAddr_sl (v := .lit (.int k (xs.getD n.toNat 0))) h h0 ?_
  rw [List.getElem?_map, List.getD_eq_getElem?_getD, List.getElem?_eq_getElem h1]; rfl
def isText (Γ : Ctx) (t : TypeId) : Bool :=
  match Γ.ty t with
  | some ti => (match ti.und with
    | .string => true
    | _ => false)
  | none => false
theorem index_str {Γ : Ctx} {t : TypeId} {k : IntKind} (xs : List UInt8) {n : Int} (h : isText Γ t = true) (h0 : 0 ≤ n) (h1 : n.toNat < xs.length) :
    index Γ t (.str xs) (.lit (.int k n)) = some (.lit (.int .u8 (Int.ofNat (UInt8.toNat (xs.getD n.toNat 0))))) := by
  unfold isText at h
  split at h
  · rename_i ti h2
    split at h
    · rename_i h3
      simp only [index, h2, asNat, if_pos h0, h3]
      rw [List.getD_eq_getElem?_getD, List.getElem?_eq_getElem h1]; rfl
    · cases h
  · cases h
/-- Fields that are held against each other, one by one. -/
def seqB : List Bool → Option Bool
  | [] => some true
  | p :: r => match p with
    | true => seqB r
    | false => some false
theorem seqB_eq : ∀ l : List Bool, seqB l = some (l.all id)
  | [] => rfl
  | true :: r => by simp only [seqB, seqB_eq r, List.all_cons, id, Bool.true_and]
  | false :: r => by simp only [seqB, List.all_cons, id, Bool.false_and]
theorem eqv {Γ : Ctx} {t : TypeId} {x y : AV} {l : List Bool} (h : bin Γ .eql t x y = (seqB l).map fun b => .lit (.bool b)) : bin Γ .eql t x y = some (.lit (.bool (l.all id))) := by
  rw [h, seqB_eq]; rfl
theorem nev {Γ : Ctx} {t : TypeId} {x y : AV} {l : List Bool} (h : bin Γ .neq t x y = (seqB l).map fun b => .lit (.bool (!b))) : bin Γ .neq t x y = some (.lit (.bool (!(l.all id)))) := by
  rw [h, seqB_eq]; rfl
theorem gate_some {α : Type} {b : Bool} {x : Option α} {y : α} (h : gate b x = some y) : b = true ∧ x = some y := by
  cases b with
  | true => exact ⟨rfl, h⟩
  | false => cases h
def Ok (Γ : Ctx) (h : FuncId) (S : Spec) : Prop := ∀ args s v s', S args s = some (v, s') → Runs Γ h args s v s'
theorem Ok.orElse {Γ : Ctx} {h : FuncId} {S T : Spec} (H1 : Ok Γ h S) (H2 : Ok Γ h T) : Ok Γ h (fun args s => (S args s).orElse fun _ => T args s) := fun args s v s' e => by
  have e : (S args s).orElse (fun _ => T args s) = some (v, s') := e
  cases hS : S args s with
  | some r => rw [hS] at e; exact H1 _ _ _ _ (hS.trans e)
  | none => rw [hS] at e; exact H2 _ _ _ _ e
def table : List (FuncId × Spec) → CallT
  | [], _, _, _ => none
  | (h', S) :: r, h, args, s => cond (Nat.beq h h') (S args s) (table r h args s)
theorem SpecOk.nil {Γ : Ctx} : SpecOk Γ (table []) := fun h args s v s' e => by cases e
theorem SpecOk.cons {Γ : Ctx} {h : FuncId} {S : Spec} {l : List (FuncId × Spec)} (H : Ok Γ h S) (Hl : SpecOk Γ (table l)) : SpecOk Γ (table ((h, S) :: l)) := fun h' args s v s' e => by
  unfold table at e
  cases hb : Nat.beq h' h with
  | true => rw [hb] at e; rw [Nat.eq_of_beq_eq_true hb]; exact H _ _ _ _ e
  | false => rw [hb] at e; exact Hl _ _ _ _ _ e

end
end Go.Vm

namespace Go.Vm
noncomputable section

/-- A word. -/
def W (n : Int) : Prop := -9223372036854775808 ≤ n ∧ n ≤ 9223372036854775807
theorem W.of_wf {n : Int} (h : (Lit.int .i64 n).wf = true) : W n := by
  have h : (decide ((-9223372036854775808 : Int) ≤ n) && decide (n ≤ 9223372036854775807)) = true := h
  simpa [W] using h
theorem W.wrap (n : Int) : W (IntKind.wrap .i64 n) := by have := wrap_i64_range n; unfold W; omega

/-- A row of whole numbers in memory, as far as it is long. -/
theorem RV.row {w : World} {k : IntKind} {a : Option Addr} {len cap : Nat} {zs : List Int}
    (h : (a = none ∧ len = 0 ∧ cap = 0 ∧ zs = []) ∨ ∃ x, a = some x ∧ len ≤ cap ∧ cap ≤ maxLen ∧ zs.length = cap ∧ (∀ i, i < zs.length → w.cell? (x.add i) = some (.int k (zs.getD i 0))) ∧ ∀ n ∈ zs, (Lit.int k n).wf = true) :
    RV (Mu.all w) (.sl .ro ((zs.take len).map fun n => .lit (.int k n))) (.slice a len cap) := by
  have hlen : ∀ {es : List AV} {l : Nat}, es.length = l → RV (Mu.all w) (.sl .ro es) (.slice a es.length cap) → RV (Mu.all w) (.sl .ro es) (.slice a l cap) := fun h R => by rw [← h]; exact R
  rcases h with ⟨rfl, rfl, rfl, rfl⟩ | ⟨x, rfl, h1, h2, h3, h4, h5⟩
  · exact RV.sl .ro [] none 0 1 0 0 (fun _ => undef) (fun h => absurd rfl h) (fun e h => by cases h) (fun e h => by cases h) (fun i e j c h => by simp at h) (fun i e j c h => by simp at h) (Nat.le_refl _) trivial (fun id h e => by cases e)
  · have hl : ((zs.take len).map fun n => AV.lit (.int k n)).length = len := by simp only [List.length_map, List.length_take]; omega
    refine hlen hl ?_
    have get : ∀ (i : Nat) (e : AV), ((zs.take len).map fun n => AV.lit (.int k n))[i]? = some e → i < zs.length ∧ e = .lit (.int k (zs.getD i 0)) := fun i e he => by
      rw [List.getElem?_map, List.getElem?_take] at he
      by_cases hi : i < len
      · rw [if_pos hi] at he
        have hz : i < zs.length := by omega
        rw [List.getElem?_eq_getElem hz] at he
        simp only [Option.map_some, Option.some.injEq] at he
        exact ⟨hz, by rw [← he, List.getD_eq_getElem?_getD, List.getElem?_eq_getElem hz]; rfl⟩
      · rw [if_neg hi] at he; simp at he
    refine RV.sl .ro _ (some x) cap 1 x.block x.off (fun i => .int k (zs.getD i 0)) (fun hne => ?_) (fun e he => ?_) (fun e he c hc => ?_) (fun i e j c he hc => ?_) (fun i e j c he hc => ?_) (by rw [hl]; exact h1) trivial (fun id h e => by cases e)
    · have h0 : 0 < zs.length := by
        cases zs with
        | nil => simp at hne
        | cons z zs => simp
      have := h4 0 h0
      have hx : x.add 0 = x := rfl
      rw [hx] at this
      have hs := World.cell?_spot this
      cases x; simp only at hs; subst hs; rfl
    · obtain ⟨i, hi⟩ := List.mem_iff_getElem?.1 he
      rw [(get i e hi).2]; rfl
    · obtain ⟨i, hi⟩ := List.mem_iff_getElem?.1 he
      rw [(get i e hi).2] at hc
      have hc : c ∈ [AV.lit (.int k (zs.getD i 0))] := hc
      rw [List.mem_singleton] at hc; subst hc; rfl
    · obtain ⟨g1, g2⟩ := get i e he
      subst g2
      cases j with
      | succ j => simp [AV.cells] at hc
      | zero =>
        have hcell := h4 i g1
        have hs : (x.add i).spot = none := World.cell?_spot hcell
        have ha : x.add i = ⟨x.block, x.off + i, none⟩ := by
          unfold Addr.add at hs ⊢
          by_cases h0 : i = 0
          · rw [if_pos h0] at hs ⊢; cases x; simp only at hs; subst hs; subst h0; rfl
          · rw [if_neg h0]
        rw [ha] at hcell
        have hb : x.block < w.heap.size := by
          unfold World.cell? at hcell
          cases hq : w.heap[x.block]? with
          | none => simp [hq] at hcell
          | some b => exact (Array.getElem?_eq_some_iff.1 hq).1
        unfold Mu.fro Mu.all
        simp only [if_pos hb]
        rw [Nat.mul_one, Nat.add_zero, Nat.add_zero]
        exact hcell
    · obtain ⟨g1, g2⟩ := get i e he
      subst g2
      cases j with
      | succ j => simp [AV.cells] at hc
      | zero =>
        have hc : [AV.lit (.int k (zs.getD i 0))][0]? = some c := hc
        simp only [List.getElem?_cons_zero, Option.some.injEq] at hc
        subst hc
        rw [Nat.mul_one, Nat.add_zero]; exact .lit _

/-- A struct of two whole numbers. -/
theorem RV.agg2 {μ : Mu} {k k' : IntKind} (x y : Int) : RV μ (.agg [.lit (.int k x), .lit (.int k' y)]) (.agg #[.int k x, .int k' y]) := by
  refine .agg _ _ rfl (fun v hv => ?_) (fun i v h => ?_)
  · simp only [List.mem_cons, List.not_mem_nil, or_false] at hv
    rcases hv with rfl | rfl <;> rfl
  · match i, h with
    | 0, h => injection h with h; subst h; exact .lit _
    | 1, h => injection h with h; subst h; exact .lit _
    | n + 2, h => simp at h

/-- A law that the machine runs to true returns true. -/
theorem calls_of_runs {P : Program} {Γ : Ctx} (hΓ : Γ.Ok P) {f : Nat} {args : List AV} {s' : St} (h : Runs Γ f args St.nil (.lit (.bool true)) s') {w : World} {cargs : List Value} (ha : All (RV (Mu.all w)) args cargs) :
    Calls P f cargs.toArray w fun e w' => e = .returned (.bool true) ∧ RowKit.Below w.heap.size w w' := by
  obtain ⟨n, h⟩ := h
  exact calls_true hΓ (n := n) (by rw [h n (Nat.le_refl _)]; rfl) ha
end
end Go.Vm

namespace Go.Vm
noncomputable section

/-- Rows of (function, loop's first region, live tmps, live locals). -/
def liveOf : List (Nat × Nat × List Nat × List Nat) → Nat → Nat → Option (List Nat × List Nat)
  | [], _, _ => none
  | (f', r', x) :: rest, f, r => cond (Nat.beq f f' && Nat.beq r r') (some x) (liveOf rest f r)
def mark1 (l : List Nat) (f : Nat) : Bool := l.any fun p => Nat.beq p f
def mark2 (l : List (Nat × Nat)) (f d : Nat) : Bool := l.any fun p => Nat.beq p.1 f && Nat.beq p.2 d

def Call.le (c c' : CallT) : Prop := ∀ h args s r, c h args s = some r → c' h args s = some r

theorem opx_mono {Γ : Ctx} {c c' : CallT} (hc : Call.le c c') {f : FuncId} {g : Fr} {s : St} {dst : Option Tmp} {op : Op} {r : AV × Option (Fr × St)} (h : opx Γ c f g s dst op = some r) : opx Γ c' f g s dst op = some r := by
  by_cases hcall : ∃ k, op = .call k
  · obtain ⟨k, rfl⟩ := hcall
    obtain ⟨callee, args, ts⟩ := k
    cases callee with
    | builtin b => exact h
    | invoke x m => exact h
    | value x =>
      simp only [opx] at h ⊢
      split at h
      · rename_i hf caps vs r1 e1 e2
        cases r1 with
        | none =>
          simp only [thenOut] at h ⊢
          cases hq : c hf (stripArgs Γ hf (vs ++ caps)) s with
          | none => simp only [hq] at h; cases h
          | some q => simp only [hq] at h; simp only [hc _ _ _ _ hq]; exact h
        | some q =>
          obtain ⟨g1, s1⟩ := q
          simp only [thenOut] at h ⊢
          cases hq : c hf (stripArgs Γ hf (vs ++ caps)) s1 with
          | none => simp only [hq] at h; cases h
          | some q => simp only [hq] at h; simp only [hc _ _ _ _ hq]; exact h
      · cases h
  · have hn : ∀ k, op ≠ .call k := fun k e => hcall ⟨k, e⟩
    rw [opx_dead hn] at h ⊢; exact h

theorem runOps_mono {Γ : Ctx} {c c' : CallT} (hc : Call.le c c') {f : FuncId} {ops : List Oper} : ∀ (rest : List Oper) (g : Fr) (s : St) (r : Fr × St), runOps Γ c f ops rest g s = some r → runOps Γ c' f ops rest g s = some r
  | [], _, _, _, h => h
  | o :: rest, g, s, r, h => by
    simp only [runOps] at h ⊢
    split at h
    · rename_i g1 s1 h1
      have : oper1 Γ c' f ops o g s = some (g1, s1) := by
        unfold oper1 at h1 ⊢
        rw [opxF_eq] at h1 ⊢
        split at h1
        · cases hq : opx Γ c f g s o.dst o.op with
          | none => rw [hq] at h1; cases h1
          | some q => rw [opx_mono hc hq]; rw [hq] at h1; exact h1
        · exact h1
        · cases h1
      rw [this]; exact runOps_mono hc rest g1 s1 r h
    · cases h

theorem runRec_mono {Γ : Ctx} {c c' : CallT} (hc : Call.le c c') {f : FuncId} {ops : List Oper} {ms : List Nat} : ∀ (rest : List Oper) (i : Nat) (g : Fr) (s : St) (rs : List Rec) (r : Fr × St), runRec Γ c f ops ms i rest g s rs = some r → runRec Γ c' f ops ms i rest g s rs = some r
  | [], _, _, _, _, _, h => h
  | o :: rest, i, g, s, rs, r, h => by
    simp only [runRec, opxF_eq] at h ⊢
    split at h
    · cases hq : opx Γ c f g s o.dst o.op with
      | none => rw [hq] at h; cases h
      | some q =>
        rw [opx_mono hc hq]; rw [hq] at h
        obtain ⟨v, e⟩ := q
        cases e with
        | none =>
          simp only at h ⊢
          split at h
          · exact runRec_mono hc rest _ _ _ _ r h
          · cases h
        | some p =>
          obtain ⟨g1, s1⟩ := p
          simp only at h ⊢
          split at h
          · exact runRec_mono hc rest _ _ _ _ r h
          · cases h
    · split at h
      · exact runRec_mono hc rest _ _ _ _ r h
      · cases h
    · cases h

theorem loopN_mono {b b' : Fr → St → Option (Ex × Fr × St)} (hb : ∀ g s r, b g s = some r → b' g s = some r) : ∀ (m m' : Nat), m ≤ m' → ∀ (g : Fr) (s : St) (r : Ex × Fr × St), loopN b m g s = some r → loopN b' m' g s = some r
  | 0, _, _, _, _, _, h => by cases h
  | m + 1, 0, hm, _, _, _, _ => by omega
  | m + 1, m' + 1, hm, g, s, r, h => by
    simp only [loopN] at h ⊢
    cases hq : b g s with
    | none => rw [hq] at h; cases h
    | some q =>
      rw [hb g s q hq]; rw [hq] at h
      obtain ⟨x, g1, s1⟩ := q
      cases x with
      | normal => exact loopN_mono hb m m' (by omega) g1 s1 r h
      | exit j => exact h
      | ret => exact h

theorem exec_mono {Γ : Ctx} {c c' : CallT} (hc : Call.le c c') {f : FuncId} {n n' : Nat} (hn : n ≤ n') : ∀ (k : Code) (g : Fr) (s : St) (r : Ex × Fr × St), exec Γ c f n k g s = some r → exec Γ c' f n' k g s = some r := by
  intro k
  induction k with
  | skip => intro g s r h; exact h
  | exit id => intro g s r h; exact h
  | ret => intro g s r h; exact h
  | region id ops draw =>
    intro g s r h
    simp only [exec] at h ⊢
    cases draw with
    | true =>
      simp only [cond_true] at h ⊢
      unfold runDraw at h ⊢
      cases hs : shapeOk ops.toList with
      | false => rw [hs] at h; cases h
      | true =>
        rw [hs, cond_true] at h
        rw [cond_true]
        split at h
        · rename_i g1 s1 hq
          rw [runRec_mono hc _ _ _ _ _ _ hq]; exact h
        · cases h
    | false =>
      simp only [cond_false] at h ⊢
      split at h
      · rename_i g1 s1 hq
        rw [runOps_mono hc _ _ _ _ hq]; exact h
      · cases h
  | seq a b iha ihb =>
    intro g s r h
    simp only [exec] at h ⊢
    cases hq : exec Γ c f n a g s with
    | none => rw [hq] at h; cases h
    | some q =>
      rw [iha g s q hq]; rw [hq] at h
      obtain ⟨x, g1, s1⟩ := q
      cases x with
      | normal => exact ihb g1 s1 r h
      | exit j => exact h
      | ret => exact h
  | cond x a b iha ihb =>
    intro g s r h
    simp only [exec] at h ⊢
    split at h
    · split at h
      · rename_i q hq; rw [if_pos hq]; exact iha g s r h
      · rename_i q hq; rw [if_neg hq]; exact ihb g s r h
    · cases h
  | block id a ih =>
    intro g s r h
    simp only [exec] at h ⊢
    cases hq : exec Γ c f n a g s with
    | none => rw [hq] at h; cases h
    | some q =>
      rw [ih g s q hq]; rw [hq] at h
      exact h
  | loop a ih =>
    intro g s r h
    simp only [exec] at h ⊢
    split at h
    · exact loopN_mono (fun g s r h => ih _ _ _ h) n n' hn g s r h
    · exact loopN_mono (fun g s r h => ih _ _ _ h) n n' hn g s r h
  | _ => intro g s r h; simp [exec] at h

theorem callF_mono {Γ : Ctx} : ∀ (n n' : Nat), n ≤ n' → Call.le (callF Γ n) (callF Γ n')
  | 0, _, _ => fun h args s r e => by cases e
  | n + 1, 0, hn => by omega
  | n + 1, n' + 1, hn => fun h args s r e => by
    have ih := callF_mono (Γ := Γ) n n' (by omega)
    have body : ∀ fn c args s r, bodyX Γ (callF Γ n) n h fn c args s = some r → bodyX Γ (callF Γ n') n' h fn c args s = some r := fun fn c args s r e => by
      unfold bodyX at e ⊢
      cases hq : exec Γ (callF Γ n) h n c { tm := argsTm args 0 .nil, lo := .nil, nt := fn.ntmps } s with
      | none => rw [hq] at e; cases e
      | some q => rw [exec_mono ih (by omega) c _ _ q hq]; rw [hq] at e; exact e
    simp only [callF] at e ⊢
    split at e
    · cases e
    · rename_i fn _
      split at e
      · cases e
      · rename_i c _
        cases hl : Nat.ble args.length fn.ntmps with
        | false => rw [hl] at e; cases e
        | true =>
          rw [hl, cond_true] at e
          rw [cond_true]
          cases hs : Γ.scope h with
          | false => rw [hs, cond_false] at e; rw [cond_false]; exact body _ _ _ _ _ e
          | true =>
            rw [hs, cond_true] at e
            rw [cond_true]
            split at e
            · rename_i args' _
              unfold aloneX at e ⊢
              cases hb : bodyX Γ (callF Γ n) n h fn c args' ⟨0, 0, .nil⟩ with
              | none => rw [hb] at e; cases e
              | some q => rw [body _ _ _ _ _ hb]; rw [hb] at e; exact e
            · cases e

theorem Runs.of {Γ : Ctx} {n : Nat} {h : FuncId} {args : List AV} {s : St} {v : AV} {s' : St} (e : callF Γ n h args s = some (v, s')) : Runs Γ h args s v s' := ⟨n, fun m hm => callF_mono n m hm _ _ _ _ e⟩
/-- A function that runs by itself runs so in whatever store. -/
theorem Runs.alone {Γ : Ctx} {h : FuncId} {args : List AV} {v : AV} {s0 s1 : St} (hs : Γ.scope h = true) (R : Runs Γ h args s0 v s1) (s : St) : Runs Γ h args s v s := by
  obtain ⟨n0, R⟩ := R
  refine ⟨n0 + 1, fun n hn => ?_⟩
  obtain ⟨n, rfl⟩ : ∃ m, n = m + 1 := ⟨n - 1, by omega⟩
  have e := R (n + 1) (by omega)
  simp only [callF] at e ⊢
  cases hf : Γ.fn h with
  | none => simp only [hf] at e; cases e
  | some fn =>
    simp only [hf] at e ⊢
    cases hb : fn.body with
    | none => simp only [hb] at e; cases e
    | some c =>
      simp only [hb] at e ⊢
      cases hl : Nat.ble args.length fn.ntmps with
      | false => rw [hl] at e; cases e
      | true =>
        rw [hl, hs, cond_true, cond_true] at e
        rw [hs, cond_true, cond_true]
        cases hm : mapO (freezeV Γ ⟨0, 0, .nil⟩ 20) args with
        | none => simp only [hm] at e; cases e
        | some args' =>
          simp only [hm] at e ⊢
          cases hx : aloneX Γ (callF Γ n) n h fn c args' with
          | none => rw [hx] at e; cases e
          | some q =>
            rw [hx] at e
            simp only [Option.map_some, Option.some.injEq, Prod.mk.injEq] at e
            rw [← e.1]; rfl
end
end Go.Vm

namespace Go.Vm
noncomputable section

/-- Calls of functions that run by themselves, with what they gave. -/
abbrev Tab := Tr (List (List AV × AV))
def lookL : List (List AV × AV) → List AV → Option AV
  | [], _ => none
  | (a, r) :: es, args => cond (sameL a args) (some r) (lookL es args)
def look1 (l : Tab) (f : FuncId) (args : List AV) : Option AV :=
  match l.get f with
  | none => none
  | some es => lookL es args
def Tab.add (l : Tab) (f : FuncId) (args : List AV) (r : AV) : Tab := l.set f ((args, r) :: (match l.get f with | some es => es | none => []))

/-- Calls, as the machine makes them, over a table. -/
def callL (Γ : Ctx) (l : Tab) : Nat → CallT
  | 0, _, _, _ => none
  | n + 1, f, args, s => match look1 l f args with
    | some r => some (r, s)
    | none => match Γ.fn f with
      | none => none
      | some fn => match fn.body with
        | none => none
        | some c => cond (Nat.ble args.length fn.ntmps) (cond (Γ.scope f)
          (match mapO (freezeV Γ ⟨0, 0, .nil⟩ 20) args with
            | some args => (aloneX Γ (callL Γ l n) n f fn c args).map fun r => (r, s)
            | none => none)
          (bodyX Γ (callL Γ l n) n f fn c args s)) none

def TabOk (Γ : Ctx) (l : Tab) (N : Nat) : Prop := ∀ f args r, look1 l f args = some r → ∀ s n, N ≤ n → callF Γ n f args s = some (r, s)

theorem TabOk.nil (Γ : Ctx) : TabOk Γ .nil 0 := fun f args r h => by cases h

theorem callL_le {Γ : Ctx} {l : Tab} {N : Nat} (H : TabOk Γ l N) : ∀ n, Call.le (callL Γ l n) (callF Γ (n + N))
  | 0 => fun h args s r e => by cases e
  | n + 1 => fun h args s r e => by
    have ih := callL_le H n
    simp only [callL] at e
    split at e
    · rename_i r' hl
      injection e with e; subst e
      exact H _ _ _ hl s _ (by omega)
    · have body : ∀ fn c args s r, bodyX Γ (callL Γ l n) n h fn c args s = some r → bodyX Γ (callF Γ (n + N)) (n + N) h fn c args s = some r := fun fn c args s r e => by
        unfold bodyX at e ⊢
        cases hq : exec Γ (callL Γ l n) h n c { tm := argsTm args 0 .nil, lo := .nil, nt := fn.ntmps } s with
        | none => rw [hq] at e; cases e
        | some q => rw [exec_mono ih (by omega) c _ _ q hq]; rw [hq] at e; exact e
      rw [show n + 1 + N = (n + N) + 1 by omega]
      simp only [callF]
      split at e
      · cases e
      · rename_i fn h1
        split at e
        · cases e
        · rename_i c h2
          simp only [h1, h2]
          cases hl : Nat.ble args.length fn.ntmps with
          | false => rw [hl] at e; cases e
          | true =>
            rw [hl, cond_true] at e
            rw [cond_true]
            cases hs : Γ.scope h with
            | false => rw [hs, cond_false] at e; rw [cond_false]; exact body _ _ _ _ _ e
            | true =>
              rw [hs, cond_true] at e
              rw [cond_true]
              split at e
              · rename_i args' ha
                simp only [ha]
                unfold aloneX at e ⊢
                cases hb : bodyX Γ (callL Γ l n) n h fn c args' ⟨0, 0, .nil⟩ with
                | none => rw [hb] at e; cases e
                | some q => rw [body _ _ _ _ _ hb]; rw [hb] at e; exact e
              · cases e

theorem lookL_cons {a : List AV} {r : AV} {es : List (List AV × AV)} {args : List AV} {x : AV} (h : lookL ((a, r) :: es) args = some x) : (args = a ∧ x = r) ∨ lookL es args = some x := by
  simp only [lookL] at h
  cases hs : sameL a args with
  | true => rw [hs] at h; injection h with h; exact .inl ⟨(sameL_eq a args hs).symm, h.symm⟩
  | false => rw [hs] at h; exact .inr h

/-- A call that runs by itself tells the same in every store, at the same fuel. -/
theorem Runs.store {Γ : Ctx} {n : Nat} {h : FuncId} {args : List AV} {v : AV} {s0 s1 : St} (hs : Γ.scope h = true) (e : callF Γ n h args s0 = some (v, s1)) (s : St) : callF Γ n h args s = some (v, s) := by
  cases n with
  | zero => cases e
  | succ n =>
    simp only [callF] at e ⊢
    cases hf : Γ.fn h with
    | none => simp only [hf] at e; cases e
    | some fn =>
      simp only [hf] at e ⊢
      cases hb : fn.body with
      | none => simp only [hb] at e; cases e
      | some c =>
        simp only [hb] at e ⊢
        cases hl : Nat.ble args.length fn.ntmps with
        | false => rw [hl] at e; cases e
        | true =>
          rw [hl, hs, cond_true, cond_true] at e
          rw [hs, cond_true, cond_true]
          cases hm : mapO (freezeV Γ ⟨0, 0, .nil⟩ 20) args with
          | none => simp only [hm] at e; cases e
          | some args' =>
            simp only [hm] at e ⊢
            cases hx : aloneX Γ (callF Γ n) n h fn c args' with
            | none => rw [hx] at e; cases e
            | some q =>
              rw [hx] at e
              simp only [Option.map_some, Option.some.injEq, Prod.mk.injEq] at e
              rw [← e.1]; rfl

/-- One more piece. -/
theorem TabOk.add {Γ : Ctx} {l : Tab} {N : Nat} (H : TabOk Γ l N) {n : Nat} {f : FuncId} {args : List AV} {r : AV} (hs : Γ.scope f = true) (h : callL Γ l n f args ⟨0, 0, .nil⟩ = some (r, ⟨0, 0, .nil⟩)) : TabOk Γ (l.add f args r) (n + N + 1) := by
  intro f' args' r' hl s m hm
  have old : look1 l f' args' = some r' → callF Γ m f' args' s = some (r', s) := fun h => H _ _ _ h s m (by omega)
  unfold look1 Tab.add at hl
  rw [Tr.get_set] at hl
  by_cases hf : f' = f
  · rw [if_pos hf] at hl
    subst hf
    simp only at hl
    rcases lookL_cons hl with ⟨rfl, rfl⟩ | hl
    · have e := callL_le H n _ _ _ _ h
      have e3 := callF_mono (n + N) m (by omega) _ _ _ _ e
      exact Runs.store hs e3 s
    · refine old ?_
      unfold look1
      cases hq : l.get f' with
      | none => rw [hq] at hl; cases hl
      | some es => rw [hq] at hl; exact hl
  · rw [if_neg hf] at hl
    exact old hl

theorem Tab.runs {Γ : Ctx} {l : Tab} {N : Nat} (H : TabOk Γ l N) {n : Nat} {f : FuncId} {args : List AV} {s s' : St} {v : AV} (h : callL Γ l n f args s = some (v, s')) : Runs Γ f args s v s' := Runs.of (callL_le H n _ _ _ _ h)
end
end Go.Vm

namespace Go.Vm
noncomputable section

theorem RV.slice {w : World} {a : Addr} {len cap sz : Nat} (hsz : 0 < sz) (hcap : len ≤ cap) (es : List AV) (hlen : es.length = len) (csOf : Nat → List Value)
    (h : ∀ i, i < len → (csOf i).length = sz ∧ ∀ j, j < sz → w.cell? ((a.add (i * sz)).add j) = (csOf i)[j]?)
    (hE : ∀ (i : Nat) (e : AV), es[i]? = some e → e.cells.length = sz ∧ (∀ c, c ∈ e.cells → c.isCell = true) ∧ ∀ (j : Nat) (c : AV), e.cells[j]? = some c → RV (Mu.all w) c ((csOf i).getD j undef)) :
    RV (Mu.all w) (.sl .ro es) (.slice (some a) len cap) := by
  subst hlen
  have hcell : ∀ i j, i < es.length → j < sz → w.cell? ((a.add (i * sz)).add j) = some ((csOf i).getD j undef) := fun i j hi hj => by
    obtain ⟨h1, h2⟩ := h i hi
    rw [h2 j hj, List.getD_eq_getElem?_getD, List.getElem?_eq_getElem (by omega)]; rfl
  have hx : ∀ x : Addr, x.add 0 = x := fun x => by unfold Addr.add; simp
  have hspot : 0 < es.length → a.spot = none := fun h0 => by
    have := hcell 0 0 h0 hsz
    rw [Nat.zero_mul, hx, hx] at this
    exact World.cell?_spot this
  have hadd : 0 < es.length → ∀ i j, (a.add (i * sz)).add j = ⟨a.block, a.off + i * sz + j, none⟩ := fun h0 i j => by
    have hs := hspot h0
    obtain ⟨b, o, sp⟩ := a
    simp only at hs; subst hs
    rw [addr_add, addr_add]
  have at_ : ∀ (i : Nat) (e : AV) (j : Nat) (c : AV), es[i]? = some e → e.cells[j]? = some c → i < es.length ∧ j < sz := fun i e j c he hc => by
    have h1 := (List.getElem?_eq_some_iff.1 he).1
    have h2 := (List.getElem?_eq_some_iff.1 hc).1
    rw [(hE i e he).1] at h2
    exact ⟨h1, h2⟩
  have hd : ∀ i j, j < sz → (csOf ((i * sz + j) / sz)).getD ((i * sz + j) % sz) undef = (csOf i).getD j undef := fun i j hj => by
    rw [Nat.mul_comm i sz, Nat.mul_add_div hsz, Nat.div_eq_of_lt hj, Nat.add_zero, Nat.mul_add_mod, Nat.mod_eq_of_lt hj]
  refine RV.sl .ro es (some a) cap sz a.block a.off (fun k => (csOf (k / sz)).getD (k % sz) undef) (fun hne => ?_) (fun e he => ?_) (fun e he c hc => ?_) (fun i e j c he hc => ?_) (fun i e j c he hc => ?_) hcap trivial (fun id h e => by cases e)
  · have h0 : 0 < es.length := by cases es with
      | nil => exact absurd rfl hne
      | cons _ _ => simp
    have := hspot h0
    obtain ⟨b, o, sp⟩ := a
    simp only at this; subst this; rfl
  · obtain ⟨i, hi⟩ := List.mem_iff_getElem?.1 he
    exact (hE i e hi).1
  · obtain ⟨i, hi⟩ := List.mem_iff_getElem?.1 he
    exact (hE i e hi).2.1 c hc
  · obtain ⟨hi, hj⟩ := at_ i e j c he hc
    have hcl := hcell i j hi hj
    rw [hadd (by omega)] at hcl
    have hb : a.block < w.heap.size := by
      unfold World.cell? at hcl
      cases hq : w.heap[a.block]? with
      | none => simp [hq] at hcl
      | some b => exact (Array.getElem?_eq_some_iff.1 hq).1
    unfold Mu.fro Mu.all
    simp only [if_pos hb]
    rw [hd i j hj]; exact hcl
  · obtain ⟨hi, hj⟩ := at_ i e j c he hc
    simp only [hd i j hj]
    exact (hE i e he).2.2 j c hc

section
variable {H : Type} {enc : TypeId × Value → H} {P : Program} {w : World} {base : Nat} {spare : Nat → Bool} {held : Bool}

/-- What a slice holds, when it is known what its elements are. -/
theorem slice_trod {t e : TypeId} {sz : Nat} (ht : P.underlying t = some (.slice e)) (hc : P.cellsOf e = sz) (hsz : 0 < sz) (E : AV → Prop)
    (hel : ∀ n cs y, cs.length = sz → DataW.trod enc P w base spare held n e cs = some y → ∃ v : AV, E v ∧ v.cells.length = sz ∧ (∀ c, c ∈ v.cells → c.isCell = true) ∧ ∀ (j : Nat) (c : AV), v.cells[j]? = some c → RV (Mu.all w) c (cs.getD j undef))
    {fuel : Nat} {cs : List Value} {x : DataW H × List MemPlace} (h : DataW.trod enc P w base spare held fuel t cs = some x) : ∃ es c, cs = [c] ∧ (∀ e, e ∈ es → E e) ∧ RV (Mu.all w) (.sl .ro es) c := by
  rcases DataW.trod_slice ht h with ⟨rfl, _⟩ | ⟨a, len, cap, elems, rest, n, _, rfl, _, _, hl, _, hlen, hels, _, _⟩
  · exact ⟨[], _, rfl, (fun e he => by cases he), RV.row (k := .i64) (zs := []) (len := 0) (.inl ⟨rfl, rfl, rfl, rfl⟩)⟩
  · have each : ∀ i, ∃ (v : AV) (cs : List Value), i < len → E v ∧ v.cells.length = sz ∧ (∀ c, c ∈ v.cells → c.isCell = true) ∧ (∀ (j : Nat) (c : AV), v.cells[j]? = some c → RV (Mu.all w) c (cs.getD j undef)) ∧ cs.length = sz ∧ ∀ j, j < sz → w.cell? ((a.add (i * sz)).add j) = cs[j]? := fun i => by
      by_cases hi : i < len
      · have hb := hels i hi
        rw [hc, List.getElem?_eq_getElem (by omega), Option.bind_eq_some_iff] at hb
        obtain ⟨cs', hcs, hy⟩ := hb
        obtain ⟨_, q2, q3⟩ := World.cells?_some hcs
        obtain ⟨v, e1, e2, e3, e4⟩ := hel n cs' _ q2 hy
        exact ⟨v, cs', fun _ => ⟨e1, e2, e3, e4, q2, q3⟩⟩
      · exact ⟨.any, [], fun h => absurd h hi⟩
    obtain ⟨f, g, hfg⟩ : ∃ (f : Nat → AV) (g : Nat → List Value), ∀ i, i < len → E (f i) ∧ (f i).cells.length = sz ∧ (∀ c, c ∈ (f i).cells → c.isCell = true) ∧ (∀ (j : Nat) (c : AV), (f i).cells[j]? = some c → RV (Mu.all w) c ((g i).getD j undef)) ∧ (g i).length = sz ∧ ∀ j, j < sz → w.cell? ((a.add (i * sz)).add j) = (g i)[j]? :=
      ⟨fun i => Classical.choose (each i), fun i => Classical.choose (Classical.choose_spec (each i)), fun i => Classical.choose_spec (Classical.choose_spec (each i))⟩
    refine ⟨(List.range len).map f, _, rfl, fun e he => ?_, RV.slice hsz hl _ (by simp) g (fun i hi => ⟨(hfg i hi).2.2.2.2.1, (hfg i hi).2.2.2.2.2⟩) fun i e he => ?_⟩
    · obtain ⟨i, hi, rfl⟩ := List.mem_map.1 he
      exact (hfg i (List.mem_range.1 hi)).1
    · rw [List.getElem?_map] at he
      cases hq : (List.range len)[i]? with
      | none => rw [hq] at he; cases he
      | some k =>
        rw [hq] at he
        have hk := List.getElem?_eq_some_iff.1 hq
        obtain ⟨h1, h2⟩ := hk
        rw [List.getElem_range] at h2
        subst h2
        injection he with he; subst he
        have hi : i < len := by simpa using h1
        obtain ⟨_, e2, e3, e4, _, _⟩ := hfg i hi
        exact ⟨e2, e3, e4⟩

/-- A struct of two whole numbers. -/
def pair2 (p : Int × Int) : AV := .agg [.lit (.int .i64 p.1), .lit (.int .i64 p.2)]
theorem slice_pairs {t e : TypeId} {f0 f1 : Field} (ht : P.underlying t = some (.slice e)) (he : P.underlying e = some (.struct #[f0, f1])) (hc : P.cellsOf e = 2) (h0 : P.underlying f0.type = some (.int .i64)) (h1 : P.underlying f1.type = some (.int .i64))
    (o0 : f0.offset = 0) (o1 : f1.offset = 1) (c0 : P.cellsOf f0.type = 1) (c1 : P.cellsOf f1.type = 1)
    {v : Value} {d : DataW H} {p : List MemPlace} (h : DataW.Trod enc P w base spare held t v d p) (hv : v.cells = #[v]) : ∃ hs : List (Int × Int), (∀ x, x ∈ hs → W x.1 ∧ W x.2) ∧ RV (Mu.all w) (.sl .ro (hs.map pair2)) v := by
  obtain ⟨fuel, hf⟩ := h
  rw [hv] at hf
  obtain ⟨es, c, hcs, hE, R⟩ := slice_trod ht hc (by decide) (fun a => ∃ x : Int × Int, a = pair2 x ∧ W x.1 ∧ W x.2) (fun n cs y hl hy => by
    obtain ⟨y0, y1, m, _, _, t0, t1⟩ := Go.ChangeShapes.trod_struct2 he hy
    match cs, hl with
    | [u0, u1], _ =>
      rw [o0, c0] at t0
      rw [o1, c1] at t1
      obtain ⟨n0, e0, _, w0⟩ := DataW.trod_int h0 t0
      obtain ⟨n1, e1, _, w1⟩ := DataW.trod_int h1 t1
      simp at e0 e1
      subst e0; subst e1
      refine ⟨pair2 (n0, n1), ⟨(n0, n1), rfl, W.of_wf w0, W.of_wf w1⟩, rfl, fun c hc => ?_, fun j c hj => ?_⟩
      · have hc : c ∈ [AV.lit (.int .i64 n0), .lit (.int .i64 n1)] := hc
        simp only [List.mem_cons, List.not_mem_nil, or_false] at hc
        rcases hc with rfl | rfl <;> rfl
      · match j, hj with
        | 0, hj => injection hj with hj; subst hj; exact .lit _
        | 1, hj => injection hj with hj; subst hj; exact .lit _
        | j + 2, hj => simp [pair2, AV.cells] at hj) hf
  have hcs : c = v := by simpa using hcs.symm
  subst hcs
  have : ∃ hs : List (Int × Int), (∀ x, x ∈ hs → W x.1 ∧ W x.2) ∧ es = hs.map pair2 := by
    clear R hf
    induction es with
    | nil => exact ⟨[], (fun x hx => by cases hx), rfl⟩
    | cons e es ih =>
      obtain ⟨x, rfl, hx⟩ := hE e (by simp)
      obtain ⟨hs, q1, rfl⟩ := ih fun a ha => hE a (by simp [ha])
      exact ⟨x :: hs, fun y hy => by rcases List.mem_cons.1 hy with rfl | hy; exact hx; exact q1 y hy, rfl⟩
  obtain ⟨hs, q1, rfl⟩ := this
  exact ⟨hs, q1, R⟩
end

/-- A struct of four whole numbers. -/
theorem RV.agg4 {μ : Mu} (x y z t : Int) : RV μ (.agg [.lit (.int .i64 x), .lit (.int .i64 y), .lit (.int .i64 z), .lit (.int .i64 t)]) (.agg #[.int .i64 x, .int .i64 y, .int .i64 z, .int .i64 t]) := by
  refine .agg _ _ rfl (fun v hv => ?_) (fun i v h => ?_)
  · simp only [List.mem_cons, List.not_mem_nil, or_false] at hv
    rcases hv with rfl | rfl | rfl | rfl <;> rfl
  · match i, h with
    | 0, h => injection h with h; subst h; exact .lit _
    | 1, h => injection h with h; subst h; exact .lit _
    | 2, h => injection h with h; subst h; exact .lit _
    | 3, h => injection h with h; subst h; exact .lit _
    | n + 4, h => simp at h
end
end Go.Vm

namespace Go.Vm
noncomputable section

/-- The loop of a function that begins with a region. -/
def findLoop (r : Nat) : Code → Option Code
  | .loop c => cond (match firstRegion c with | some r' => Nat.beq r r' | none => false) (some c) (findLoop r c)
  | .seq a b => (findLoop r a).orElse fun _ => findLoop r b
  | .cond _ a b => (findLoop r a).orElse fun _ => findLoop r b
  | .block _ c => findLoop r c
  | _ => none
def loopAt (Γ : Ctx) (f : FuncId) (r : Nat) : Code :=
  match Γ.fn f with
  | some fn => (match fn.body with
    | some c => (findLoop r c).getD .skip
    | none => .skip)
  | none => .skip

/-- Rounds depend on what is kept of the frame alone. -/
theorem LoopN.of_keep {Γ : Ctx} {f : FuncId} {c : Code} {ts ls : List Nat} {g g1 : Fr} {s : St} {x : Ex} {g' : Fr} {s' : St} (h : g.keep ts ls = g1.keep ts ls) (L : LoopN Γ f c ts ls g1 s x g' s') : LoopN Γ f c ts ls g s x g' s' := by
  obtain ⟨n0, E⟩ := L
  refine ⟨n0 + 1, fun n hn m hm => ?_⟩
  have e := E n (by omega) m (by omega)
  obtain ⟨m, rfl⟩ : ∃ k, m = k + 1 := ⟨m - 1, by omega⟩
  simp only [loopN, h] at e ⊢
  exact e

/-- A loop's rounds: from a head's state each round comes to a lesser one, or ends the loop. -/
theorem loop_rule {Γ : Ctx} {sp : CallT} (hsp : SpecOk Γ sp) {f : FuncId} {c : Code} {ts ls : List Nat} (hl : (firstRegion c).bind (Γ.live f) = some (ts, ls)) {σ : Type} (mu : σ → Nat) (Inv : σ → Prop) (H : σ → Fr) (S : σ → St) (hint : σ → Hint) (Post : σ → Ex → Fr → St → Prop)
    (step : ∀ a, Inv a → execP Γ sp f c (H a) (S a) (hint a) (fun x g s _ => match x with
      | .normal => ∃ a', g.keep ts ls = H a' ∧ s = S a' ∧ Inv a' ∧ mu a' < mu a ∧ ∀ x g s, Post a' x g s → Post a x g s
      | x => Post a x g s)) :
    ∀ (n : Nat) (a : σ), mu a ≤ n → Inv a → ∀ g, g.keep ts ls = H a → ∃ x g' s', ExecN Γ f (.loop c) g (S a) x g' s' ∧ Post a x g' s' := by
  suffices h : ∀ (n : Nat) (a : σ), mu a ≤ n → Inv a → ∀ g, g.keep ts ls = H a → ∃ x g' s', LoopN Γ f c ts ls g (S a) x g' s' ∧ Post a x g' s' by
    intro n a hn hi g hg
    obtain ⟨x, g', s', h1, h2⟩ := h n a hn hi g hg
    exact ⟨x, g', s', ExecN.loop hl h1, h2⟩
  intro n
  induction n with
  | zero =>
    intro a hn hi g hg
    obtain ⟨x, g', s', h', E, K⟩ := execP_sound hsp _ _ _ _ _ (step a hi)
    rw [← hg] at E
    cases x with
    | normal => obtain ⟨a', _, _, _, hm, _⟩ := K; omega
    | exit j => exact ⟨_, _, _, LoopN.last (by simp) E, K⟩
    | ret => exact ⟨_, _, _, LoopN.last (by simp) E, K⟩
  | succ n ih =>
    intro a hn hi g hg
    obtain ⟨x, g', s', h', E, K⟩ := execP_sound hsp _ _ _ _ _ (step a hi)
    rw [← hg] at E
    cases x with
    | normal =>
      obtain ⟨a', k1, k2, k3, k4, k5⟩ := K
      obtain ⟨x, g2, s2, L, P⟩ := ih a' (by omega) k3 g' k1
      rw [← k2] at L
      exact ⟨x, g2, s2, LoopN.more E L, k5 _ _ _ P⟩
    | exit j => exact ⟨_, _, _, LoopN.last (by simp) E, K⟩
    | ret => exact ⟨_, _, _, LoopN.last (by simp) E, K⟩
end
end Go.Vm

namespace Go.Vm
noncomputable section

/-- Cells that lie in the store and may be written. -/
structure Has (s : St) (b : Nat) (cs : List AV) : Prop where
  get : s.objs.get b = some (.cells cs)
  lock : s.lock ≤ b
  next : b < s.next

def St.upd (s : St) (b : Nat) (cs : List AV) : St := { s with objs := s.objs.set b (.cells cs) }

theorem loadAt_hp {Γ : Ctx} {s : St} {t : TypeId} {b off : Nat} {cs : List AV} {v : AV} (h : Has s b cs) (hv : loadAt Γ t (some (cs, off)) = some v) : loadAt Γ t (deref Fr.empty s (.hp b off)) = some v := by
  have : deref Fr.empty s (.hp b off) = some (cs, off) := by simp [deref, St.cellsAt, h.get]
  rw [this]; exact hv

theorem storeB_upd {Γ : Ctx} {s : St} {t : TypeId} {b off : Nat} {cs : List AV} {v : AV} {i : TI} (h : Has s b cs) (hi : Γ.ty t = some i) (hv : (v.isPart && Nat.beq v.cells.length i.size) = true) (hl : Nat.ble (off + v.cells.length) cs.length = true) : storeB Γ s t (.hp b off) v = some (s.upd b (setAll cs off v.cells)) := by
  have hk : Nat.ble s.lock b = true := by rw [Nat.ble_eq]; exact h.lock
  simp only [storeB, hi, hv, cond_true, St.cellsAt, h.get, hk, hl, Bool.and_self]
  rfl

/-- A row that may be appended to. -/
structure HasRow (s : St) (id sz : Nat) : Prop where
  get : s.objs.get id = some (.grow sz)
  lock : s.lock ≤ id
  next : id < s.next

def St.grow0 (s : St) (sz : Nat) : St := { s with next := s.next + 1, objs := s.objs.set s.next (.grow sz) }
def St.grow1 (s : St) (id sz : Nat) : St := { s with next := s.next + 1, objs := (s.objs.put id none).set s.next (.grow sz) }

theorem append_nil {Γ : Ctx} {f : FuncId} {s : St} {d : Option Tmp} {t u : TypeId} {e e' : TypeId} {ti ui ei : TI} {tk : Tok} {y : AV} {ys : List AV} (ht : Γ.ty t = some ti) (hu : Γ.ty u = some ui) (hti : ti.und = .slice e) (hui : ui.und = .slice e') (he : Γ.ty e = some ei) (hh : d.any (Γ.hard f) = false)
    (hc : (Nat.blt 0 ei.size && Nat.blt 0 ei.bytes && sized ei.size (y :: ys) && ei.zero.any fun z => Nat.beq z.cells.size ei.size) = true) (hl : Nat.ble ((y :: ys).length * ei.bytes) 140737488355328 = true) :
    builtinX Γ f Fr.empty s d .append [t, u] [.sl .nil [], .sl tk (y :: ys)] = some (.sl (.tk s.next) (y :: ys), some (Fr.empty, s.grow0 ei.size)) := by
  have hl' : Nat.ble ((([] : List AV).length + (y :: ys).length) * ei.bytes) 140737488355328 = true := by simpa using hl
  simp only [builtinX, hu, hui, append, ht, hti, he, content, hc, cond_true, appendTo, hl', hh, grown, cond_false, List.nil_append, withSt]
  rfl

theorem append_tk {Γ : Ctx} {f : FuncId} {s : St} {d : Option Tmp} {t u : TypeId} {e e' : TypeId} {ti ui ei : TI} {tk : Tok} {id : Nat} {y : AV} {es ys : List AV} (h : HasRow s id ei.size) (ht : Γ.ty t = some ti) (hu : Γ.ty u = some ui) (hti : ti.und = .slice e) (hui : ui.und = .slice e') (he : Γ.ty e = some ei) (hh : d.any (Γ.hard f) = false)
    (hc : (Nat.blt 0 ei.size && Nat.blt 0 ei.bytes && sized ei.size (y :: ys) && ei.zero.any fun z => Nat.beq z.cells.size ei.size) = true) (hl : Nat.ble ((es.length + (y :: ys).length) * ei.bytes) 140737488355328 = true) :
    builtinX Γ f Fr.empty s d .append [t, u] [.sl (.tk id) es, .sl tk (y :: ys)] = some (.sl (.tk s.next) (es ++ y :: ys), some (Fr.empty, s.grow1 id ei.size)) := by
  have hk : Nat.ble s.lock id = true := by rw [Nat.ble_eq]; exact h.lock
  have hb : Nat.beq ei.size ei.size = true := Nat.beq_refl _
  simp only [builtinX, hu, hui, append, ht, hti, he, content, hc, cond_true, appendTo, hl, hh, h.get, hk, hb, Bool.and_self, Bool.not_false, grown, cond_false, withSt]
  rfl

/-! ### What stays -/

theorem Has.upd {s : St} {b : Nat} {cs cs' : List AV} (h : Has s b cs) : Has (s.upd b cs') b cs' :=
  ⟨by unfold St.upd; rw [Tr.get_set, if_pos rfl], h.lock, h.next⟩
theorem Has.upd_ne {s : St} {b b' : Nat} {cs cs' : List AV} (h : Has s b cs) (hb : b ≠ b') : Has (s.upd b' cs') b cs :=
  ⟨by unfold St.upd; rw [Tr.get_set, if_neg hb]; exact h.get, h.lock, h.next⟩
theorem HasRow.upd {s : St} {b b' sz : Nat} {cs' : List AV} (h : HasRow s b sz) (hb : b ≠ b') : HasRow (s.upd b' cs') b sz :=
  ⟨by unfold St.upd; rw [Tr.get_set, if_neg hb]; exact h.get, h.lock, h.next⟩

theorem Has.grow0 {s : St} {b sz : Nat} {cs : List AV} (h : Has s b cs) : Has (s.grow0 sz) b cs :=
  ⟨by have := h.next; unfold St.grow0; rw [Tr.get_set, if_neg (by omega)]; exact h.get, h.lock, by have := h.next; show b < s.next + 1; omega⟩
theorem Has.grow1 {s : St} {b id sz sz' : Nat} {cs : List AV} (h : Has s b cs) (hr : HasRow s id sz') : Has (s.grow1 id sz) b cs :=
  ⟨by
    have := h.next
    have hb : b ≠ id := fun e => by have h1 := h.get; have h2 := hr.get; rw [e, h2] at h1; cases h1
    unfold St.grow1; rw [Tr.get_set, if_neg (by omega), Tr.get_put, if_neg hb]; exact h.get, h.lock, by have := h.next; show b < s.next + 1; omega⟩
theorem HasRow.grow0 {s : St} {b sz sz' : Nat} (h : HasRow s b sz) : HasRow (s.grow0 sz') b sz :=
  ⟨by have := h.next; unfold St.grow0; rw [Tr.get_set, if_neg (by omega)]; exact h.get, h.lock, by have := h.next; show b < s.next + 1; omega⟩
theorem HasRow.new0 {s : St} {sz : Nat} (h : s.lock ≤ s.next) : HasRow (s.grow0 sz) s.next sz :=
  ⟨by unfold St.grow0; rw [Tr.get_set, if_pos rfl], h, Nat.lt_succ_self _⟩
theorem HasRow.new1 {s : St} {id sz : Nat} (h : s.lock ≤ s.next) : HasRow (s.grow1 id sz) s.next sz :=
  ⟨by unfold St.grow1; rw [Tr.get_set, if_pos rfl], h, Nat.lt_succ_self _⟩
end
end Go.Vm
