/-
  A small calculus for walking Go code: triples over an environment of known slots and a predicate on worlds. Proved over any program.
-/
import Derived.WalkKit
namespace Go.J
open Go.RowKit
set_option linter.unusedVariables false
set_option linter.unusedSimpArgs false

abbrev Env := List (Nat × Value)

def get : Env → Nat → Option Value
  | [], _ => none
  | (k, v) :: e, t => match Nat.beq k t with
    | true => some v
    | false => get e t

def Rep (n : Nat) (T : Array Value) (e : Env) : Prop := T.size = n ∧ ∀ t v, get e t = some v → T[t]? = some v

def ev (e : Env) : Operand → Option Value
  | .tmp t => get e t
  | .const v => some v
  | .global g => some (.pointer (some ⟨g, 0, none⟩))
  | .func f => some (.func (.func f) #[] #[])

abbrev act (T : Array Value) : Act := ⟨T, []⟩

theorem Rep.eval {n : Nat} {T : Array Value} {e : Env} {x : Operand} {v : Value} (h : Rep n T e) (hx : ev e x = some v) : (act T).eval x = v := by
  cases x with
  | tmp t =>
    have := h.2 t v hx
    show T.getD t undef = v
    rw [Array.getD_eq_getD_getElem?, this]; rfl
  | const c => simpa [ev, Act.eval] using hx
  | global g => simpa [ev, Act.eval] using hx
  | func f => simpa [ev, Act.eval] using hx

theorem Rep.put {n : Nat} {T : Array Value} {e : Env} (h : Rep n T e) {d : Nat} (hd : Nat.blt d n = true) (v : Value) :
    Rep n (T.setIfInBounds d v) ((d, v) :: e) := by
  have hd' : d < n := by simpa [Nat.blt_eq] using hd
  refine ⟨by simpa using h.1, fun t u hu => ?_⟩
  simp only [get] at hu
  by_cases hdt : d = t
  · subst hdt
    simp at hu
    subst hu
    simp [h.1, hd']
  · have hb : Nat.beq d t = false := Bool.eq_false_iff.2 fun h => hdt (Nat.eq_of_beq_eq_true h)
    rw [hb] at hu
    simp only at hu
    rw [Array.getElem?_setIfInBounds]
    rw [if_neg hdt]
    exact h.2 t u hu

/-- what e says, f says too -/
def Cov (e : Env) : Env → Prop
  | [] => True
  | (t, v) :: f => get e t = some v ∧ Cov e f

theorem Cov.get {e f : Env} (h : Cov e f) : ∀ t v, get f t = some v → get e t = some v := by
  induction f with
  | nil => intro t v h; simp [J.get] at h
  | cons p f ih =>
    obtain ⟨k, u⟩ := p
    intro t v hv
    simp only [J.get] at hv
    cases hb : Nat.beq k t with
    | true =>
      rw [hb] at hv
      simp only [Option.some.injEq] at hv
      subst hv
      have : k = t := by simpa using hb
      subst this
      exact h.1
    | false => rw [hb] at hv; exact ih h.2 t v hv

theorem Rep.cov {n : Nat} {T : Array Value} {e f : Env} (h : Rep n T e) (hc : Cov e f) : Rep n T f :=
  ⟨h.1, fun t v hv => h.2 t v (hc.get t v hv)⟩

section
variable (P : Program) (ops : Array Oper) (Q : Exit → Act → World → Prop) (n : Nat)
def J (rest : List Oper) (e : Env) (I : World → Prop) : Prop := ∀ T w, Rep n T e → I w → wpList P ops Q rest (act T) w
def JC (c : Code) (e : Env) (I : World → Prop) : Prop := ∀ T w, Rep n T e → I w → c.wp P Q (act T) w
def JX (x : Exit) (e : Env) (I : World → Prop) : Prop := ∀ T w, Rep n T e → I w → Q x (act T) w
end

section
variable {P : Program} {ops : Array Oper} {Q : Exit → Act → World → Prop} {n : Nat} {e : Env} {I I' : World → Prop} {rest : List Oper}

/- the world's side -/
theorem J.conseq (h : J P ops Q n rest e I') (hi : ∀ w, I w → I' w) : J P ops Q n rest e I := fun T w ht hw => h T w ht (hi w hw)
theorem J.cov {f : Env} (hc : Cov e f) (h : J P ops Q n rest f I) : J P ops Q n rest e I := fun T w ht hw => h T w (ht.cov hc) hw
theorem JC.conseq {c : Code} (h : JC P Q n c e I') (hi : ∀ w, I w → I' w) : JC P Q n c e I := fun T w ht hw => h T w ht (hi w hw)
theorem JC.cov {c : Code} {f : Env} (hc : Cov e f) (h : JC P Q n c f I) : JC P Q n c e I := fun T w ht hw => h T w (ht.cov hc) hw
theorem J.ex {α : Type} {I : α → World → Prop} (h : ∀ x, J P ops Q n rest e (I x)) : J P ops Q n rest e (fun w => ∃ x, I x w) :=
  fun T w ht ⟨x, hw⟩ => h x T w ht hw
theorem J.pr {p : Prop} (h : p → J P ops Q n rest e I) : J P ops Q n rest e (fun w => p ∧ I w) := fun T w ht ⟨hp, hw⟩ => h hp T w ht hw
theorem J.at (h : ∀ w0, I w0 → J P ops Q n rest e (fun w => I w ∧ w = w0)) : J P ops Q n rest e I := fun T w ht hw => h w hw T w ht ⟨hw, rfl⟩
theorem JC.ex {α : Type} {c : Code} {I : α → World → Prop} (h : ∀ x, JC P Q n c e (I x)) : JC P Q n c e (fun w => ∃ x, I x w) :=
  fun T w ht ⟨x, hw⟩ => h x T w ht hw
theorem JC.pr {c : Code} {p : Prop} (h : p → JC P Q n c e I) : JC P Q n c e (fun w => p ∧ I w) := fun T w ht ⟨hp, hw⟩ => h hp T w ht hw
theorem JX.ex {α : Type} {x : Exit} {I : α → World → Prop} (h : ∀ y, JX Q n x e (I y)) : JX Q n x e (fun w => ∃ y, I y w) :=
  fun T w ht ⟨y, hw⟩ => h y T w ht hw
theorem JX.pr {x : Exit} {p : Prop} (h : p → JX Q n x e I) : JX Q n x e (fun w => p ∧ I w) := fun T w ht ⟨hp, hw⟩ => h hp T w ht hw
theorem JX.conseq {x : Exit} (h : JX Q n x e I') (hi : ∀ w, I w → I' w) : JX Q n x e I := fun T w ht hw => h T w ht (hi w hw)
theorem JX.cov {x : Exit} {f : Env} (hc : Cov e f) (h : JX Q n x f I) : JX Q n x e I := fun T w ht hw => h T w (ht.cov hc) hw

/- code -/
theorem JC.seq {x y : Code} (h : ∀ K : Act → World → Prop, (∀ e' I', JC P Q n y e' I' → JX (fun _ => K) n .normal e' I') → JC P (Exit.then K Q) n x e I) : JC P Q n (.seq x y) e I :=
  fun T w ht hw => wp_seq (h (fun a w => y.wp P Q a w) (fun _ _ hy T w ht hw => hy T w ht hw) T w ht hw)
/-- a sequence, the second part walked once for all ends of the first -/
theorem JC.seqCut {α : Type} {x y : Code} (E : α → Env) (I2 : α → World → Prop) (hy : ∀ z, JC P Q n y (E z) (I2 z))
    (hx : ∀ K : Act → World → Prop, (∀ z, JX (fun _ => K) n .normal (E z) (I2 z)) → JC P (Exit.then K Q) n x e I) : JC P Q n (.seq x y) e I :=
  fun T w ht hw => wp_seq (hx (fun a w => y.wp P Q a w) (fun z T w ht hw => hy z T w ht hw) T w ht hw)
theorem JX.cut {x : Exit} {f : Env} (h : JX Q n x f I') (hc : Cov e f) (hi : ∀ w, I w → I' w) : JX Q n x e I := fun T w ht hw => h T w (ht.cov hc) (hi w hw)
theorem JC.skip (h : JX Q n .normal e I) : JC P Q n .skip e I := fun T w ht hw => wp_skip (h T w ht hw)
theorem JC.exit {i : Nat} (h : JX Q n (.exit i) e I) : JC P Q n (.exit i) e I := fun T w ht hw => wp_exit (h T w ht hw)
theorem JC.ret (h : JX Q n .ret e I) : JC P Q n .ret e I := fun T w ht hw => wp_ret (h T w ht hw)
theorem JC.block {i : Nat} {c : Code} (h : JC P (Exit.inBlock i Q) n c e I) : JC P Q n (.block i c) e I := fun T w ht hw => wp_block (h T w ht hw)
theorem JC.condT {c : Operand} {x y : Code} (hc : ev e c = some (.bool true)) (h : JC P Q n x e I) : JC P Q n (.cond c x y) e I :=
  fun T w ht hw => wp_cond_true (ht.eval hc) (h T w ht hw)
theorem JC.condF {c : Operand} {x y : Code} (hc : ev e c = some (.bool false)) (h : JC P Q n y e I) : JC P Q n (.cond c x y) e I :=
  fun T w ht hw => wp_cond_false (ht.eval hc) (h T w ht hw)
theorem JC.cond {c : Operand} {x y : Code} {b : Bool} (hc : ev e c = some (.bool b)) (h1 : b = true → JC P Q n x e I) (h2 : b = false → JC P Q n y e I) : JC P Q n (.cond c x y) e I :=
  fun T w ht hw => wp_cond_split (ht.eval hc) (fun h => h1 h T w ht hw) (fun h => h2 h T w ht hw)
theorem JC.region {id : Nat} {l : List Oper} (h : J P l.toArray Q n l e I) : JC P Q n (.region id l.toArray false) e I :=
  fun T w ht hw => wp_region_lit (h T w ht hw)
theorem J.nil (h : JX Q n .normal e I) : J P ops Q n [] e I := fun T w ht hw => wpList_nil (h T w ht hw)

/- exits -/
theorem JX.thenN {K : Act → World → Prop} (h : JX (fun _ => K) n .normal e I) : JX (Exit.then K Q) n .normal e I := h
theorem JX.thenE {K : Act → World → Prop} {i : Nat} (h : JX Q n (.exit i) e I) : JX (Exit.then K Q) n (.exit i) e I := h
theorem JX.thenR {K : Act → World → Prop} (h : JX Q n .ret e I) : JX (Exit.then K Q) n .ret e I := h
theorem JX.blockN {i : Nat} (h : JX Q n .normal e I) : JX (Exit.inBlock i Q) n .normal e I := h
theorem JX.blockR {i : Nat} (h : JX Q n .ret e I) : JX (Exit.inBlock i Q) n .ret e I := h
theorem JX.blockE {i : Nat} (h : JX Q n .normal e I) : JX (Exit.inBlock i Q) n (.exit i) e I :=
  fun T w ht hw => by simpa [Exit.inBlock] using h T w ht hw
theorem JX.blockO {i j : Nat} (hj : Nat.beq j i = false) (h : JX Q n (.exit j) e I) : JX (Exit.inBlock i Q) n (.exit j) e I :=
  fun T w ht hw => by
    have : j ≠ i := fun h => by subst h; simp at hj
    simpa [Exit.inBlock, this] using h T w ht hw

/-- a loop: states told by x : α -/
theorem JC.loop {α : Type} {c : Code} (E : α → Env) (I : α → World → Prop) (μ : α → Nat) (x0 : α)
    (round : ∀ x, JC P (Exit.then (fun a w => ∃ y, μ y < μ x ∧ a.defers = [] ∧ Rep n a.tmps (E y) ∧ I y w) Q) n c (E x) (I x)) : JC P Q n (.loop c) (E x0) (I x0) := by
  intro T0 w0 ht0 hw0
  have key : ∀ m, ∀ x, μ x = m → ∀ T w, Rep n T (E x) → I x w → ∀ (b : Frame) (k : List Item) (cs : List Frame),
      ∃ e a' w', Q e a' w' ∧ Arrives P (lone (b.at (act T) (.code c :: .inLoop c :: k)) cs w) b k cs e a' w' := by
    intro m
    induction m using Nat.strongRecOn with
    | _ m ih =>
      intro x hx T w ht hw b k cs
      obtain ⟨e, a₁, w₁, hq, harr⟩ := round x T w ht hw b (.inLoop c :: k) cs
      cases e with
      | normal =>
        obtain ⟨y, hlt, hd, hr, hI⟩ := hq
        obtain ⟨t1, d1⟩ := a₁
        simp only at hd hr
        subst hd
        obtain ⟨e₂, a₂, w₂, hq₂, harr₂⟩ := ih (μ y) (hx ▸ hlt) y rfl t1 w₁ hr hI b k cs
        exact ⟨e₂, a₂, w₂, hq₂, .of_steps (Steps.trans harr (.one step_inLoop)) harr₂⟩
      | exit id => exact ⟨_, a₁, w₁, hq, .pass (x := .inLoop c) rfl (fun _ _ => .inl (by simp)) harr⟩
      | goto l => exact ⟨_, a₁, w₁, hq, .pass (x := .inLoop c) rfl (fun _ _ => .inl (by simp)) harr⟩
      | ret => exact ⟨_, a₁, w₁, hq, .pass (x := .inLoop c) rfl (fun _ _ => .inl (by simp)) harr⟩
      | panic ch => exact ⟨_, a₁, w₁, hq, .pass (x := .inLoop c) rfl (fun _ _ => .inl (by simp)) harr⟩
      | outgrown => exact ⟨_, a₁, w₁, hq, .pass (x := .inLoop c) rfl (fun _ _ => .inl (by simp)) harr⟩
  intro b k cs
  obtain ⟨e, a', w', hq, harr⟩ := key _ x0 rfl T0 w0 ht0 hw0 b k cs
  exact ⟨e, a', w', hq, .of_steps (.one step_loop) harr⟩

/-- the round's end -/
theorem JX.again {α : Type} {E : α → Env} {I : α → World → Prop} {μ : α → Nat} {m : Nat} (y : α) (hμ : μ y < m) (hc : Cov e (E y)) {I₀ : World → Prop} (hi : ∀ w, I₀ w → I y w) :
    JX (fun _ a w => ∃ y, μ y < m ∧ a.defers = [] ∧ Rep n a.tmps (E y) ∧ I y w) n .normal e I₀ :=
  fun _ w ht hw => ⟨y, hμ, rfl, ht.cov hc, hi w hw⟩

/- guards -/
theorem J.unguard {d : Option Nat} {o : Op} {t : Nat} {p : String} {af : Array Edge} {j : Nat} {want : Bool} {oj : Oper} {dj : Nat}
    (hj : ops[j]? = some oj) (hdj : oj.dst = some dj) (hv : get e dj = some (.bool want))
    (h : J P ops Q n (⟨d, o, t, p, af, none⟩ :: rest) e I) : J P ops Q n (⟨d, o, t, p, af, some (j, want)⟩ :: rest) e I := by
  intro T w ht hw
  have hy : yielded ops T j = some want := by
    have := ht.2 dj _ hv
    simp [yielded, hj, hdj, this]
  have h1 := h T w ht hw
  unfold wpList at h1 ⊢
  have e1 : Region.wanted ⟨d, o, t, p, af, some (j, want)⟩ (yielded ops T) = true := by simp [Region.wanted, hy]
  have e2 : Region.wanted ⟨d, o, t, p, af, none⟩ (yielded ops T) = true := by simp [Region.wanted]
  rw [if_pos e1]
  rw [if_pos e2] at h1
  exact h1
theorem J.skip {d : Nat} {o : Op} {t : Nat} {p : String} {af : Array Edge} {j : Nat} {want b : Bool} {oj : Oper} {dj : Nat}
    (hj : ops[j]? = some oj) (hdj : oj.dst = some dj) (hv : get e dj = some (.bool b)) (hb : (b == want) = false) (hd : Nat.blt d n = true)
    (h : J P ops Q n rest ((d, undef) :: e) I) : J P ops Q n (⟨some d, o, t, p, af, some (j, want)⟩ :: rest) e I := by
  intro T w ht hw
  have hy : yielded ops T j = some b := by
    have := ht.2 dj _ hv
    simp [yielded, hj, hdj, this]
  refine wpList_skip (by simpa [Region.wanted, hy] using hb) ?_
  exact h _ w (ht.put hd undef) hw
/-- the guard's own slot was passed over: so is this -/
theorem J.skipU {d : Nat} {o : Op} {t : Nat} {p : String} {af : Array Edge} {j : Nat} {want : Bool} {oj : Oper} {dj : Nat}
    (hj : ops[j]? = some oj) (hdj : oj.dst = some dj) (hv : get e dj = some undef) (hd : Nat.blt d n = true)
    (h : J P ops Q n rest ((d, undef) :: e) I) : J P ops Q n (⟨some d, o, t, p, af, some (j, want)⟩ :: rest) e I := by
  intro T w ht hw
  have hy : yielded ops T j = none := by
    have := ht.2 dj _ hv
    simp [yielded, hj, hdj, this, undef]
  refine wpList_skip (by simp [Region.wanted, hy]) ?_
  exact h _ w (ht.put hd undef) hw
theorem J.split {b : Bool} (t : Nat) (hv : get e t = some (.bool b)) (h1 : b = true → J P ops Q n rest ((t, .bool true) :: e) I) (h2 : b = false → J P ops Q n rest ((t, .bool false) :: e) I) :
    J P ops Q n rest e I := by
  intro T w ht hw
  have key : ∀ c : Bool, b = c → Rep n T ((t, .bool c) :: e) := by
    intro c hc
    subst hc
    refine ⟨ht.1, fun u x hx => ?_⟩
    simp only [J.get] at hx
    cases hb : Nat.beq t u with
    | true =>
      rw [hb] at hx
      have : t = u := by simpa using hb
      subst this
      simp only at hx
      exact ht.2 t x (hv.trans hx)
    | false => rw [hb] at hx; exact ht.2 u x hx
  cases hb : b with
  | true => exact h1 hb T w (key true hb) hw
  | false => exact h2 hb T w (key false hb) hw
/-- a slot's value by another name -/
theorem J.name {v v' : Value} (t : Nat) (hv : get e t = some v) (hvv : v = v') (h : J P ops Q n rest ((t, v') :: e) I) : J P ops Q n rest e I := by
  subst hvv
  intro T w ht hw
  refine h T w ⟨ht.1, fun u x hx => ?_⟩ hw
  simp only [J.get] at hx
  cases hb : Nat.beq t u with
  | true =>
    rw [hb] at hx
    have : t = u := by simpa using hb
    subst this
    simp only at hx
    exact ht.2 t x (hv.trans hx)
  | false => rw [hb] at hx; exact ht.2 u x hx

/- one operation that yields a value -/
theorem J.value {d : Nat} {o : Op} {t : Nat} {p : String} {af : Array Edge} {v : Value} (hd : Nat.blt d n = true)
    (hrun : ∀ T w, Rep n T e → I w → ∃ w', (execOp (act T).eval ⟨some d, o, t, p, af, none⟩).run P w = .ok (.value v) w' ∧ I' w')
    (h : J P ops Q n rest ((d, v) :: e) I') : J P ops Q n (⟨some d, o, t, p, af, none⟩ :: rest) e I := by
  intro T w ht hw
  obtain ⟨w', hr, hi⟩ := hrun T w ht hw
  refine wpList_plain rfl fun K hK => ?_
  simp only [Oper.wp, hr, Oper.upon]
  exact hK _ _ (h _ w' (ht.put hd v) hi)
theorem J.valueEx {α : Type} {V : α → Value} {I' : α → World → Prop} {d : Nat} {o : Op} {t : Nat} {p : String} {af : Array Edge} (hd : Nat.blt d n = true)
    (hrun : ∀ T w, Rep n T e → I w → ∃ x w', (execOp (act T).eval ⟨some d, o, t, p, af, none⟩).run P w = .ok (.value (V x)) w' ∧ I' x w')
    (h : ∀ x, J P ops Q n rest ((d, V x) :: e) (I' x)) : J P ops Q n (⟨some d, o, t, p, af, none⟩ :: rest) e I := by
  intro T w ht hw
  obtain ⟨x, w', hr, hi⟩ := hrun T w ht hw
  refine wpList_plain rfl fun K hK => ?_
  simp only [Oper.wp, hr, Oper.upon]
  exact hK _ _ (h x _ w' (ht.put hd _) hi)
theorem J.valueN {o : Op} {t : Nat} {p : String} {af : Array Edge}
    (hrun : ∀ T w, Rep n T e → I w → ∃ v w', (execOp (act T).eval ⟨none, o, t, p, af, none⟩).run P w = .ok (.value v) w' ∧ I' w')
    (h : J P ops Q n rest e I') : J P ops Q n (⟨none, o, t, p, af, none⟩ :: rest) e I := by
  intro T w ht hw
  obtain ⟨v, w', hr, hi⟩ := hrun T w ht hw
  refine wpList_plain rfl fun K hK => ?_
  simp only [Oper.wp, hr, Oper.upon]
  exact hK _ _ (h _ w' ht hi)
theorem J.skipN {o : Op} {t : Nat} {p : String} {af : Array Edge}
    (hrun : ∀ T w, Rep n T e → I w → ∃ w', (execOp (act T).eval ⟨none, o, t, p, af, none⟩).run P w = .ok .skip w' ∧ I' w')
    (h : J P ops Q n rest e I') : J P ops Q n (⟨none, o, t, p, af, none⟩ :: rest) e I := by
  intro T w ht hw
  obtain ⟨w', hr, hi⟩ := hrun T w ht hw
  refine wpList_plain rfl fun K hK => ?_
  simp only [Oper.wp, hr, Oper.upon]
  exact hK _ _ (h _ w' ht hi)
end
end Go.J
