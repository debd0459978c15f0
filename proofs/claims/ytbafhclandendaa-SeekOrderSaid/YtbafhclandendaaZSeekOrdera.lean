/-
  SeekOrder: texts that its proof needs, part 1.
-/
import Derived.WalkKit
import Derived.StillTail
import Derived.Test.YtbafhclandendaaProg
import Derived.DeepKeys3
import Derived.MapKept
import Derived.Sort.Grow
import Derived.Deep.Draws
import Derived.Shelf.SlSortCmp.NoneTotal
import Derived.Shelf.SlGeneric
import Derived.ProofKit
import Derived.OpenShut
import Derived.ShutString
import Derived.ChangeOld
import Derived.Deep.Slices
import Derived.SizedLaws
import Derived.RangeFuncRecord
import Derived.TacticsIn
import Derived.Maps.RangeRun
/-
  A small calculus for walking Go code: triples over an environment of known slots and a predicate on worlds. Proved over any program.
-/
namespace Go.J
open Go.RowKit
set_option linter.unusedVariables false
set_option linter.unusedSimpArgs false

abbrev Env := List (Nat × Value)

def get : Env → Nat → Option Value
  | [], _ => none
  | (k, v) :: e, t => match Nat.beq k t with
    | true => some v
    | false => get e t

def Rep (n : Nat) (T : Array Value) (e : Env) : Prop := T.size = n ∧ ∀ t v, get e t = some v → T[t]? = some v

def ev (e : Env) : Operand → Option Value
  | .tmp t => get e t
  | .const v => some v
  | .global g => some (.pointer (some ⟨g, 0, none⟩))
  | .func f => some (.func (.func f) #[] #[])

abbrev act (T : Array Value) : Act := ⟨T, []⟩

theorem Rep.eval {n : Nat} {T : Array Value} {e : Env} {x : Operand} {v : Value} (h : Rep n T e) (hx : ev e x = some v) : (act T).eval x = v := by
  cases x with
  | tmp t =>
    have := h.2 t v hx
    show T.getD t undef = v
    rw [Array.getD_eq_getD_getElem?, this]; rfl
  | const c => simpa [ev, Act.eval] using hx
  | global g => simpa [ev, Act.eval] using hx
  | func f => simpa [ev, Act.eval] using hx

theorem Rep.put {n : Nat} {T : Array Value} {e : Env} (h : Rep n T e) {d : Nat} (hd : Nat.blt d n = true) (v : Value) :
    Rep n (T.setIfInBounds d v) ((d, v) :: e) := by
  have hd' : d < n := by simpa [Nat.blt_eq] using hd
  refine ⟨by simpa using h.1, fun t u hu => ?_⟩
  simp only [get] at hu
  by_cases hdt : d = t
  · subst hdt
    simp at hu
    subst hu
    simp [h.1, hd']
  · have hb : Nat.beq d t = false := Bool.eq_false_iff.2 fun h => hdt (Nat.eq_of_beq_eq_true h)
    rw [hb] at hu
    simp only at hu
    rw [Array.getElem?_setIfInBounds]
    rw [if_neg hdt]
    exact h.2 t u hu

/-- what e says, f says too -/
def Cov (e : Env) : Env → Prop
  | [] => True
  | (t, v) :: f => get e t = some v ∧ Cov e f

theorem Cov.get {e f : Env} (h : Cov e f) : ∀ t v, get f t = some v → get e t = some v := by
  induction f with
  | nil => intro t v h; simp [J.get] at h
  | cons p f ih =>
    obtain ⟨k, u⟩ := p
    intro t v hv
    simp only [J.get] at hv
    cases hb : Nat.beq k t with
    | true =>
      rw [hb] at hv
      simp only [Option.some.injEq] at hv
      subst hv
      have : k = t := by simpa using hb
      subst this
      exact h.1
    | false => rw [hb] at hv; exact ih h.2 t v hv

theorem Rep.cov {n : Nat} {T : Array Value} {e f : Env} (h : Rep n T e) (hc : Cov e f) : Rep n T f :=
  ⟨h.1, fun t v hv => h.2 t v (hc.get t v hv)⟩

section
variable (P : Program) (ops : Array Oper) (Q : Exit → Act → World → Prop) (n : Nat)
def J (rest : List Oper) (e : Env) (I : World → Prop) : Prop := ∀ T w, Rep n T e → I w → wpList P ops Q rest (act T) w
def JC (c : Code) (e : Env) (I : World → Prop) : Prop := ∀ T w, Rep n T e → I w → c.wp P Q (act T) w
def JX (x : Exit) (e : Env) (I : World → Prop) : Prop := ∀ T w, Rep n T e → I w → Q x (act T) w
end

section
variable {P : Program} {ops : Array Oper} {Q : Exit → Act → World → Prop} {n : Nat} {e : Env} {I I' : World → Prop} {rest : List Oper}

/- the world's side -/
theorem J.conseq (h : J P ops Q n rest e I') (hi : ∀ w, I w → I' w) : J P ops Q n rest e I := fun T w ht hw => h T w ht (hi w hw)
theorem J.cov {f : Env} (hc : Cov e f) (h : J P ops Q n rest f I) : J P ops Q n rest e I := fun T w ht hw => h T w (ht.cov hc) hw
theorem JC.conseq {c : Code} (h : JC P Q n c e I') (hi : ∀ w, I w → I' w) : JC P Q n c e I := fun T w ht hw => h T w ht (hi w hw)
theorem JC.cov {c : Code} {f : Env} (hc : Cov e f) (h : JC P Q n c f I) : JC P Q n c e I := fun T w ht hw => h T w (ht.cov hc) hw
theorem J.ex {α : Type} {I : α → World → Prop} (h : ∀ x, J P ops Q n rest e (I x)) : J P ops Q n rest e (fun w => ∃ x, I x w) :=
  fun T w ht ⟨x, hw⟩ => h x T w ht hw
theorem J.pr {p : Prop} (h : p → J P ops Q n rest e I) : J P ops Q n rest e (fun w => p ∧ I w) := fun T w ht ⟨hp, hw⟩ => h hp T w ht hw
theorem J.at (h : ∀ w0, I w0 → J P ops Q n rest e (fun w => I w ∧ w = w0)) : J P ops Q n rest e I := fun T w ht hw => h w hw T w ht ⟨hw, rfl⟩
theorem JC.ex {α : Type} {c : Code} {I : α → World → Prop} (h : ∀ x, JC P Q n c e (I x)) : JC P Q n c e (fun w => ∃ x, I x w) :=
  fun T w ht ⟨x, hw⟩ => h x T w ht hw
theorem JC.pr {c : Code} {p : Prop} (h : p → JC P Q n c e I) : JC P Q n c e (fun w => p ∧ I w) := fun T w ht ⟨hp, hw⟩ => h hp T w ht hw
theorem JX.ex {α : Type} {x : Exit} {I : α → World → Prop} (h : ∀ y, JX Q n x e (I y)) : JX Q n x e (fun w => ∃ y, I y w) :=
  fun T w ht ⟨y, hw⟩ => h y T w ht hw
theorem JX.pr {x : Exit} {p : Prop} (h : p → JX Q n x e I) : JX Q n x e (fun w => p ∧ I w) := fun T w ht ⟨hp, hw⟩ => h hp T w ht hw
theorem JX.conseq {x : Exit} (h : JX Q n x e I') (hi : ∀ w, I w → I' w) : JX Q n x e I := fun T w ht hw => h T w ht (hi w hw)
theorem JX.cov {x : Exit} {f : Env} (hc : Cov e f) (h : JX Q n x f I) : JX Q n x e I := fun T w ht hw => h T w (ht.cov hc) hw

/- code -/
theorem JC.seq {x y : Code} (h : ∀ K : Act → World → Prop, (∀ e' I', JC P Q n y e' I' → JX (fun _ => K) n .normal e' I') → JC P (Exit.then K Q) n x e I) : JC P Q n (.seq x y) e I :=
  fun T w ht hw => wp_seq (h (fun a w => y.wp P Q a w) (fun _ _ hy T w ht hw => hy T w ht hw) T w ht hw)
/-- a sequence, the second part walked once for all ends of the first -/
theorem JC.seqCut {α : Type} {x y : Code} (E : α → Env) (I2 : α → World → Prop) (hy : ∀ z, JC P Q n y (E z) (I2 z))
    (hx : ∀ K : Act → World → Prop, (∀ z, JX (fun _ => K) n .normal (E z) (I2 z)) → JC P (Exit.then K Q) n x e I) : JC P Q n (.seq x y) e I :=
  fun T w ht hw => wp_seq (hx (fun a w => y.wp P Q a w) (fun z T w ht hw => hy z T w ht hw) T w ht hw)
theorem JX.cut {x : Exit} {f : Env} (h : JX Q n x f I') (hc : Cov e f) (hi : ∀ w, I w → I' w) : JX Q n x e I := fun T w ht hw => h T w (ht.cov hc) (hi w hw)
theorem JC.skip (h : JX Q n .normal e I) : JC P Q n .skip e I := fun T w ht hw => wp_skip (h T w ht hw)
theorem JC.exit {i : Nat} (h : JX Q n (.exit i) e I) : JC P Q n (.exit i) e I := fun T w ht hw => wp_exit (h T w ht hw)
theorem JC.ret (h : JX Q n .ret e I) : JC P Q n .ret e I := fun T w ht hw => wp_ret (h T w ht hw)
theorem JC.block {i : Nat} {c : Code} (h : JC P (Exit.inBlock i Q) n c e I) : JC P Q n (.block i c) e I := fun T w ht hw => wp_block (h T w ht hw)
theorem JC.condT {c : Operand} {x y : Code} (hc : ev e c = some (.bool true)) (h : JC P Q n x e I) : JC P Q n (.cond c x y) e I :=
  fun T w ht hw => wp_cond_true (ht.eval hc) (h T w ht hw)
theorem JC.condF {c : Operand} {x y : Code} (hc : ev e c = some (.bool false)) (h : JC P Q n y e I) : JC P Q n (.cond c x y) e I :=
  fun T w ht hw => wp_cond_false (ht.eval hc) (h T w ht hw)
theorem JC.cond {c : Operand} {x y : Code} {b : Bool} (hc : ev e c = some (.bool b)) (h1 : b = true → JC P Q n x e I) (h2 : b = false → JC P Q n y e I) : JC P Q n (.cond c x y) e I :=
  fun T w ht hw => wp_cond_split (ht.eval hc) (fun h => h1 h T w ht hw) (fun h => h2 h T w ht hw)
theorem JC.region {id : Nat} {l : List Oper} (h : J P l.toArray Q n l e I) : JC P Q n (.region id l.toArray false) e I :=
  fun T w ht hw => wp_region_lit (h T w ht hw)
theorem J.nil (h : JX Q n .normal e I) : J P ops Q n [] e I := fun T w ht hw => wpList_nil (h T w ht hw)

/- exits -/
theorem JX.thenN {K : Act → World → Prop} (h : JX (fun _ => K) n .normal e I) : JX (Exit.then K Q) n .normal e I := h
theorem JX.thenE {K : Act → World → Prop} {i : Nat} (h : JX Q n (.exit i) e I) : JX (Exit.then K Q) n (.exit i) e I := h
theorem JX.thenR {K : Act → World → Prop} (h : JX Q n .ret e I) : JX (Exit.then K Q) n .ret e I := h
theorem JX.blockN {i : Nat} (h : JX Q n .normal e I) : JX (Exit.inBlock i Q) n .normal e I := h
theorem JX.blockR {i : Nat} (h : JX Q n .ret e I) : JX (Exit.inBlock i Q) n .ret e I := h
theorem JX.blockE {i : Nat} (h : JX Q n .normal e I) : JX (Exit.inBlock i Q) n (.exit i) e I :=
  fun T w ht hw => by simpa [Exit.inBlock] using h T w ht hw
/-- a loop: states told by x : α -/
theorem JC.loop {α : Type} {c : Code} (E : α → Env) (I : α → World → Prop) (μ : α → Nat) (x0 : α)
    (round : ∀ x, JC P (Exit.then (fun a w => ∃ y, μ y < μ x ∧ a.defers = [] ∧ Rep n a.tmps (E y) ∧ I y w) Q) n c (E x) (I x)) : JC P Q n (.loop c) (E x0) (I x0) := by
  intro T0 w0 ht0 hw0
  have key : ∀ m, ∀ x, μ x = m → ∀ T w, Rep n T (E x) → I x w → ∀ (b : Frame) (k : List Item) (cs : List Frame),
      ∃ e a' w', Q e a' w' ∧ Arrives P (lone (b.at (act T) (.code c :: .inLoop c :: k)) cs w) b k cs e a' w' := by
    intro m
    induction m using Nat.strongRecOn with
    | _ m ih =>
      intro x hx T w ht hw b k cs
      obtain ⟨e, a₁, w₁, hq, harr⟩ := round x T w ht hw b (.inLoop c :: k) cs
      cases e with
      | normal =>
        obtain ⟨y, hlt, hd, hr, hI⟩ := hq
        obtain ⟨t1, d1⟩ := a₁
        simp only at hd hr
        subst hd
        obtain ⟨e₂, a₂, w₂, hq₂, harr₂⟩ := ih (μ y) (hx ▸ hlt) y rfl t1 w₁ hr hI b k cs
        exact ⟨e₂, a₂, w₂, hq₂, .of_steps (Steps.trans harr (.one step_inLoop)) harr₂⟩
      | exit id => exact ⟨_, a₁, w₁, hq, .pass (x := .inLoop c) rfl (fun _ _ => .inl (by simp)) harr⟩
      | goto l => exact ⟨_, a₁, w₁, hq, .pass (x := .inLoop c) rfl (fun _ _ => .inl (by simp)) harr⟩
      | ret => exact ⟨_, a₁, w₁, hq, .pass (x := .inLoop c) rfl (fun _ _ => .inl (by simp)) harr⟩
      | panic ch => exact ⟨_, a₁, w₁, hq, .pass (x := .inLoop c) rfl (fun _ _ => .inl (by simp)) harr⟩
      | outgrown => exact ⟨_, a₁, w₁, hq, .pass (x := .inLoop c) rfl (fun _ _ => .inl (by simp)) harr⟩
  intro b k cs
  obtain ⟨e, a', w', hq, harr⟩ := key _ x0 rfl T0 w0 ht0 hw0 b k cs
  exact ⟨e, a', w', hq, .of_steps (.one step_loop) harr⟩

/-- the round's end -/
theorem JX.again {α : Type} {E : α → Env} {I : α → World → Prop} {μ : α → Nat} {m : Nat} (y : α) (hμ : μ y < m) (hc : Cov e (E y)) {I₀ : World → Prop} (hi : ∀ w, I₀ w → I y w) :
    JX (fun _ a w => ∃ y, μ y < m ∧ a.defers = [] ∧ Rep n a.tmps (E y) ∧ I y w) n .normal e I₀ :=
  fun _ w ht hw => ⟨y, hμ, rfl, ht.cov hc, hi w hw⟩

/- guards -/
theorem J.unguard {d : Option Nat} {o : Op} {t : Nat} {p : String} {af : Array Edge} {j : Nat} {want : Bool} {oj : Oper} {dj : Nat}
    (hj : ops[j]? = some oj) (hdj : oj.dst = some dj) (hv : get e dj = some (.bool want))
    (h : J P ops Q n (⟨d, o, t, p, af, none⟩ :: rest) e I) : J P ops Q n (⟨d, o, t, p, af, some (j, want)⟩ :: rest) e I := by
  intro T w ht hw
  have hy : yielded ops T j = some want := by
    have := ht.2 dj _ hv
    simp [yielded, hj, hdj, this]
  have h1 := h T w ht hw
  unfold wpList at h1 ⊢
  have e1 : Region.wanted ⟨d, o, t, p, af, some (j, want)⟩ (yielded ops T) = true := by simp [Region.wanted, hy]
  have e2 : Region.wanted ⟨d, o, t, p, af, none⟩ (yielded ops T) = true := by simp [Region.wanted]
  rw [if_pos e1]
  rw [if_pos e2] at h1
  exact h1
theorem J.skip {d : Nat} {o : Op} {t : Nat} {p : String} {af : Array Edge} {j : Nat} {want b : Bool} {oj : Oper} {dj : Nat}
    (hj : ops[j]? = some oj) (hdj : oj.dst = some dj) (hv : get e dj = some (.bool b)) (hb : (b == want) = false) (hd : Nat.blt d n = true)
    (h : J P ops Q n rest ((d, undef) :: e) I) : J P ops Q n (⟨some d, o, t, p, af, some (j, want)⟩ :: rest) e I := by
  intro T w ht hw
  have hy : yielded ops T j = some b := by
    have := ht.2 dj _ hv
    simp [yielded, hj, hdj, this]
  refine wpList_skip (by simpa [Region.wanted, hy] using hb) ?_
  exact h _ w (ht.put hd undef) hw
/-- the guard's own slot was passed over: so is this -/
theorem J.skipU {d : Nat} {o : Op} {t : Nat} {p : String} {af : Array Edge} {j : Nat} {want : Bool} {oj : Oper} {dj : Nat}
    (hj : ops[j]? = some oj) (hdj : oj.dst = some dj) (hv : get e dj = some undef) (hd : Nat.blt d n = true)
    (h : J P ops Q n rest ((d, undef) :: e) I) : J P ops Q n (⟨some d, o, t, p, af, some (j, want)⟩ :: rest) e I := by
  intro T w ht hw
  have hy : yielded ops T j = none := by
    have := ht.2 dj _ hv
    simp [yielded, hj, hdj, this, undef]
  refine wpList_skip (by simp [Region.wanted, hy]) ?_
  exact h _ w (ht.put hd undef) hw
theorem J.split {b : Bool} (t : Nat) (hv : get e t = some (.bool b)) (h1 : b = true → J P ops Q n rest ((t, .bool true) :: e) I) (h2 : b = false → J P ops Q n rest ((t, .bool false) :: e) I) :
    J P ops Q n rest e I := by
  intro T w ht hw
  have key : ∀ c : Bool, b = c → Rep n T ((t, .bool c) :: e) := by
    intro c hc
    subst hc
    refine ⟨ht.1, fun u x hx => ?_⟩
    simp only [J.get] at hx
    cases hb : Nat.beq t u with
    | true =>
      rw [hb] at hx
      have : t = u := by simpa using hb
      subst this
      simp only at hx
      exact ht.2 t x (hv.trans hx)
    | false => rw [hb] at hx; exact ht.2 u x hx
  cases hb : b with
  | true => exact h1 hb T w (key true hb) hw
  | false => exact h2 hb T w (key false hb) hw
/-- a slot's value by another name -/
theorem J.name {v v' : Value} (t : Nat) (hv : get e t = some v) (hvv : v = v') (h : J P ops Q n rest ((t, v') :: e) I) : J P ops Q n rest e I := by
  subst hvv
  intro T w ht hw
  refine h T w ⟨ht.1, fun u x hx => ?_⟩ hw
  simp only [J.get] at hx
  cases hb : Nat.beq t u with
  | true =>
    rw [hb] at hx
    have : t = u := by simpa using hb
    subst this
    simp only at hx
    exact ht.2 t x (hv.trans hx)
  | false => rw [hb] at hx; exact ht.2 u x hx

/- one operation that yields a value -/
theorem J.value {d : Nat} {o : Op} {t : Nat} {p : String} {af : Array Edge} {v : Value} (hd : Nat.blt d n = true)
    (hrun : ∀ T w, Rep n T e → I w → ∃ w', (execOp (act T).eval ⟨some d, o, t, p, af, none⟩).run P w = .ok (.value v) w' ∧ I' w')
    (h : J P ops Q n rest ((d, v) :: e) I') : J P ops Q n (⟨some d, o, t, p, af, none⟩ :: rest) e I := by
  intro T w ht hw
  obtain ⟨w', hr, hi⟩ := hrun T w ht hw
  refine wpList_plain rfl fun K hK => ?_
  simp only [Oper.wp, hr, Oper.upon]
  exact hK _ _ (h _ w' (ht.put hd v) hi)
theorem J.valueEx {α : Type} {V : α → Value} {I' : α → World → Prop} {d : Nat} {o : Op} {t : Nat} {p : String} {af : Array Edge} (hd : Nat.blt d n = true)
    (hrun : ∀ T w, Rep n T e → I w → ∃ x w', (execOp (act T).eval ⟨some d, o, t, p, af, none⟩).run P w = .ok (.value (V x)) w' ∧ I' x w')
    (h : ∀ x, J P ops Q n rest ((d, V x) :: e) (I' x)) : J P ops Q n (⟨some d, o, t, p, af, none⟩ :: rest) e I := by
  intro T w ht hw
  obtain ⟨x, w', hr, hi⟩ := hrun T w ht hw
  refine wpList_plain rfl fun K hK => ?_
  simp only [Oper.wp, hr, Oper.upon]
  exact hK _ _ (h x _ w' (ht.put hd _) hi)
theorem J.valueN {o : Op} {t : Nat} {p : String} {af : Array Edge}
    (hrun : ∀ T w, Rep n T e → I w → ∃ v w', (execOp (act T).eval ⟨none, o, t, p, af, none⟩).run P w = .ok (.value v) w' ∧ I' w')
    (h : J P ops Q n rest e I') : J P ops Q n (⟨none, o, t, p, af, none⟩ :: rest) e I := by
  intro T w ht hw
  obtain ⟨v, w', hr, hi⟩ := hrun T w ht hw
  refine wpList_plain rfl fun K hK => ?_
  simp only [Oper.wp, hr, Oper.upon]
  exact hK _ _ (h _ w' ht hi)
theorem J.skipN {o : Op} {t : Nat} {p : String} {af : Array Edge}
    (hrun : ∀ T w, Rep n T e → I w → ∃ w', (execOp (act T).eval ⟨none, o, t, p, af, none⟩).run P w = .ok .skip w' ∧ I' w')
    (h : J P ops Q n rest e I') : J P ops Q n (⟨none, o, t, p, af, none⟩ :: rest) e I := by
  intro T w ht hw
  obtain ⟨w', hr, hi⟩ := hrun T w ht hw
  refine wpList_plain rfl fun K hK => ?_
  simp only [Oper.wp, hr, Oper.upon]
  exact hK _ _ (h _ w' ht hi)
end
end Go.J
/-
  The calculus' rules for single operations: numbers, copies, memory. Proved over any program.
-/
namespace Go.J
open Go.RowKit
set_option linter.unusedVariables false
set_option linter.unusedSimpArgs false

/- what the rules ask of the program's types: closed facts -/
def aggT (P : Program) (t : TypeId) : Option Bool := match P.underlying t with
  | some (.struct _) => some true
  | some (.array _ _) => some true
  | some _ => some false
  | none => none
def sizeT (P : Program) (t : TypeId) : Option Nat := (P.info? t).map (·.size)
def bytesT (P : Program) (t : TypeId) : Option Nat := (P.info? t).map (·.bytes)
def zeroT (P : Program) (t : TypeId) : Option Value := (P.info? t).bind (·.zero)
def fieldT (P : Program) (s f : Nat) : Option Nat := match P.underlying s with
  | some (.struct fs) => match fs[f]? with
    | some fd => match sizeT P fd.type with
      | some (_ + 1) => some fd.offset
      | _ => none
    | none => none
  | _ => none
def elemT (P : Program) (t : TypeId) : Option TypeId := match P.underlying t with
  | some (.slice e) => some e
  | _ => none
def arrT (P : Program) (t : TypeId) : Option (Nat × TypeId) := match P.underlying t with
  | some (.array n e) => some (n, e)
  | _ => none

theorem run_isAgg {P : Program} {t : TypeId} {b : Bool} (h : aggT P t = some b) (w : World) : (isAgg t).run P w = .ok b w := by
  unfold aggT at h
  simp only [isAgg, underlying, Sem.run_bind, run_program, Result.andThen_ok]
  cases hu : P.underlying t with
  | none => rw [hu] at h; cases h
  | some d =>
    rw [hu] at h
    simp only [Sem.run_pure, Result.andThen_ok]
    cases d <;> simp at h <;> subst h <;> rfl
theorem run_sizeOf {P : Program} {t : TypeId} {k : Nat} (h : sizeT P t = some k) (w : World) : (sizeOf t).run P w = .ok k w := by
  unfold sizeT at h
  simp only [sizeOf, typeInfo, Sem.run_bind, run_program, Result.andThen_ok]
  cases hu : P.info? t with
  | none => rw [hu] at h; cases h
  | some i => rw [hu] at h; simp at h; subst h; rfl
theorem run_underlying' {P : Program} {t : TypeId} {d : TypeDesc} (h : P.underlying t = some d) (w : World) : (underlying t).run P w = .ok d w := by
  simp only [underlying, Sem.run_bind, run_program, Result.andThen_ok, h, Sem.run_pure]
theorem run_zeroValue' {P : Program} {t : TypeId} {v : Value} (h : zeroT P t = some v) (w : World) : (zeroValue t).run P w = .ok v w := by
  unfold zeroT at h
  simp only [zeroValue, typeInfo, Sem.run_bind, run_program, Result.andThen_ok]
  cases hu : P.info? t with
  | none => rw [hu] at h; cases h
  | some i => rw [hu] at h; simp at h; simp [h]

theorem addr_add (b o k : Nat) : (⟨b, o, none⟩ : Addr).add k = ⟨b, o + k, none⟩ := by
  unfold Addr.add
  split
  · rename_i h; subst h; rfl
  · rfl

def binI (op : BinOp) : Value → Value → Option Value
  | .int k a, .int k' b =>
    match op with
    | .shl => if b < 0 then none else some (.int k (k.wrap (a * 2 ^ (min b.toNat k.bits))))
    | .shr => if b < 0 then none else some (.int k (a.fdiv (2 ^ (min b.toNat k.bits))))
    | .add => if k = k' then some (.int k (k.wrap (a + b))) else none
    | .sub => if k = k' then some (.int k (k.wrap (a - b))) else none
    | .mul => if k = k' then some (.int k (k.wrap (a * b))) else none
    | .quo => if k = k' then if b = 0 then none else some (.int k (k.wrap (a.tdiv b))) else none
    | .rem => if k = k' then if b = 0 then none else some (.int k (a.tmod b)) else none
    | .eql => if k = k' then some (.bool (a == b)) else none
    | .neq => if k = k' then some (.bool (a != b)) else none
    | .lss => if k = k' then some (.bool (decide (a < b))) else none
    | .leq => if k = k' then some (.bool (decide (a ≤ b))) else none
    | .gtr => if k = k' then some (.bool (decide (a > b))) else none
    | .geq => if k = k' then some (.bool (decide (a ≥ b))) else none
    | .and => if k = k' then some (.int k (k.wrap (BitVec.ofInt k.bits a &&& BitVec.ofInt k.bits b).toNat)) else none
    | .or => if k = k' then some (.int k (k.wrap (BitVec.ofInt k.bits a ||| BitVec.ofInt k.bits b).toNat)) else none
    | .xor => if k = k' then some (.int k (k.wrap (BitVec.ofInt k.bits a ^^^ BitVec.ofInt k.bits b).toNat)) else none
    | .andNot => none
  | .string a, .string b =>
    match op with
    | .eql => some (.bool (a.toList == b.toList))
    | .neq => some (.bool (!(a.toList == b.toList)))
    | _ => none
  | _, _ => none

theorem binI_ok {P : Program} {op : BinOp} {x y v : Value} (h : binI op x y = some v) (t : TypeId) (w : World) :
    (binOp op t x y).run P w = .ok v w := by
  unfold binI at h
  split at h
  · rename_i k a k' b
    cases op <;> simp only [] at h <;> (repeat' split at h) <;> simp only [Option.some.injEq, reduceCtorEq] at h <;> subst h <;>
      (first | (simp_all [binOp, Op.shift, Op.intArith, Op.intDiv, Op.intCmp, Op.intBits]; done) | (simp_all [binOp, Op.shift]; intro; omega))
  · rename_i a b
    cases op <;> simp only [Option.some.injEq, reduceCtorEq] at h <;> subst h <;> simp [binOp, Op.stringOp]
  · cases h

theorem run_eqGuard {P : Program} {op : BinOp} {t : TypeId} {x y : Operand} {a b : Value} (w : World)
    (h : match a with | .nilIface => False | .agg _ => False | _ => True) : (eqGuard op t x y a b).run P w = .ok () w := by
  unfold eqGuard
  cases op <;> simp <;> cases a <;> simp_all

theorem run_equal_of {P : Program} {t : TypeId} {x y : Value} {r : Result Bool} {w : World} (h : ∀ d, (Op.equalIn (d + 1) t x y).run P w = r) : (Op.equal t x y).run P w = r := h 9999
section
variable {P : Program} {ops : Array Oper} {Q : Exit → Act → World → Prop} {n : Nat} {e : Env} {I I' : World → Prop} {rest : List Oper}
variable {d t yt : Nat} {p : String} {af : Array Edge} {x y z : Operand} {v v1 v2 : Value}

theorem J.move (hx : ev e x = some v) (hd : Nat.blt d n = true) (h : J P ops Q n rest ((d, v) :: e) I) : J P ops Q n (⟨some d, .move x, t, p, af, none⟩ :: rest) e I :=
  J.value hd (fun T w ht hw => ⟨w, by simp [execOp, ht.eval hx], hw⟩) h
theorem J.assign (hx : ev e x = some v) (hd : Nat.blt d n = true) (h : J P ops Q n rest ((d, v) :: e) I) : J P ops Q n (⟨some d, .assign x, t, p, af, none⟩ :: rest) e I :=
  J.value hd (fun T w ht hw => ⟨w, by simp [execOp, ht.eval hx], hw⟩) h
theorem J.pickT (hx : ev e x = some (.bool true)) (hy : ev e y = some v) (hd : Nat.blt d n = true) (h : J P ops Q n rest ((d, v) :: e) I) : J P ops Q n (⟨some d, .pick x y z, t, p, af, none⟩ :: rest) e I :=
  J.value hd (fun T w ht hw => ⟨w, by simp [execOp, ht.eval hx, ht.eval hy, asBool], hw⟩) h
theorem J.pickF (hx : ev e x = some (.bool false)) (hz : ev e z = some v) (hd : Nat.blt d n = true) (h : J P ops Q n rest ((d, v) :: e) I) : J P ops Q n (⟨some d, .pick x y z, t, p, af, none⟩ :: rest) e I :=
  J.value hd (fun T w ht hw => ⟨w, by simp [execOp, ht.eval hx, ht.eval hz, asBool], hw⟩) h
theorem J.bin {op : BinOp} {ty : TypeId} (hx : ev e x = some v1) (hy : ev e y = some v2) (hv : binI op v1 v2 = some v) (hd : Nat.blt d n = true)
    (h : J P ops Q n rest ((d, v) :: e) I) : J P ops Q n (⟨some d, .binOp op ty x y yt, t, p, af, none⟩ :: rest) e I := by
  refine J.value hd (fun T w ht hw => ⟨w, ?_, hw⟩) h
  simp only [execOp, ht.eval hx, ht.eval hy, Sem.run_bind, Sem.run_pure]
  rw [run_eqGuard w (by unfold binI at hv; split at hv <;> first | trivial | cases hv), Result.andThen_ok, binI_ok hv, Result.andThen_ok]
theorem J.not {ty : TypeId} {b : Bool} (hx : ev e x = some (.bool b)) (hd : Nat.blt d n = true)
    (h : J P ops Q n rest ((d, .bool (!b)) :: e) I) : J P ops Q n (⟨some d, .unOp .not ty x, t, p, af, none⟩ :: rest) e I :=
  J.value hd (fun T w ht hw => ⟨w, by simp [execOp, ht.eval hx, Op.unary], hw⟩) h
theorem J.extract {vs : Array Value} {i : Nat} (hx : ev e x = some (.tuple vs)) (hi : vs[i]? = some v) (hd : Nat.blt d n = true)
    (h : J P ops Q n rest ((d, v) :: e) I) : J P ops Q n (⟨some d, .extract x i, t, p, af, none⟩ :: rest) e I :=
  J.value hd (fun T w ht hw => ⟨w, by simp [execOp, ht.eval hx, Instr.extract, hi], hw⟩) h
theorem J.convInt {s ty : TypeId} {ds : TypeDesc} {k k' : IntKind} {a : Int} (hs : P.underlying s = some ds) (hu : P.underlying ty = some (.int k)) (hx : ev e x = some (.int k' a)) (hd : Nat.blt d n = true)
    (h : J P ops Q n rest ((d, .int k (k.wrap a)) :: e) I) : J P ops Q n (⟨some d, .convert s ty x, t, p, af, none⟩ :: rest) e I :=
  J.value hd (fun T w ht hw => ⟨w, by simp [execOp, ht.eval hx, convert, run_underlying' hs, run_underlying' hu, Conv.intToInt], hw⟩) h
theorem J.lenS {ty el : TypeId} {a : Option Addr} {k c : Nat} {ats : Array TypeId} (ha : ats[0]? = some ty) (hu : P.underlying ty = some (.slice el)) (hx : ev e x = some (.slice a k c)) (hd : Nat.blt d n = true)
    (h : J P ops Q n rest ((d, .int .i64 k) :: e) I) : J P ops Q n (⟨some d, .call ⟨.builtin .len, #[x], ats⟩, t, p, af, none⟩ :: rest) e I :=
  J.value hd (fun T w ht hw => ⟨w, by simp [execOp, resolve, invoke, builtin, Builtin.len_, ht.eval hx, run_underlying' hu, ha, goInt], hw⟩) h
theorem J.max2 {k : IntKind} {a b : Int} {ats : Array TypeId} (hx : ev e x = some (.int k a)) (hy : ev e y = some (.int k b)) (hd : Nat.blt d n = true)
    (h : J P ops Q n rest ((d, .int k (max a b)) :: e) I) : J P ops Q n (⟨some d, .call ⟨.builtin .max, #[x, y], ats⟩, t, p, af, none⟩ :: rest) e I :=
  J.value hd (fun T w ht hw => ⟨w, by
    have : (if b > a then b else a) = max a b := by split <;> omega
    simp [execOp, resolve, invoke, builtin, Builtin.max_, Builtin.max2, ht.eval hx, ht.eval hy, this], hw⟩) h
theorem J.min2 {k : IntKind} {a b : Int} {ats : Array TypeId} (hx : ev e x = some (.int k a)) (hy : ev e y = some (.int k b)) (hd : Nat.blt d n = true)
    (h : J P ops Q n rest ((d, .int k (min a b)) :: e) I) : J P ops Q n (⟨some d, .call ⟨.builtin .min, #[x, y], ats⟩, t, p, af, none⟩ :: rest) e I :=
  J.value hd (fun T w ht hw => ⟨w, by
    have : (if b < a then b else a) = min a b := by split <;> omega
    simp [execOp, resolve, invoke, builtin, Builtin.min_, Builtin.min2, ht.eval hx, ht.eval hy, this], hw⟩) h
/- places -/
theorem J.fieldAddr {s f off b o : Nat} (hf : fieldT P s f = some off) (hx : ev e x = some (.pointer (some ⟨b, o, none⟩))) (hd : Nat.blt d n = true)
    (h : J P ops Q n rest ((d, .pointer (some ⟨b, o + off, none⟩)) :: e) I) : J P ops Q n (⟨some d, .fieldAddr s x f, t, p, af, none⟩ :: rest) e I := by
  refine J.value hd (fun T w ht hw => ⟨w, ?_, hw⟩) h
  unfold fieldT at hf
  split at hf
  · rename_i fs hu
    split at hf
    · rename_i fd hfd
      split at hf
      · rename_i k hk
        simp only [Option.some.injEq] at hf
        subst hf
        simp [execOp, ht.eval hx, Instr.fieldAt, run_underlying' hu, hfd, Instr.sureAddr, fieldPlace, run_sizeOf hk, addr_add]
      · cases hf
    · cases hf
  · cases hf
theorem J.indexAddrS {ty el : TypeId} {sz b o k c : Nat} {i : Int} {ik : IntKind} (he : elemT P ty = some el) (hs : sizeT P el = some sz) (hx : ev e x = some (.slice (some ⟨b, o, none⟩) k c)) (hy : ev e y = some (.int ik i))
    (h0 : 0 ≤ i) (h1 : i < k) (hd : Nat.blt d n = true)
    (h : J P ops Q n rest ((d, .pointer (some ⟨b, o + i.toNat * sz, none⟩)) :: e) I) : J P ops Q n (⟨some d, .indexAddr ty x y, t, p, af, none⟩ :: rest) e I := by
  refine J.value hd (fun T w ht hw => ⟨w, ?_, hw⟩) h
  unfold elemT at he
  split at he
  · rename_i e' hu
    simp only [Option.some.injEq] at he
    subst he
    simp [execOp, ht.eval hx, ht.eval hy, Instr.indexAt, asIntOf, run_underlying' hu, run_sizeOf hs, h0, h1, addr_add]
  · cases he
theorem J.indexAddrA {ty el : TypeId} {len sz b o : Nat} {i : Int} {ik : IntKind} (he : arrT P ty = some (len, el)) (hs : sizeT P el = some sz) (hx : ev e x = some (.pointer (some ⟨b, o, none⟩))) (hy : ev e y = some (.int ik i))
    (h0 : 0 ≤ i) (h1 : i < len) (hd : Nat.blt d n = true)
    (h : J P ops Q n rest ((d, .pointer (some ⟨b, o + i.toNat * sz, none⟩)) :: e) I) : J P ops Q n (⟨some d, .indexAddr ty x y, t, p, af, none⟩ :: rest) e I := by
  refine J.value hd (fun T w ht hw => ⟨w, ?_, hw⟩) h
  unfold arrT at he
  split at he
  · rename_i l' e' hu
    simp only [Option.some.injEq, Prod.mk.injEq] at he
    obtain ⟨rfl, rfl⟩ := he
    simp [execOp, ht.eval hx, ht.eval hy, Instr.indexAt, asIntOf, run_underlying' hu, run_sizeOf hs, h0, h1, addr_add, Instr.sureAddr]
  · cases he
end
end Go.J
/-
  The calculus' memory: what is known of the world ('St'), reading, writing, new blocks, calls. Proved over any program.
-/
namespace Go.J
open Go.RowKit
set_option linter.unusedVariables false
set_option linter.unusedSimpArgs false

/-- what was there is as it was, and draws only go on -/
structure Bel (w w' : World) : Prop extends Below w.heap.size w w' where
  drawn : w.drawn ≤ w'.drawn
theorem Bel.refl (w : World) : Bel w w := ⟨Below.refl _ w, Nat.le_refl _⟩
theorem Bel.alloc {w w' : World} (h : Bel w w') (o : Obj) : Bel w (w'.alloc o) := ⟨h.toBelow.alloc h.size o, h.drawn⟩
theorem Bel.drew {w w' : World} (h : Bel w w') : Bel w w'.drew := ⟨h.toBelow.drew, Nat.le_trans h.drawn (Nat.le_succ _)⟩
theorem Bel.trans {a b c : World} (h : Bel a b) (k : Bel b c) : Bel a c :=
  ⟨⟨k.os.trans h.os, k.tape.trans h.tape, k.output.trans h.output, Nat.le_trans h.size k.size, fun i hi => (k.block i (Nat.lt_of_lt_of_le hi h.size)).trans (h.block i hi)⟩, Nat.le_trans h.drawn k.drawn⟩
/-- The world w, told from the world w0 in which the call began: what was there is as it was, but for the blocks of S; and the blocks of l are just these. -/
structure St (w0 : World) (S : List Nat) (l : List (Nat × Obj)) (w : World) : Prop where
  os : w.os = w0.os
  tape : w.tape = w0.tape
  output : w.output = w0.output
  size : w0.heap.size ≤ w.heap.size
  drawn : w0.drawn ≤ w.drawn
  keep : ∀ b, b < w0.heap.size → b ∉ S → w.heap[b]? = w0.heap[b]?
  own : ∀ p, p ∈ l → w.heap[p.1]? = some p.2
  apart : ∀ p, p ∈ l → p.1 ∈ S ∨ w0.heap.size ≤ p.1
  dist : l.Pairwise (fun p q => p.1 ≠ q.1)

theorem lt_of_some {w : World} {b : Nat} {o : Obj} (h : w.heap[b]? = some o) : b < w.heap.size := (Array.getElem?_eq_some_iff.1 h).1

theorem St.start (w0 : World) : St w0 [] [] w0 :=
  ⟨rfl, rfl, rfl, Nat.le_refl _, Nat.le_refl _, fun _ _ _ => rfl, (fun _ h => by cases h), (fun _ h => by cases h), .nil⟩
theorem St.startS {w0 : World} {l : List (Nat × Obj)} (hl : ∀ p, p ∈ l → w0.heap[p.1]? = some p.2) (hd : l.Pairwise (fun p q => p.1 ≠ q.1)) : St w0 (l.map (·.1)) l w0 :=
  ⟨rfl, rfl, rfl, Nat.le_refl _, Nat.le_refl _, fun _ _ _ => rfl, hl, fun p h => .inl (List.mem_map.2 ⟨p, h, rfl⟩), hd⟩
theorem St.below {w0 w : World} {l : List (Nat × Obj)} (h : St w0 [] l w) : Bel w0 w :=
  ⟨⟨h.os, h.tape, h.output, h.size, fun k hk => h.keep k hk (by simp)⟩, h.drawn⟩

/-- what a call that changes nothing that was there leaves -/
theorem St.step {w0 w w' : World} {S : List Nat} {l : List (Nat × Obj)} (h : St w0 S l w) (hb : Bel w w') : St w0 S l w' :=
  ⟨hb.os.trans h.os, hb.tape.trans h.tape, hb.output.trans h.output, Nat.le_trans h.size hb.size, Nat.le_trans h.drawn hb.drawn,
   fun b hb1 hb2 => (hb.block b (Nat.lt_of_lt_of_le hb1 h.size)).trans (h.keep b hb1 hb2),
   fun p hp => (hb.block p.1 (lt_of_some (h.own p hp))).trans (h.own p hp), h.apart, h.dist⟩
/-- a new block -/
theorem St.new {w0 w w' : World} {S : List Nat} {l : List (Nat × Obj)} {b : Nat} {o : Obj} (h : St w0 S l w) (hb : Bel w w') (h1 : w.heap.size ≤ b) (h2 : w'.heap[b]? = some o) : St w0 S ((b, o) :: l) w' := by
  have h' := h.step hb
  refine ⟨h'.os, h'.tape, h'.output, h'.size, h'.drawn, h'.keep, fun p hp => ?_, fun p hp => ?_, ?_⟩
  · cases hp with
    | head => exact h2
    | tail _ hp => exact h'.own p hp
  · cases hp with
    | head => exact .inr (Nat.le_trans h.size h1)
    | tail _ hp => exact h.apart p hp
  · refine List.Pairwise.cons (fun q hq => ?_) h.dist
    have := lt_of_some (h.own q hq)
    show b ≠ q.1
    omega
/-- blocks that are no longer of interest -/
theorem St.drop {w0 w : World} {S : List Nat} {l l' : List (Nat × Obj)} (h : St w0 S l w) (hs : l'.Sublist l) : St w0 S l' w :=
  ⟨h.os, h.tape, h.output, h.size, h.drawn, h.keep, fun p hp => h.own p (hs.subset hp), fun p hp => h.apart p (hs.subset hp), h.dist.sublist hs⟩

inductive Up : List (Nat × Obj) → Nat → Obj → Obj → List (Nat × Obj) → Prop
  | here {l : List (Nat × Obj)} {b : Nat} {o o' : Obj} : Up ((b, o) :: l) b o o' ((b, o') :: l)
  | there {l l' : List (Nat × Obj)} {b : Nat} {o o' : Obj} {p : Nat × Obj} (h : Up l b o o' l') : Up (p :: l) b o o' (p :: l')
theorem Up.mem {l l' : List (Nat × Obj)} {b : Nat} {o o' : Obj} (h : Up l b o o' l') : (b, o) ∈ l := by
  induction h with
  | here => exact .head _
  | there _ ih => exact .tail _ ih
theorem Up.keys {l l' : List (Nat × Obj)} {b : Nat} {o o' : Obj} (h : Up l b o o' l') : l'.map (·.1) = l.map (·.1) := by
  induction h with
  | here => rfl
  | there _ ih => simp [ih]
theorem Up.mem' {l l' : List (Nat × Obj)} {b : Nat} {o o' : Obj} (h : Up l b o o' l') (hd : l.Pairwise (fun p q => p.1 ≠ q.1)) : ∀ p, p ∈ l' → p = (b, o') ∨ (p ∈ l ∧ p.1 ≠ b) := by
  induction h with
  | here =>
    intro p hp
    cases hp with
    | head => exact .inl rfl
    | tail _ hp => cases hd with | cons h1 _ => exact .inr ⟨.tail _ hp, fun e => h1 p hp e.symm⟩
  | there h ih =>
    intro p hp
    cases hd with
    | cons h1 h2 =>
      cases hp with
      | head => exact .inr ⟨.head _, h1 _ h.mem⟩
      | tail _ hp => rcases ih h2 p hp with h3 | ⟨h3, h4⟩
                     · exact .inl h3
                     · exact .inr ⟨.tail _ h3, h4⟩
theorem pairwise_keys {l : List (Nat × Obj)} : l.Pairwise (fun p q => p.1 ≠ q.1) ↔ (l.map (·.1)).Pairwise (· ≠ ·) := by
  rw [List.pairwise_map]

/-- one known block gets another content -/
theorem St.set {w0 w w' : World} {S : List Nat} {l l' : List (Nat × Obj)} {b : Nat} {o o' : Obj} (h : St w0 S l w) (hu : Up l b o o' l')
    (hos : w'.os = w.os) (ht : w'.tape = w.tape) (hout : w'.output = w.output) (hsz : w.heap.size ≤ w'.heap.size) (hdr : w'.drawn = w.drawn)
    (hb : w'.heap[b]? = some o') (hne : ∀ k, k < w.heap.size → k ≠ b → w'.heap[k]? = w.heap[k]?) : St w0 S l' w' := by
  refine ⟨hos.trans h.os, ht.trans h.tape, hout.trans h.output, Nat.le_trans h.size hsz, (by rw [hdr]; exact h.drawn), fun k hk1 hk2 => ?_, fun p hp => ?_, fun p hp => ?_, ?_⟩
  · rw [hne k (Nat.lt_of_lt_of_le hk1 h.size) ?_, h.keep k hk1 hk2]
    intro e
    subst e
    rcases h.apart _ hu.mem with h1 | h1
    · exact hk2 h1
    · have h1 : w0.heap.size ≤ k := h1
      omega
  · rcases hu.mem' h.dist p hp with rfl | ⟨h1, h2⟩
    · exact hb
    · rw [hne p.1 (lt_of_some (h.own p h1)) h2]; exact h.own p h1
  · rcases hu.mem' h.dist p hp with rfl | ⟨h1, _⟩
    · exact h.apart (b, o) hu.mem
    · exact h.apart p h1
  · rw [pairwise_keys, hu.keys, ← pairwise_keys]; exact h.dist

/-- a block that is a row of cells, none of them frozen -/
abbrev cb (cs : List Value) (t : TypeId) : Obj := .cells cs.toArray t (0, 0)

theorem cell_of {w : World} {b o : Nat} {cs : List Value} {t : TypeId} {fr : Nat × Nat} (h : w.heap[b]? = some (.cells cs.toArray t fr)) : w.cell? ⟨b, o, none⟩ = cs[o]? := by
  simp [World.cell?, h]
theorem frozen_of {w : World} {b o : Nat} {cs : List Value} {t : TypeId} (h : w.heap[b]? = some (cb cs t)) : w.frozen? ⟨b, o, none⟩ = false := by
  simp [World.frozen?, h]

theorem run_loadCellsFrom {P : Program} {w : World} {b o : Nat} : ∀ (k i : Nat) (acc : Array Value) (vs : List Value), vs.length = k → (∀ j, j < k → w.cell? ⟨b, o + (i + j), none⟩ = vs[j]?) →
    (loadCellsFrom ⟨b, o, none⟩ i k acc).run P w = .ok (acc ++ vs.toArray) w := by
  intro k
  induction k with
  | zero => intro i acc vs hl _; simp [loadCellsFrom, List.length_eq_zero_iff.1 hl]
  | succ k ih =>
    intro i acc vs hl hc
    match vs, hl with
    | v :: vs, hl =>
      have h0 := hc 0 (by omega)
      simp only [Nat.add_zero, List.getElem?_cons_zero] at h0
      simp only [loadCellsFrom, Sem.run_bind, addr_add, run_load, h0, Result.andThen_ok]
      rw [ih (i + 1) (acc.push v) vs (by simpa using hl) (fun j hj => by
        have := hc (j + 1) (by omega)
        rw [show o + (i + 1 + j) = o + (i + (j + 1)) by omega, this]; simp)]
      simp

/-- the cells of a variable -/
def Cells (w : World) (b o : Nat) (vs : List Value) : Prop := ∀ j, j < vs.length → w.cell? ⟨b, o + j, none⟩ = vs[j]?
theorem Cells.of_block {w : World} {b o : Nat} {cs vs : List Value} {t : TypeId} {fr : Nat × Nat} (h : w.heap[b]? = some (.cells cs.toArray t fr)) (hv : (cs.drop o).take vs.length = vs) : Cells w b o vs := by
  intro j hj
  rw [cell_of h]
  have : vs[j]? = ((cs.drop o).take vs.length)[j]? := by rw [hv]
  rw [this, List.getElem?_take_of_lt hj, List.getElem?_drop]
theorem run_loadVar_agg {P : Program} {w : World} {t k b o : Nat} {vs : List Value} (ha : aggT P t = some true) (hs : sizeT P t = some k) (hl : vs.length = k) (hc : Cells w b o vs) :
    (loadVar t ⟨b, o, none⟩).run P w = .ok (.agg vs.toArray) w := by
  simp only [loadVar, Sem.run_bind, run_isAgg ha, Result.andThen_ok, if_true, run_sizeOf hs, loadCells]
  rw [run_loadCellsFrom k 0 #[] vs hl (fun j hj => by rw [Nat.zero_add]; exact hc j (by omega))]
  simp
theorem run_loadVar_one {P : Program} {w : World} {t : TypeId} {a : Addr} {v : Value} (ha : aggT P t = some false) (hc : w.cell? a = some v) : (loadVar t a).run P w = .ok v w := by
  simp [loadVar, run_isAgg ha, run_load, hc]

def setMany (cs : List Value) (o : Nat) : List Value → List Value
  | [] => cs
  | v :: vs => setMany (cs.set o v) (o + 1) vs
@[simp] theorem setMany_length (vs : List Value) : ∀ (cs : List Value) (o : Nat), (setMany cs o vs).length = cs.length := by
  induction vs with
  | nil => intro _ _; rfl
  | cons v vs ih => intro cs o; simp [setMany, ih]
theorem setMany_get (vs : List Value) : ∀ (cs : List Value) (o i : Nat), o + vs.length ≤ cs.length → (setMany cs o vs)[i]? = if i < o then cs[i]? else if i < o + vs.length then vs[i - o]? else cs[i]? := by
  induction vs with
  | nil => intro cs o i _; simp only [setMany, List.length_nil, Nat.add_zero]; split <;> rfl
  | cons v vs ih =>
    intro cs o i h
    simp only [List.length_cons] at h
    rw [setMany, ih _ _ _ (by simp; omega), List.getElem?_set]
    simp only [List.length_cons]
    by_cases h1 : i < o
    · rw [if_pos (by omega), if_neg (by omega), if_pos h1]
    · by_cases h2 : o = i
      · subst h2; rw [if_pos (by omega), if_pos rfl, if_neg h1, if_pos (by omega), if_pos (by omega)]; simp
      · rw [if_neg (by omega), if_neg h2, if_neg h1]
        by_cases h3 : i < o + 1 + vs.length
        · rw [if_pos h3, if_pos (by omega), show i - o = (i - (o + 1)) + 1 by omega]; simp
        · rw [if_neg h3, if_neg (by omega)]
theorem setMany_eq (vs : List Value) (cs : List Value) (o : Nat) (h : o + vs.length ≤ cs.length) : setMany cs o vs = cs.take o ++ vs ++ cs.drop (o + vs.length) := by
  apply List.ext_getElem?
  intro i
  rw [setMany_get vs cs o i h]
  by_cases h1 : i < o
  · rw [if_pos h1, List.append_assoc, List.getElem?_append_left (by simp; omega), List.getElem?_take_of_lt h1]
  · rw [if_neg h1, List.append_assoc, List.getElem?_append_right (by simp; omega)]
    have m : (cs.take o).length = o := by simp; omega
    rw [m]
    by_cases h3 : i < o + vs.length
    · rw [if_pos h3, List.getElem?_append_left (by omega)]
    · rw [if_neg h3, List.getElem?_append_right (by omega), List.getElem?_drop]
      congr 1; omega

theorem setCell_block {w : World} {b o : Nat} {cs : List Value} {t : TypeId} (v : Value) (h : w.heap[b]? = some (cb cs t)) : (w.setCell ⟨b, o, none⟩ v).heap[b]? = some (cb (cs.set o v) t) := by
  simp [World.setCell, Array.getElem?_modify, h]
theorem setCell_other {w : World} {a : Addr} {k : Nat} (v : Value) (h : k ≠ a.block) : (w.setCell a v).heap[k]? = w.heap[k]? := by
  simp only [World.setCell, Array.getElem?_modify]
  rw [if_neg (fun e => h e.symm)]

structure Wrote (w w' : World) (b : Nat) (o' : Obj) : Prop where
  os : w'.os = w.os
  tape : w'.tape = w.tape
  output : w'.output = w.output
  size : w'.heap.size = w.heap.size
  drawn : w'.drawn = w.drawn
  at_ : w'.heap[b]? = some o'
  other : ∀ k, k ≠ b → w'.heap[k]? = w.heap[k]?

theorem run_storeCells {P : Program} {b : Nat} {t : TypeId} (vs : List Value) : ∀ (w : World) (cs : List Value) (o i : Nat), w.heap[b]? = some (cb cs t) → o + i + vs.length ≤ cs.length → (∀ v, v ∈ vs → v.oneCell' = true) →
    ∃ w', (storeCells ⟨b, o, none⟩ vs i).run P w = .ok () w' ∧ Wrote w w' b (cb (setMany cs (o + i) vs) t) := by
  induction vs with
  | nil => intro w cs o i h _ _; exact ⟨w, rfl, rfl, rfl, rfl, rfl, rfl, h, fun _ _ => rfl⟩
  | cons v vs ih =>
    intro w cs o i h hl hv
    simp only [List.length_cons] at hl
    have hc : w.cell? ⟨b, o + i, none⟩ = some (cs[o + i]'(by omega)) := by rw [cell_of h, List.getElem?_eq_getElem]
    obtain ⟨w', hr, hw⟩ := ih (w.setCell ⟨b, o + i, none⟩ v) (cs.set (o + i) v) o (i + 1) (setCell_block v h) (by simp; omega) (fun u hu => hv u (.tail _ hu))
    refine ⟨w', ?_, hw.os, hw.tape, hw.output, (by rw [hw.size]; simp), (by rw [hw.drawn]; rfl), hw.at_, fun k hk => (hw.other k hk).trans (setCell_other v hk)⟩
    simp only [storeCells, Sem.run_bind, addr_add, run_store P w _ v .plain (hv v (.head _)), hc, frozen_of h]
    simpa using hr

def ones (vs : List Value) : Bool := vs.all (·.oneCell')
theorem run_storeVar {P : Program} {w : World} {b o t k : Nat} {cs vs : List Value} {tb : TypeId} {v : Value} (hs : sizeT P t = some k) (hv : v.cells = vs.toArray) (hk : vs.length = k) (h1 : ∀ v, v ∈ vs → v.oneCell' = true)
    (hb : w.heap[b]? = some (cb cs tb)) (hl : o + k ≤ cs.length) :
    ∃ w', (storeVar t ⟨b, o, none⟩ v).run P w = .ok () w' ∧ Wrote w w' b (cb (setMany cs o vs) tb) := by
  obtain ⟨w', hr, hw⟩ := run_storeCells (P := P) vs w cs o 0 hb (by omega) h1
  refine ⟨w', ?_, by simpa using hw⟩
  simp only [storeVar, Sem.run_bind, run_sizeOf hs, Result.andThen_ok, hv]
  simp [hk, hr]
theorem St.wrote {w0 w w' : World} {S : List Nat} {l l' : List (Nat × Obj)} {b : Nat} {o o' : Obj} (h : St w0 S l w) (hu : Up l b o o' l') (hw : Wrote w w' b o') : St w0 S l' w' :=
  h.set hu hw.os hw.tape hw.output (Nat.le_of_eq hw.size.symm) hw.drawn hw.at_ (fun k _ hk => hw.other k hk)
theorem below_alloc' (w : World) (o : Obj) : Bel w (w.alloc o) := (Bel.refl w).alloc o
theorem alloc_at (w : World) (o : Obj) : (w.alloc o).heap[w.heap.size]? = some o := by
  show (w.heap.push o)[w.heap.size]? = some o
  simp

section
variable {P : Program} {ops : Array Oper} {Q : Exit → Act → World → Prop} {n : Nat} {e : Env} {I I' : World → Prop} {rest : List Oper}
variable {d t : Nat} {p : String} {af : Array Edge} {x y z : Operand} {v v1 v2 : Value} {w0 : World} {S : List Nat} {l l' : List (Nat × Obj)}

/- loads -/
theorem J.load1 {ty : TypeId} {a : Addr} (ha : aggT P ty = some false) (hx : ev e x = some (.pointer (some a))) (hc : ∀ w, I w → w.cell? a = some v) (hd : Nat.blt d n = true)
    (h : J P ops Q n rest ((d, v) :: e) I) : J P ops Q n (⟨some d, .load ty x, t, p, af, none⟩ :: rest) e I :=
  J.value hd (fun T w ht hw => ⟨w, by simp [execOp, ht.eval hx, Instr.loadAt, Instr.sureAddr, run_loadVar_one ha (hc w hw)], hw⟩) h
theorem J.loadA {ty k b o : Nat} {vs : List Value} (ha : aggT P ty = some true) (hs : sizeT P ty = some k) (hx : ev e x = some (.pointer (some ⟨b, o, none⟩))) (hl : vs.length = k) (hc : ∀ w, I w → Cells w b o vs) (hd : Nat.blt d n = true)
    (h : J P ops Q n rest ((d, .agg vs.toArray) :: e) I) : J P ops Q n (⟨some d, .load ty x, t, p, af, none⟩ :: rest) e I :=
  J.value hd (fun T w ht hw => ⟨w, by simp [execOp, ht.eval hx, Instr.loadAt, Instr.sureAddr, run_loadVar_agg ha hs hl (hc w hw)], hw⟩) h
theorem J.loadOA {ty k b o : Nat} {cs vs : List Value} {tb : TypeId} {fr : Nat × Nat} (ha : aggT P ty = some true) (hs : sizeT P ty = some k) (hx : ev e x = some (.pointer (some ⟨b, o, none⟩))) (hm : (b, Obj.cells cs.toArray tb fr) ∈ l)
    (hv : (cs.drop o).take k = vs) (hl : vs.length = k) (hd : Nat.blt d n = true)
    (h : J P ops Q n rest ((d, .agg vs.toArray) :: e) (St w0 S l)) : J P ops Q n (⟨some d, .load ty x, t, p, af, none⟩ :: rest) e (St w0 S l) :=
  J.loadA ha hs hx hl (fun w hw => Cells.of_block (hw.own _ hm) (by rw [hl]; exact hv)) hd h
/- stores -/
theorem J.storeO {ty k b o : Nat} {cs vs : List Value} {tb : TypeId} (hs : sizeT P ty = some k) (hx : ev e x = some (.pointer (some ⟨b, o, none⟩))) (hy : ev e y = some v) (hv : v.cells = vs.toArray) (hk : vs.length = k) (h1 : ∀ v, v ∈ vs → v.oneCell' = true)
    (hu : Up l b (cb cs tb) (cb (setMany cs o vs) tb) l') (hl : o + k ≤ cs.length)
    (h : J P ops Q n rest e (St w0 S l')) : J P ops Q n (⟨none, .store ty x y, t, p, af, none⟩ :: rest) e (St w0 S l) := by
  refine J.skipN (fun T w ht hw => ?_) h
  obtain ⟨w', hr, hw'⟩ := run_storeVar (P := P) hs hv hk h1 (hw.own _ hu.mem) hl
  exact ⟨w', by simp [execOp, ht.eval hx, ht.eval hy, Instr.storeAt, Instr.sureAddr, hr], hw.wrote hu hw'⟩
/- new blocks -/
theorem J.box {ty : TypeId} {vs : List Value} (hx : ev e x = some v) (hv : v.cells = vs.toArray) (hd : Nat.blt d n = true)
    (h : ∀ b, J P ops Q n rest ((d, .pointer (some ⟨b, 0, none⟩)) :: e) (St w0 S ((b, cb vs ty) :: l))) : J P ops Q n (⟨some d, .box ty x, t, p, af, none⟩ :: rest) e (St w0 S l) := by
  refine J.valueEx (V := fun b => .pointer (some ⟨b, 0, none⟩)) hd (fun T w ht hw => ⟨w.heap.size, w.alloc (cb vs ty), ?_, ?_⟩) h
  · simp [execOp, ht.eval hx, Instr.box, newVar, newRow, run_newObj, hv, cb]
  · exact hw.new (below_alloc' w _) (Nat.le_refl _) (alloc_at w _)
theorem J.alloc {ty : TypeId} {vs : List Value} (hz : zeroT P ty = some v) (hv : v.cells = vs.toArray) (hd : Nat.blt d n = true)
    (h : ∀ b, J P ops Q n rest ((d, .pointer (some ⟨b, 0, none⟩)) :: e) (St w0 S ((b, cb vs ty) :: l))) : J P ops Q n (⟨some d, .alloc ty, t, p, af, none⟩ :: rest) e (St w0 S l) := by
  refine J.valueEx (V := fun b => .pointer (some ⟨b, 0, none⟩)) hd (fun T w ht hw => ⟨w.heap.size, w.alloc (cb vs ty), ?_, ?_⟩) h
  · simp [execOp, Instr.alloc, newVar, newRow, run_newObj, hv, cb, run_zeroValue' hz]
  · exact hw.new (below_alloc' w _) (Nat.le_refl _) (alloc_at w _)
/- calls -/
def evs (e : Env) : List Operand → Option (List Value)
  | [] => some []
  | x :: xs => match ev e x with
    | some v => match evs e xs with
      | some vs => some (v :: vs)
      | none => none
    | none => none
theorem Rep.evals {n : Nat} {T : Array Value} {e : Env} (h : Rep n T e) : ∀ {xs : List Operand} {vs : List Value}, evs e xs = some vs → xs.map (act T).eval = vs := by
  intro xs
  induction xs with
  | nil => intro vs hv; simp [evs] at hv; simp [hv]
  | cons x xs ih =>
    intro vs hv
    simp only [evs] at hv
    split at hv
    · rename_i v hx
      split at hv
      · rename_i us hus
        simp only [Option.some.injEq] at hv
        subst hv
        simp [h.eval hx, ih hus]
      · cases hv
    · cases hv
/-- a function of the program that has a body -/
def bodyT (P : Program) (f : FuncId) : Bool := match P.funcs[f]? with
  | some fn => fn.body.isSome && !(fn.name == "runtime.NumGoroutine")
  | none => false
theorem run_callFunc {P : Program} {f : FuncId} {args : Array Value} (hb : bodyT P f = true) (w : World) : (callFunc f args).run P w = .ok (.enter f args) w := by
  unfold bodyT at hb
  split at hb
  · rename_i fn hf
    simp only [Bool.and_eq_true, Bool.not_eq_true'] at hb
    obtain ⟨hb1, hb2⟩ := hb
    have h2 : fn.body.isNone = false := by cases hh : fn.body <;> simp_all
    simp only [callFunc, Sem.run_bind, run_program, Result.andThen_ok, hf, hb2, h2, Bool.false_eq_true, if_false, Sem.run_pure]
  · cases hb
theorem J.call {f : FuncId} {xs : List Operand} {ats : Array TypeId} {vs : List Value} {R : Value → World → Prop} (hb : bodyT P f = true) (hx : evs e xs = some vs) (hd : Nat.blt d n = true)
    (hc : ∀ w, I w → Calls P f vs.toArray w fun r w' => ∃ v, r = .returned v ∧ R v w')
    (h : ∀ v, J P ops Q n rest ((d, v) :: e) (R v)) : J P ops Q n (⟨some d, .call ⟨.value (.func f), xs.toArray, ats⟩, t, p, af, none⟩ :: rest) e I := by
  intro T w ht hw
  refine wpList_plain rfl fun K hK => ?_
  have hr : (execOp (act T).eval ⟨some d, .call ⟨.value (.func f), xs.toArray, ats⟩, t, p, af, none⟩).run P w = .ok (.enter f vs.toArray) w := by
    have := ht.evals hx
    simp [execOp, resolve, Act.eval, Deferred.ofValue, invoke, this, run_callFunc hb]
  simp only [Oper.wp, hr, Oper.upon]
  refine (hc w hw).mono fun r w' ⟨v, hv, hR⟩ => ?_
  subst hv
  exact hK _ _ (h v _ w' (ht.put hd v) hR)
end

/- a function's body -/
theorem calls_of_J {P : Program} {f : FuncId} {fn : Func} {c : Code} {args : List Value} {w0 w : World} {S : List Nat} {l : List (Nat × Obj)} {R : Ending → World → Prop} {e : Env}
    (hf : P.funcs[f]? = some fn) (hb : fn.body = some c) (hn : Nat.ble args.length fn.ntmps = true) (he : Cov ((List.range args.length).zip args) e) (hst : St w0 S l w)
    (h : JC P (bodyPost P fn R) fn.ntmps c e (St w0 S l)) : Calls P f args.toArray w R := by
  refine calls_of_wp hf hb ?_
  have hn' : args.length ≤ fn.ntmps := Nat.le_of_ble_eq_true hn
  refine h _ w (Rep.cov ⟨by simp; omega, fun t v hv => ?_⟩ he) hst
  have key : ∀ (l : List Value) (k : Nat), get ((List.range' k l.length).zip l) t = some v → k ≤ t ∧ l[t - k]? = some v := by
    intro l
    induction l with
    | nil => intro k h; simp [J.get] at h
    | cons u l ih =>
      intro k h
      simp only [List.length_cons, List.range'_succ, List.zip_cons_cons, J.get] at h
      cases hk : Nat.beq k t with
      | true =>
        rw [hk] at h
        have : k = t := by simpa using hk
        subst this
        simpa using h
      | false =>
        rw [hk] at h
        obtain ⟨h1, h2⟩ := ih (k + 1) h
        refine ⟨by omega, ?_⟩
        rw [show t - k = (t - (k + 1)) + 1 by omega]
        simpa using h2
  rw [List.range_eq_range'] at hv
  obtain ⟨_, h2⟩ := key args 0 hv
  simp only [Nat.sub_zero] at h2
  have hlt : t < args.length := (List.getElem?_eq_some_iff.1 h2).1
  rw [Array.getElem?_append_left (by simpa using hlt)]
  simpa using h2
theorem JX.ret1 {P : Program} {fn : Func} {R : Ending → World → Prop} {n : Nat} {e : Env} {I : World → Prop} {t : Nat} {v : Value} (hr : fn.results = #[.tmp t]) (hv : get e t = some v) (h : ∀ w, I w → R (.returned v) w) :
    JX (bodyPost P fn R) n .ret e I := by
  intro T w ht hw
  refine ⟨rfl, v, ?_, h w hw⟩
  rw [results_tmp hr, Array.getD_eq_getD_getElem?, ht.2 t v hv]; rfl
theorem JX.ret0 {P : Program} {fn : Func} {R : Ending → World → Prop} {n : Nat} {e : Env} {I : World → Prop} (hr : fn.results = #[]) (h : ∀ w, I w → R (.returned (.tuple #[])) w) :
    JX (bodyPost P fn R) n .ret e I := by
  intro T w ht hw
  exact ⟨rfl, .tuple #[], results_none hr _ _ _, h w hw⟩
theorem JX.end0 {P : Program} {fn : Func} {R : Ending → World → Prop} {n : Nat} {e : Env} {I : World → Prop} (hr : fn.results = #[]) (h : ∀ w, I w → R (.returned (.tuple #[])) w) :
    JX (bodyPost P fn R) n .normal e I := by
  intro T w ht hw
  exact ⟨rfl, .tuple #[], results_none hr _ _ _, h w hw⟩
end Go.J
/-
  The calculus' slices: rows of cells, append, copy, make, literals, strings. Proved over any program.
-/
namespace Go.J
open Go.RowKit
set_option linter.unusedVariables false
set_option linter.unusedSimpArgs false

/-- a slice whose first elements are these cells (k elements): nothing is said where it has none -/
def Row (w : World) (v : Value) (k : Nat) (xs : List Value) : Prop :=
  ∃ a c, v = .slice a k c ∧ k ≤ c ∧ (xs = [] ∨ ∃ b o, a = some ⟨b, o, none⟩ ∧ Cells w b o xs)

theorem Cells.blk {w w' : World} {b o : Nat} {xs : List Value} (h : Cells w b o xs) (hb : w'.heap[b]? = w.heap[b]?) : Cells w' b o xs := by
  intro j hj
  have := World.cell?_of_block (w := w) (a := ⟨b, o + j, none⟩) hb
  rw [this]; exact h j hj
theorem Cells.lt {w : World} {b o : Nat} {xs : List Value} (h : Cells w b o xs) (hx : xs ≠ []) : b < w.heap.size := by
  match xs, hx with
  | x :: xs, _ =>
    have := h 0 (by simp)
    exact World.block_lt_of_cell? w ⟨b, o + 0, none⟩ (u := x) (by simpa using this)
theorem Row.below {w w' : World} {v : Value} {k : Nat} {xs : List Value} (h : Row w v k xs) (hb : Bel w w') : Row w' v k xs := by
  obtain ⟨a, c, hv, hk, h⟩ := h
  refine ⟨a, c, hv, hk, ?_⟩
  by_cases hx : xs = []
  · exact .inl hx
  · rcases h with h | ⟨b, o, ha, hc⟩
    · exact absurd h hx
    · exact .inr ⟨b, o, ha, hc.blk (hb.block b (hc.lt hx))⟩
theorem Row.cap {w : World} {a : Option Addr} {k c : Nat} {xs : List Value} (h : Row w (.slice a k c) k xs) : k ≤ c := by
  obtain ⟨_, _, hv, hk, _⟩ := h
  simp only [Value.slice.injEq] at hv
  obtain ⟨_, _, rfl⟩ := hv
  exact hk
/-- it lies outside these blocks -/
def Off (S : List Nat) (v : Value) (xs : List Value) : Prop := xs = [] ∨ ∀ b o k c, v = .slice (some ⟨b, o, none⟩) k c → b ∉ S
theorem Row.st {w0 w : World} {S : List Nat} {l : List (Nat × Obj)} {v : Value} {k : Nat} {xs : List Value} (h : Row w0 v k xs) (ho : Off S v xs) (hw : St w0 S l w) : Row w v k xs := by
  obtain ⟨a, c, hv, hk, h⟩ := h
  refine ⟨a, c, hv, hk, ?_⟩
  by_cases hx : xs = []
  · exact .inl hx
  · rcases h with h | ⟨b, o, ha, hc⟩
    · exact absurd h hx
    · refine .inr ⟨b, o, ha, hc.blk (hw.keep b (hc.lt hx) ?_)⟩
      rcases ho with h | h
      · exact absurd h hx
      · exact h b o k c (by rw [hv, ha])
theorem Row.own {w0 w : World} {S : List Nat} {l : List (Nat × Obj)} {b o k c : Nat} {cs xs : List Value} {tb : TypeId} {fr : Nat × Nat} (hw : St w0 S l w) (hm : (b, Obj.cells cs.toArray tb fr) ∈ l) (hx : (cs.drop o).take xs.length = xs) (hk : k ≤ c) :
    Row w (.slice (some ⟨b, o, none⟩) k c) k xs := ⟨_, c, rfl, hk, .inr ⟨b, o, rfl, Cells.of_block (hw.own _ hm) hx⟩⟩

/-- a slice that the call has made: nil, or the head of a block -/
def Vec (t sz : Nat) (v : Value) (k : Nat) (xs : List Value) (lp : List (Nat × Obj)) : Prop :=
  xs.length = k * sz ∧ ((v = .slice none 0 0 ∧ k = 0 ∧ lp = []) ∨ ∃ b c sp, v = .slice (some ⟨b, 0, none⟩) k c ∧ lp = [(b, cb (xs ++ sp) t)] ∧ (xs ++ sp).length = c * sz ∧ k ≤ c)
theorem Vec.row {w0 w : World} {S : List Nat} {l lp : List (Nat × Obj)} {t sz : Nat} {v : Value} {k : Nat} {xs : List Value} (h : Vec t sz v k xs lp) (hw : St w0 S (lp ++ l) w) : Row w v k xs := by
  obtain ⟨hl, h⟩ := h
  rcases h with ⟨rfl, rfl, rfl⟩ | ⟨b, c, sp, rfl, rfl, _, hk⟩
  · exact ⟨none, 0, rfl, Nat.le_refl _, .inl (List.eq_nil_of_length_eq_zero (by simpa using hl))⟩
  · exact Row.own (cs := xs ++ sp) (tb := t) (fr := (0, 0)) hw (.head _) (by simp) hk
theorem Vec.nil (t sz : Nat) : Vec t sz (.slice none 0 0) 0 [] [] := ⟨by simp, .inl ⟨rfl, rfl, rfl⟩⟩

theorem run_firstCells {P : Program} {w : World} {v : Value} {k sz : Nat} {xs : List Value} (h : Row w v k xs) (hl : xs.length = k * sz) : (Builtin.firstCells sz k v).run P w = .ok xs.toArray w := by
  obtain ⟨a, c, rfl, _, h⟩ := h
  cases a with
  | none =>
    have : xs = [] := by
      rcases h with h | ⟨b, o, ha, _⟩
      · exact h
      · cases ha
    subst this
    simp [Builtin.firstCells]
  | some a =>
    rcases h with h | ⟨b, o, ha, hc⟩
    · subst h
      simp only [List.length_nil] at hl
      simp [Builtin.firstCells, loadCells, ← hl, loadCellsFrom]
    · simp only [Option.some.injEq] at ha
      subst ha
      simp only [Builtin.firstCells, loadCells]
      rw [run_loadCellsFrom (k * sz) 0 #[] xs hl (fun j hj => by rw [Nat.zero_add]; exact hc j (by omega))]
      simp

theorem zeroCells_size (z : Array Value) (n : Nat) : (Builtin.zeroCells z n).size = n * z.size := by simp [Builtin.zeroCells]

/-- what append does with a slice of the call's own -/
theorem run_append {P : Program} {w0 w : World} {S : List Nat} {l lp : List (Nat × Obj)} {t sz ty tx tr : Nat} {by_ : Nat} {zv : Value} {v x : Value} {k m : Nat} {xs ys : List Value}
    (he : elemT P ty = some t) (hs : sizeT P t = some sz) (hbb : bytesT P t = some by_) (hz : zeroT P t = some zv) (hzc : zv.cells.size = sz) (hx : (∃ e', P.underlying tx = some (.slice e')) ∨ P.underlying tx = some .string)
    (hv : Vec t sz v k xs lp) (hw : St w0 S (lp ++ l) w) (hr : Row w x m ys ∨ ∃ s : ByteArray, x = .string s ∧ s.size = m ∧ sz = 1 ∧ ys = (s.data.toList.map fun b => .int .u8 b.toNat)) (hm : ys.length = m * sz) (hone : ∀ y, y ∈ ys → y.oneCell' = true)
    (hbound : (k + m) * by_ ≤ 140737488355328) (h63 : k + m ≤ 9223372036854775807) :
    ∃ v' w' lp', (Builtin.append_ #[ty, tx] tr #[v, x]).run P w = .ok v' w' ∧ Vec t sz v' (k + m) (xs ++ ys) lp' ∧ St w0 S (lp' ++ l) w' := by
  have hu : P.underlying ty = some (.slice t) := by
    unfold elemT at he
    split at he
    · rename_i e' hu; simp only [Option.some.injEq] at he; rw [hu, he]
    · cases he
  have hinfo : ∃ i, P.info? t = some i ∧ i.bytes = by_ := by
    unfold bytesT at hbb
    cases h : P.info? t with
    | none => rw [h] at hbb; cases hbb
    | some i => rw [h] at hbb; simp at hbb; exact ⟨i, rfl, hbb⟩
  obtain ⟨inf, hi1, hi2⟩ := hinfo
  have hti : ∀ w : World, (typeInfo t).run P w = .ok inf w := fun w => by simp [typeInfo, hi1]
  have hlen : (Builtin.lenOf x).run P w = .ok m w := by
    rcases hr with ⟨a, c, rfl, _⟩ | ⟨s, rfl, hs1, _⟩
    · rfl
    · simp [Builtin.lenOf, hs1]
  have hfirst : (Builtin.firstCells sz m x).run P w = .ok ys.toArray w := by
    rcases hr with hr | ⟨s, rfl, hs1, rfl, hys⟩
    · exact run_firstCells hr hm
    · simp only [Builtin.firstCells, Sem.run_pure]
      congr 1
      subst hs1
      rw [hys]
      have hx : (Array.map (fun b : UInt8 => Value.int IntKind.u8 (b.toNat : Int)) s.data).extract 0 s.size = Array.map (fun b : UInt8 => Value.int IntKind.u8 (b.toNat : Int)) s.data := by
        have hs : s.size = (Array.map (fun b : UInt8 => Value.int IntKind.u8 (b.toNat : Int)) s.data).size := by rw [Array.size_map]; rfl
        rw [hs, Array.extract_size]
      have hy : (s.extract 0 s.size).data.map (fun b : UInt8 => Value.int IntKind.u8 (b.toNat : Int)) = Array.map (fun b : UInt8 => Value.int IntKind.u8 (b.toNat : Int)) s.data := by
        rw [ByteArray.extract_zero_size]
      rw [hy]
      apply Array.ext'
      simp
  obtain ⟨base, c, hvv, hlx, hbase⟩ : ∃ base c, v = .slice base k c ∧ xs.length = k * sz ∧ ((base = none ∧ k = 0 ∧ c = 0 ∧ lp = []) ∨ ∃ b sp, base = some ⟨b, 0, none⟩ ∧ lp = [(b, cb (xs ++ sp) t)] ∧ (xs ++ sp).length = c * sz ∧ k ≤ c) := by
    obtain ⟨hl, h⟩ := hv
    rcases h with ⟨rfl, rfl, rfl⟩ | ⟨b, c, sp, rfl, rfl, h2, hk⟩
    · exact ⟨none, 0, rfl, hl, .inl ⟨rfl, rfl, rfl, rfl⟩⟩
    · exact ⟨_, c, rfl, hl, .inr ⟨b, sp, rfl, rfl, h2, hk⟩⟩
  have hrowv : Row w v k xs := hv.row hw
  subst hvv
  have hti2 : ∀ w : World, (zeroValue t).run P w = .ok zv w := run_zeroValue' hz
  have hsz : ∀ w : World, (sizeOf t).run P w = .ok sz w := run_sizeOf hs
  have hin : k + m ≤ c → (Builtin.append_ #[ty, tx] tr #[.slice base k c, x]).run P w =
        (match base with
          | some a => ((storeCells (a.add (k * sz)) ys).run P w).andThen fun _ w' => Result.ok (Value.slice base (k + m) c) w'
          | none => Result.ok (Value.slice base (k + m) c) w) := by
    intro hc
    rcases hx with ⟨e', hdx⟩ | hdx <;> cases base <;>
      simp [Builtin.append_, run_underlying' hu, run_underlying' hdx, hsz, hlen, hc, hfirst]
  have hout : ¬ k + m ≤ c → ∀ (old new : Array Value), (Builtin.firstCells sz k (.slice base k c)).run P w.drew = .ok old w.drew → (Builtin.firstCells sz m x).run P w.drew = .ok new w.drew →
      (Builtin.append_ #[ty, tx] tr #[.slice base k c, x]).run P w = .ok (.slice (some ⟨w.heap.size, 0, none⟩) (k + m) (grownCap w (k + m) c t))
        (w.drew.alloc (.cells (old ++ (new ++ Builtin.zeroCells zv.cells (grownCap w (k + m) c t - (k + m)))) t)) := by
    intro hc old new ho hn
    have h63' : ¬ (9223372036854775807 < ((k : Int) + (m : Int))) := by omega
    have hfit : Builtin.nextslicecap (k + m) c * inf.bytes ≤ 281474976710656 := growslice_fits (by omega) (by rw [hi2]; exact hbound)
    have h48' : ¬ (281474976710656 < Builtin.nextslicecap (k + m) c * inf.bytes) := by omega
    rcases hx with ⟨e', hdx⟩ | hdx <;>
      simp [Builtin.append_, run_underlying' hu, run_underlying' hdx, hsz, hlen, hc, hti, h63', h48', Question.forced, ho, hn, hti2, newRow, grownCap]
  by_cases hc : k + m ≤ c
  · rcases hbase with ⟨rfl, rfl, rfl, rfl⟩ | ⟨b, sp, rfl, rfl, h2, hk⟩
    · obtain rfl : m = 0 := by omega
      have h1 : xs = [] := List.eq_nil_of_length_eq_zero (by simpa using hlx)
      have h3 : ys = [] := List.eq_nil_of_length_eq_zero (by simpa using hm)
      subst h1; subst h3
      exact ⟨_, w, [], hin (by omega), ⟨by simp, .inl ⟨rfl, rfl, rfl⟩⟩, hw⟩
    · have hle : k * sz + ys.length ≤ (xs ++ sp).length := by
        rw [h2, hm, ← Nat.add_mul]; exact Nat.mul_le_mul_right _ hc
      obtain ⟨w', hr', hw'⟩ := run_storeCells (P := P) (t := t) ys w (xs ++ sp) (k * sz) 0 (hw.own _ (.head _)) (by omega) hone
      have hset : setMany (xs ++ sp) (k * sz + 0) ys = xs ++ ys ++ sp.drop ys.length := by
        rw [Nat.add_zero, setMany_eq _ _ _ hle, ← hlx]
        simp [List.drop_append]
      refine ⟨.slice (some ⟨b, 0, none⟩) (k + m) c, w', [(b, cb (xs ++ ys ++ sp.drop ys.length) t)], ?_, ⟨?_, .inr ⟨b, c, sp.drop ys.length, rfl, rfl, ?_, hc⟩⟩, ?_⟩
      · rw [hin hc]
        simp only [addr_add, Nat.zero_add]
        have : (storeCells ⟨b, k * sz, none⟩ ys).run P w = .ok () w' := hr'
        rw [this]; rfl
      · simp [hlx, hm, Nat.add_mul]
      · simp only [List.length_append, List.length_drop] at h2 hle ⊢; omega
      · rw [hset] at hw'
        exact hw.wrote (l' := (b, cb (xs ++ ys ++ sp.drop ys.length) t) :: l) .here hw'
  · have hrowx' : (Builtin.firstCells sz m x).run P w.drew = .ok ys.toArray w.drew := by
      rcases hr with hr | ⟨s, rfl, hs1, rfl, hys⟩
      · exact run_firstCells (w := w.drew) hr hm
      · simp only [Builtin.firstCells, Sem.run_pure] at hfirst ⊢
        simp only [Result.ok.injEq, and_true] at hfirst
        rw [hfirst]
    have hrowv' : (Builtin.firstCells sz k (.slice base k c)).run P w.drew = .ok xs.toArray w.drew := run_firstCells (w := w.drew) hrowv hlx
    have hncl := grownCap_ge w (k + m) c t
    have h1 : St w0 S l w := hw.drop (List.sublist_append_right lp l)
    have hrun := hout hc _ _ hrowv' hrowx'
    generalize grownCap w (k + m) c t = nc at hncl hrun
    have hz2 : (Builtin.zeroCells zv.cells (nc - (k + m))).size = (nc - (k + m)) * sz := by rw [zeroCells_size, hzc]
    have hobj : (Obj.cells (xs.toArray ++ (ys.toArray ++ Builtin.zeroCells zv.cells (nc - (k + m)))) t) = cb (xs ++ ys ++ (Builtin.zeroCells zv.cells (nc - (k + m))).toList) t := by
      simp [cb]
    rw [hobj] at hrun
    refine ⟨_, _, [(w.heap.size, cb (xs ++ ys ++ (Builtin.zeroCells zv.cells (nc - (k + m))).toList) t)], hrun, ⟨by simp [hlx, hm, Nat.add_mul], .inr ⟨_, nc, _, rfl, rfl, ?_, hncl⟩⟩, ?_⟩
    · simp only [List.length_append, Array.length_toList, hz2, hlx, hm]
      rw [← Nat.add_mul, ← Nat.add_mul]; congr 1; omega
    · have h2 : Bel w (w.drew.alloc (cb (xs ++ ys ++ (Builtin.zeroCells zv.cells (nc - (k + m))).toList) t)) := ((Bel.refl w).drew).alloc _
      exact h1.new h2 (Nat.le_refl _) (alloc_at w.drew _)
end Go.J
/-
  The calculus' rules for slices. Proved over any program.
-/
namespace Go.J
open Go.RowKit
set_option linter.unusedVariables false
set_option linter.unusedSimpArgs false

theorem elem_u {P : Program} {ty t : TypeId} (he : elemT P ty = some t) : P.underlying ty = some (.slice t) := by
  unfold elemT at he
  split at he
  · rename_i e' hu; simp only [Option.some.injEq] at he; rw [hu, he]
  · cases he
theorem arr_u {P : Program} {ty t n : Nat} (he : arrT P ty = some (n, t)) : P.underlying ty = some (.array n t) := by
  unfold arrT at he
  split at he
  · rename_i n' e' hu; simp only [Option.some.injEq, Prod.mk.injEq] at he; obtain ⟨rfl, rfl⟩ := he; exact hu
  · cases he

/-- the cells of a string's bytes -/
abbrev u8 (b : UInt8) : Value := .int .u8 (b.toNat : Int)
def optI (e : Env) : Option Operand → Option (Option Value)
  | none => some none
  | some x => match ev e x with
    | some v => some (some v)
    | none => none
theorem Rep.optI {n : Nat} {T : Array Value} {e : Env} (h : Rep n T e) {x : Option Operand} {v : Option Value} (hx : optI e x = some v) : x.map (act T).eval = v := by
  cases x with
  | none => simp only [J.optI, Option.some.injEq] at hx; subst hx; rfl
  | some x =>
    simp only [J.optI] at hx
    split at hx
    · rename_i u hu; simp only [Option.some.injEq] at hx; subst hx; simp [h.eval hu]
    · cases hx

theorem wrap_i64 {n : Int} (h1 : -9223372036854775808 ≤ n) (h2 : n < 9223372036854775808) : IntKind.i64.wrap n = n := by
  have e1 : ((2 : Int) ^ 64) = 18446744073709551616 := by decide
  have e2 : ((2 : Int) ^ (64 - 1)) = 9223372036854775808 := by decide
  simp only [IntKind.wrap, IntKind.bits, IntKind.signed, Bool.true_and, decide_eq_true_eq, e1, e2]
  split <;> omega
theorem wrap_u64 {n : Int} (h1 : 0 ≤ n) (h2 : n < 18446744073709551616) : IntKind.u64.wrap n = n := by
  have e1 : ((2 : Int) ^ 64) = 18446744073709551616 := by decide
  simp only [IntKind.wrap, IntKind.bits, IntKind.signed, Bool.false_and, e1]
  rw [if_neg (by simp)]; omega
theorem wrap_u8m (n : Int) : IntKind.u8.wrap n = n % 256 := by
  have e1 : ((2 : Int) ^ 8) = 256 := by decide
  simp only [IntKind.wrap, IntKind.bits, IntKind.signed, Bool.false_and, e1]
  rw [if_neg (by simp)]

/-- the bounds of x[lo:hi] -/
def bnd (d : Nat) : Option Value → Option Nat
  | none => some d
  | some (.int _ i) => if 0 ≤ i then some i.toNat else none
  | _ => none
theorem run_sliceBounds {P : Program} (isS : Bool) {len cap a b : Nat} {lo hi : Option Value} (hl : bnd 0 lo = some a) (hh : bnd len hi = some b) (h1 : a ≤ b) (h2 : b ≤ cap) (w : World) (h3 : hi = none → len ≤ cap) :
    (Instr.sliceBounds isS len cap lo hi none).run P w = .ok (a, b, cap) w := by
  have e1 : ∀ (x : Value) (y c : Nat) (code : BoundsCode), bnd 0 (some x) = some c → c ≤ y → (Instr.sliceBound x y code).run P w = .ok c w := by
    intro x y c code hb hle
    cases x <;> simp only [bnd, reduceCtorEq] at hb
    rename_i k i
    split at hb
    · rename_i h0
      simp only [Option.some.injEq] at hb
      have : i ≤ (y : Int) := by omega
      simp [Instr.sliceBound, asIntOf, h0, this, hb]
    · cases hb
  have hh' : ∀ x, hi = some x → bnd 0 (some x) = some b := by
    intro x hx; subst hx; cases x <;> exact hh
  have hl' : ∀ x, lo = some x → bnd 0 (some x) = some a := by
    intro x hx; subst hx; exact hl
  cases hi with
  | none =>
    simp only [bnd, Option.some.injEq] at hh
    subst hh
    cases lo with
    | none => simp only [bnd, Option.some.injEq] at hl; subst hl; simp [Instr.sliceBounds]
    | some x => simp [Instr.sliceBounds, e1 x len a .sliceB (hl' x rfl) h1]
  | some y =>
    have hy := e1 y cap b (if isS then .sliceAcap else .sliceAlen) (hh' y rfl) h2
    cases lo with
    | none => simp only [bnd, Option.some.injEq] at hl; subst hl; simp [Instr.sliceBounds, hy]
    | some x => simp [Instr.sliceBounds, hy, e1 x b a .sliceB (hl' x rfl) h1]

section
variable {P : Program} {ops : Array Oper} {Q : Exit → Act → World → Prop} {n : Nat} {e : Env} {I I' : World → Prop} {rest : List Oper}
variable {d t : Nat} {p : String} {af : Array Edge} {x y z : Operand} {v v1 v2 : Value} {w0 : World} {S : List Nat} {l l' lp : List (Nat × Obj)}

/-- a[lo:hi] of an array behind a pointer -/
theorem J.sliceA {ty el : TypeId} {len sz b o i j : Nat} {lo hi : Option Operand} {vl vh : Option Value} (he : arrT P ty = some (len, el)) (hs : sizeT P el = some sz) (hx : ev e x = some (.pointer (some ⟨b, o, none⟩)))
    (hlo : optI e lo = some vl) (hhi : optI e hi = some vh) (h1 : bnd 0 vl = some i) (h2 : bnd len vh = some j) (h3 : i ≤ j) (h4 : j ≤ len) (hd : Nat.blt d n = true)
    (h : J P ops Q n rest ((d, .slice (some ⟨b, if len = i then o else o + i * sz, none⟩) (j - i) (len - i)) :: e) I) : J P ops Q n (⟨some d, .slice ty x lo hi none, t, p, af, none⟩ :: rest) e I := by
  refine J.value hd (fun T w ht hw => ⟨w, ?_, hw⟩) h
  have hb := run_sliceBounds (P := P) false h1 h2 h3 h4 w (fun _ => Nat.le_refl _)
  simp only [execOp, ht.eval hx, Instr.sliceAt, run_underlying' (arr_u he), Sem.run_bind, Result.andThen_ok, Instr.sureAddr, Sem.run_pure, ht.optI hlo, ht.optI hhi, Option.map_none, hb, run_sizeOf hs]
  congr 3
  split
  · rfl
  · rw [addr_add]
/-- s[lo:hi] of a slice -/
theorem J.sliceS {ty el : TypeId} {sz k c i j : Nat} {a : Option Addr} {lo hi : Option Operand} {vl vh : Option Value} (he : elemT P ty = some el) (hs : sizeT P el = some sz) (hx : ev e x = some (.slice a k c))
    (hlo : optI e lo = some vl) (hhi : optI e hi = some vh) (h1 : bnd 0 vl = some i) (h2 : bnd k vh = some j) (h3 : i ≤ j) (h4 : j ≤ c) (h5 : k ≤ c) (hd : Nat.blt d n = true)
    (h : J P ops Q n rest ((d, .slice (if c = i then a else a.map (·.add (i * sz))) (j - i) (c - i)) :: e) I) : J P ops Q n (⟨some d, .slice ty x lo hi none, t, p, af, none⟩ :: rest) e I := by
  refine J.value hd (fun T w ht hw => ⟨w, ?_, hw⟩) h
  have hb := run_sliceBounds (P := P) true h1 h2 h3 h4 w (fun _ => h5)
  simp only [execOp, ht.eval hx, Instr.sliceAt, Instr.slice, run_underlying' (elem_u he), Sem.run_bind, Result.andThen_ok, Sem.run_pure, ht.optI hlo, ht.optI hhi, Option.map_none, hb, run_sizeOf hs]

/-- append -/
theorem J.append {ty tx el sz by_ k m : Nat} {zv : Value} {xs ys : List Value} (he : elemT P ty = some el) (hs : sizeT P el = some sz) (hbb : bytesT P el = some by_) (hz : zeroT P el = some zv) (hzc : zv.cells.size = sz)
    (htx : (∃ e', P.underlying tx = some (.slice e')) ∨ P.underlying tx = some .string)
    (hx : ev e x = some v1) (hy : ev e y = some v2) (hv : Vec el sz v1 k xs lp)
    (hr : ∀ w, St w0 S (lp ++ l) w → Row w v2 m ys ∨ ∃ s : ByteArray, v2 = .string s ∧ s.size = m ∧ sz = 1 ∧ ys = (s.data.toList.map fun b => .int .u8 b.toNat)) (hm : ys.length = m * sz) (hone : ∀ y, y ∈ ys → y.oneCell' = true)
    (hbound : (k + m) * by_ ≤ 140737488355328) (h63 : k + m ≤ 9223372036854775807) (hd : Nat.blt d n = true)
    (h : ∀ v' lp', Vec el sz v' (k + m) (xs ++ ys) lp' → J P ops Q n rest ((d, v') :: e) (St w0 S (lp' ++ l))) :
    J P ops Q n (⟨some d, .call ⟨.builtin .append, #[x, y], #[ty, tx]⟩, t, p, af, none⟩ :: rest) e (St w0 S (lp ++ l)) := by
  refine J.valueEx (α := Value × List (Nat × Obj)) (V := (·.1)) (I' := fun q w => Vec el sz q.1 (k + m) (xs ++ ys) q.2 ∧ St w0 S (q.2 ++ l) w) hd (fun T w ht hw => ?_) (fun q => J.pr fun hq => h q.1 q.2 hq)
  obtain ⟨v', w', lp', hrun, hvec, hst⟩ := run_append (P := P) (tr := t) he hs hbb hz hzc htx hv hw (hr w hw) hm hone hbound h63
  exact ⟨(v', lp'), w', by simp [execOp, resolve, invoke, builtin, ht.eval hx, ht.eval hy, hrun], hvec, hst⟩

/-- copy into a known block -/
theorem J.copy {ty tx el b o k c m kb : Nat} {cs ys : List Value} {tb : TypeId} {dd : Option Nat} (he : elemT P ty = some el) (hs : sizeT P el = some 1)
    (hx : ev e x = some (.slice (some ⟨b, o, none⟩) k c)) (hy : ev e y = some v2) (hr : ∀ w, St w0 S l w → Row w v2 m ys ∧ ∃ a c, v2 = .slice a m c) (hm : ys.length = m) (hone : ∀ y, y ∈ ys → y.oneCell' = true)
    (hk : min m k = kb) (hu : Up l b (cb cs tb) (cb (setMany cs o (ys.take kb)) tb) l') (hl : o + k ≤ cs.length)
    (hdd : dd = none ∨ ∃ d', dd = some d' ∧ Nat.blt d' n = true)
    (h : J P ops Q n rest (match dd with | some d' => (d', .int .i64 kb) :: e | none => e) (St w0 S l')) :
    J P ops Q n (⟨dd, .call ⟨.builtin .copy, #[x, y], #[ty, tx]⟩, t, p, af, none⟩ :: rest) e (St w0 S l) := by
  have key : ∀ T w, Rep n T e → St w0 S l w → ∃ w', (execOp (act T).eval ⟨dd, .call ⟨.builtin .copy, #[x, y], #[ty, tx]⟩, t, p, af, none⟩).run P w = .ok (.value (.int .i64 kb)) w' ∧ St w0 S l' w' := by
    intro T w ht hw
    obtain ⟨hrow, a, c', rfl⟩ := hr w hw
    have hrow2 : Row w (.slice a kb c') kb (ys.take kb) := by
      obtain ⟨a1, c1, hv, hk1, h1⟩ := hrow
      simp only [Value.slice.injEq] at hv
      obtain ⟨rfl, _, rfl⟩ := hv
      refine ⟨a, c', rfl, by omega, ?_⟩
      rcases h1 with h1 | ⟨b1, o1, h1, h2⟩
      · exact .inl (by rw [h1]; simp)
      · refine .inr ⟨b1, o1, h1, fun j hj => ?_⟩
        simp only [List.length_take] at hj
        rw [h2 j (by omega), List.getElem?_take_of_lt (by omega)]
    have hlt : (ys.take kb).length = kb * 1 := by simp only [List.length_take]; omega
    have hfc : (Builtin.firstCells 1 kb (.slice a m c')).run P w = .ok (ys.take kb).toArray w := by
      have := run_firstCells (P := P) hrow2 hlt
      cases a <;> simpa [Builtin.firstCells] using this
    obtain ⟨w', hr', hw'⟩ := run_storeCells (P := P) (t := tb) (ys.take kb) w cs o 0 (hw.own _ hu.mem) (by simp only [List.length_take]; omega) (fun v hv => hone v (List.mem_of_mem_take hv))
    refine ⟨w', ?_, hw.wrote hu hw'⟩
    have hmin : Nat.min m k = kb := hk
    simp [execOp, resolve, invoke, builtin, Builtin.copy_, ht.eval hx, ht.eval hy, run_underlying' (elem_u he), Builtin.lenOf, hmin, run_sizeOf hs, hfc, hr', goInt]
  rcases hdd with rfl | ⟨d', rfl, hd'⟩
  · exact J.valueN (fun T w ht hw => ⟨_, key T w ht hw⟩) h
  · exact J.value hd' (fun T w ht hw => key T w ht hw) h

/-- make([]T, k) -/
theorem J.make {ty el sz by_ : Nat} {zv : Value} {zs : List Value} {k : Int} {ik jk : IntKind} (he : elemT P ty = some el) (hs : sizeT P el = some sz) (hbb : bytesT P el = some by_) (hz : zeroT P el = some zv) (hzc : zv.cells = zs.toArray) (hzl : zs.length = sz)
    (hx : ev e x = some (.int ik k)) (hy : ev e y = some (.int jk k)) (h0 : 0 ≤ k) (h48 : (by_ : Int) * k ≤ 281474976710656) (h63 : k < 9223372036854775808) (hd : Nat.blt d n = true)
    (h : ∀ b, J P ops Q n rest ((d, .slice (some ⟨b, 0, none⟩) k.toNat k.toNat) :: e) (St w0 S ((b, cb (List.replicate k.toNat zs).flatten el) :: l))) :
    J P ops Q n (⟨some d, .makeSlice ty x y, t, p, af, none⟩ :: rest) e (St w0 S l) := by
  have hinfo : ∃ i, P.info? el = some i ∧ i.bytes = by_ := by
    unfold bytesT at hbb
    cases h : P.info? el with
    | none => rw [h] at hbb; cases hbb
    | some i => rw [h] at hbb; simp at hbb; exact ⟨i, rfl, hbb⟩
  obtain ⟨inf, hi1, hi2⟩ := hinfo
  have hwrap : IntKind.i64.wrap k = k := wrap_i64 (by omega) h63
  have hnot : ¬ (k < 0 ∨ 281474976710656 < (by_ : Int) * k) := by omega
  have hcells : (Array.range (k.toNat * sz)).map (zv.cells[· % zv.cells.size]!) = ((List.replicate k.toNat zs).flatten).toArray := by
    rw [hzc]
    apply Array.ext'
    simp only [Array.toList_map, Array.toList_range, List.size_toArray, hzl]
    apply List.ext_getElem?
    intro i
    have hfl : ∀ (m i : Nat), ((List.replicate m zs).flatten)[i]? = if i < m * sz then zs[i % sz]? else none := by
      intro m
      induction m with
      | zero => intro i; simp
      | succ m ih =>
        intro i
        rw [List.replicate_succ, List.flatten_cons, List.getElem?_append, hzl, ih]
        by_cases h1 : i < sz
        · rw [if_pos h1, if_pos (by rw [Nat.add_mul]; omega), Nat.mod_eq_of_lt h1]
        · rw [if_neg h1]
          have : i % sz = (i - sz) % sz := by
            rw [Nat.mod_eq_sub_mod (by omega)]
          by_cases h2 : i - sz < m * sz
          · rw [if_pos h2, if_pos (by rw [Nat.add_mul]; omega), this]
          · rw [if_neg h2, if_neg (by rw [Nat.add_mul]; omega)]
    rw [hfl, List.getElem?_map]
    by_cases h1 : i < k.toNat * sz
    · rw [if_pos h1, List.getElem?_range h1]
      have h2 : 0 < sz := by
        rcases Nat.eq_zero_or_pos sz with h | h
        · rw [h] at h1; omega
        · exact h
      have h3 : i % sz < zs.length := by rw [hzl]; exact Nat.mod_lt _ h2
      rw [Option.map_some, List.getElem?_eq_getElem h3]
      congr 1
      rw [getElem!_pos zs.toArray (i % sz) (by simpa using h3)]
      simp
    · rw [if_neg h1, List.getElem?_eq_none (by simp; omega)]; rfl
  refine J.valueEx (V := fun b => .slice (some ⟨b, 0, none⟩) k.toNat k.toNat) hd (fun T w ht hw => ⟨w.heap.size, w.alloc (cb (List.replicate k.toNat zs).flatten el), ?_, ?_⟩) h
  · have hti : (typeInfo el).run P w = .ok inf w := by simp [typeInfo, hi1]
    have hnot' : ¬ (281474976710656 < (inf.bytes : Int) * k) := by rw [hi2]; omega
    have hneg : ¬ (k < 0) := by omega
    by_cases hz0 : k.toNat * sz = 0
    · have he0 : (List.replicate k.toNat zs).flatten = [] := List.eq_nil_of_length_eq_zero (by simp [hzl, hz0])
      simp [execOp, ht.eval hx, ht.eval hy, Instr.makeSlice, run_underlying' (elem_u he), asInt, asIntOf, hti, hwrap, run_sizeOf hs, hneg, hnot', hz0, newRow, cb, he0]
      rw [show (Array.range 0).map (fun _ : Nat => (default : Value)) = #[] from Array.ext' (by simp)]
    · simp [execOp, ht.eval hx, ht.eval hy, Instr.makeSlice, run_underlying' (elem_u he), asInt, asIntOf, hti, hwrap, run_sizeOf hs, hneg, hnot', hz0, newRow, cb, run_zeroValue' hz, hcells]
  · exact hw.new (below_alloc' w _) (Nat.le_refl _) (alloc_at w _)
end
end Go.J
/-
  The calculus' rule for a region that draws its order: the first N operations, which change nothing that was there, in whatever order; the others behind them, in theirs. Proved over any program.
-/
namespace Go.J
open Go.RowKit
set_option linter.unusedVariables false
set_option linter.unusedSimpArgs false

/-- what one operation of the head leaves: its slot d holds some v of which φ is known; nothing that was there has changed -/
def QF (d : Nat) (φ : Value → World → Prop) (wi : World) (x : Exit) (a : Act) (w : World) : Prop :=
  x = .normal ∧ a.defers = [] ∧ (∃ v, a.tmps[d]? = some v ∧ φ v w) ∧ Bel wi w

theorem JX.fin {n d : Nat} {φ : Value → World → Prop} {wi : World} {e : Env} {I : World → Prop} {v : Value} (hv : get e d = some v) (h : ∀ w, I w → φ v w ∧ Bel wi w) : JX (QF d φ wi) n .normal e I :=
  fun _ w ht hw => ⟨rfl, rfl, ⟨v, ht.2 d v hv, (h w hw).1⟩, (h w hw).2⟩

def Fin (ds : List Nat) (Φ : Nat → Value → World → Prop) : List Nat → Env → (World → Prop) → (Env → (World → Prop) → Prop) → Prop
  | [], e, I, G => G e I
  | j :: js, e, I, G => ∀ v, Fin ds Φ js ((ds.getD j 0, v) :: e) (fun w => Φ j v w ∧ I w) G

theorem Fin.use {ds : List Nat} {Φ : Nat → Value → World → Prop} {n : Nat} {C : Array Value → World → Prop} : ∀ (js : List Nat) (e : Env) (I : World → Prop),
    Fin ds Φ js e I (fun e' I' => ∀ T w, Rep n T e' → I' w → C T w) → ∀ T w, Rep n T e → I w → (∀ j, j ∈ js → ∃ v, T[ds.getD j 0]? = some v ∧ Φ j v w) → C T w
  | [], _, _, h, T, w, ht, hw, _ => h T w ht hw
  | j :: js, e, I, h, T, w, ht, hw, hj => by
    obtain ⟨v, hv, hφ⟩ := hj j (.head _)
    refine Fin.use js _ _ (h v) T w ⟨ht.1, fun t u hu => ?_⟩ ⟨hφ, hw⟩ (fun k hk => hj k (.tail _ hk))
    simp only [J.get] at hu
    cases hb : Nat.beq (ds.getD j 0) t with
    | true =>
      rw [hb] at hu
      have : ds.getD j 0 = t := by simpa using hb
      subst this
      simp only [Option.some.injEq] at hu
      subst hu
      exact hv
    | false => rw [hb] at hu; exact ht.2 t u hu

/-- the operations that one waits for -/
def preds (o : Oper) : List Nat := (o.after.toList.filter (Region.binds .any)).map (·.on)
def dsts : List Oper → Option (List Nat)
  | [] => some []
  | o :: os => match o.dst, dsts os with
    | some d, some ds => some (d :: ds)
    | _, _ => none
theorem dsts_spec : ∀ {l : List Oper} {ds : List Nat}, dsts l = some ds → ds.length = l.length ∧ ∀ (i : Nat) (o : Oper), l[i]? = some o → o.dst = some (ds.getD i 0) ∧ ds.getD i 0 ∈ ds := by
  intro l
  induction l with
  | nil => intro ds h; simp only [dsts, Option.some.injEq] at h; subst h; exact ⟨rfl, fun i o ho => by simp at ho⟩
  | cons o os ih =>
    intro ds h
    simp only [dsts] at h
    split at h
    · rename_i d ds' hd hds
      simp only [Option.some.injEq] at h
      subst h
      obtain ⟨h1, h2⟩ := ih hds
      refine ⟨by simp [h1], fun i o' ho => ?_⟩
      cases i with
      | zero => simp only [List.getElem?_cons_zero, Option.some.injEq] at ho; subst ho; exact ⟨by simpa using hd, by simp⟩
      | succ i =>
        simp only [List.getElem?_cons_succ] at ho
        obtain ⟨h3, h4⟩ := h2 i o' ho
        exact ⟨by simpa using h3, by simp only [List.getD_cons_succ]; exact .tail _ h4⟩
    · cases h

def nodupB : List Nat → Bool
  | [] => true
  | x :: xs => !(xs.any (Nat.beq x)) && nodupB xs
theorem nodupB_spec : ∀ {l : List Nat}, nodupB l = true → ∀ i j, i < l.length → j < l.length → l.getD i 0 = l.getD j 0 → i = j := by
  intro l
  induction l with
  | nil => intro _ i j hi; simp at hi
  | cons x xs ih =>
    intro h i j hi hj he
    simp only [nodupB, Bool.and_eq_true, Bool.not_eq_true', List.any_eq_false] at h
    have hx : ∀ k, k < xs.length → x ≠ xs.getD k 0 := by
      intro k hk e
      have hm : xs.getD k 0 ∈ xs := by
        rw [List.getD_eq_getElem?_getD, List.getElem?_eq_getElem hk]; simp
      have := h.1 _ hm
      rw [← e] at this
      simp at this
    cases i with
    | zero =>
      cases j with
      | zero => rfl
      | succ j => simp only [List.getD_cons_zero, List.getD_cons_succ, List.length_cons] at he hj; exact absurd he (hx j (by omega))
    | succ i =>
      cases j with
      | zero => simp only [List.getD_cons_zero, List.getD_cons_succ, List.length_cons] at he hi; exact absurd he.symm (hx i (by omega))
      | succ j => simp only [List.getD_cons_succ, List.length_cons] at he hi hj; rw [ih h.2 i j (by omega) (by omega) he]

def backB (l : List Oper) (N : Nat) : Bool := (l.take N).zipIdx.all fun (o, i) => (preds o).all fun j => Nat.blt j i
theorem backB_spec {l : List Oper} {N : Nat} (h : backB l N = true) {i : Nat} {o : Oper} (hi : i < N) (ho : l[i]? = some o) : ∀ j, j ∈ preds o → j < i := by
  intro j hj
  simp only [backB, List.all_eq_true] at h
  have hm : (o, i) ∈ (l.take N).zipIdx := by
    rw [List.mem_zipIdx_iff_getElem?]
    simp [hi, ho]
  have := h _ hm j hj
  exact Nat.blt_eq.mp this

def headB (l : List Oper) (N : Nat) : Bool :=
  backB l N && Region.seqB .any l.toArray (l.length - N) N ((List.replicate N true ++ List.replicate (l.length - N) false).toArray) &&
    (Nat.beq N l.length || (Nat.blt N l.length && Region.sinkB .any l.toArray N && Region.chainB .any l.toArray N))

theorem wpOp_of_list {P : Program} {ops : Array Oper} {Q : Exit → Act → World → Prop} {i d : Nat} {o : Oper} {T : Array Value} {w wi : World} {φ : Value → World → Prop} {K : Act → World → Prop}
    (ho : ops[i]? = some o) (hd : o.dst = some d) (h : wpList P ops (QF d φ wi) [o] (act T) w)
    (hk : ∀ v w', (act (T.setIfInBounds d v)).tmps[d]? = some v → φ v w' → Bel wi w' → K (act (T.setIfInBounds d v)) w') (hlt : d < T.size) : wpOp P ops Q i K (act T) w := by
  have hget : ∀ v, (T.setIfInBounds d v)[d]? = some v := fun v => by simp [hlt]
  have fin : ∀ v w', QF d φ wi .normal (act (T.setIfInBounds d v)) w' → K (act (T.setIfInBounds d v)) w' := by
    rintro v w' ⟨_, _, ⟨u, hu, hφ⟩, hb⟩
    have : u = v := by
      have h1 : (T.setIfInBounds d v)[d]? = some u := hu
      rw [hget v] at h1
      exact (Option.some.inj h1).symm
    subst this
    exact hk u w' (hget u) hφ hb
  unfold wpOp
  simp only [ho]
  simp only [wpList] at h
  split at h
  · rename_i hw
    rw [if_pos hw]
    rcases h with h | ⟨_, ⟨_, _, h, _⟩⟩
    · left
      unfold Oper.wp at h ⊢
      generalize (execOp (act T).eval o).run P w = r at h
      cases r with
      | ok nx w' =>
        cases nx <;> simp only [Oper.upon, hd] at h ⊢
        case value v => exact fin v w' h
        case skip => exact fin undef w' h
        case defer dd => exact absurd h.2.1 (by simp [Act.put])
        case enter f args =>
          refine h.mono fun r w'' hr => ?_
          cases r with
          | returned v => exact fin v w'' hr
          | panicked c => exact absurd hr.1 (by simp)
          | outgrown => obtain ⟨_, _, h, _⟩ := hr; cases h
        case row row args => exact Rows.mono h fun v w'' hr => fin v w'' hr
      | halt x w' => cases x <;> simp only [Oper.upon] at h; exact absurd h.1 (by simp)
    · cases h
  · rename_i hw
    rw [if_neg hw]
    simp only [hd] at h ⊢
    exact fin undef w h

theorem all_below (listed : Array Bool) (N : Nat) : (∃ i, i < N ∧ listed.getD i true = false ∧ ∀ j, j < i → listed.getD j true = true) ∨ ∀ i, i < N → listed.getD i true = true := by
  induction N with
  | zero => right; intro i hi; omega
  | succ N ih =>
    rcases ih with ⟨i, hi, h1, h2⟩ | h
    · left; exact ⟨i, by omega, h1, h2⟩
    · cases hN : listed.getD N true with
      | true => right; intro i hi; by_cases h1 : i = N
                · subst h1; exact hN
                · exact h i (by omega)
      | false => left; exact ⟨N, by omega, hN, h⟩

def cnt (listed : Array Bool) : Nat → Nat
  | 0 => 0
  | N + 1 => (if listed.getD N true then 0 else 1) + cnt listed N
theorem cnt_set {listed : Array Bool} {i : Nat} (hsz : i < listed.size) (h : listed.getD i true = false) : ∀ N, i < N → cnt (listed.setIfInBounds i true) N + 1 = cnt listed N := by
  have hself : (listed.setIfInBounds i true).getD i true = true := by simp [hsz]
  have hsame : ∀ N, N ≤ i → cnt (listed.setIfInBounds i true) N = cnt listed N := by
    intro N
    induction N with
    | zero => intro _; rfl
    | succ N ih => intro hN; simp only [cnt]; rw [getD_set_ne true (by omega), ih (by omega)]
  intro N
  induction N with
  | zero => intro hi; omega
  | succ N ih =>
    intro hi
    simp only [cnt]
    by_cases h1 : i = N
    · subst h1
      rw [hself, h, hsame _ (Nat.le_refl _)]
      simp; omega
    · rw [getD_set_ne true h1]
      have := ih (by omega)
      omega
theorem cnt_zero {listed : Array Bool} : ∀ N, cnt listed N = 0 → ∀ i, i < N → listed.getD i true = true := by
  intro N
  induction N with
  | zero => intro _ i hi; omega
  | succ N ih =>
    intro h i hi
    simp only [cnt] at h
    by_cases h1 : i = N
    · subst h1
      cases hl : listed.getD i true with
      | true => rfl
      | false => rw [hl] at h; simp at h
    · exact ih (by omega) i (by omega)

theorem Rep.other {n d : Nat} {T : Array Value} {e : Env} (h : Rep n T e) (hd : get e d = none) (v : Value) : Rep n (T.setIfInBounds d v) e := by
  refine ⟨by simpa using h.1, fun t u hu => ?_⟩
  have : d ≠ t := by
    intro he
    subst he
    rw [hd] at hu; cases hu
  rw [Array.getElem?_setIfInBounds, if_neg this]
  exact h.2 t u hu

theorem JC.any {P : Program} {Q : Exit → Act → World → Prop} {n id : Nat} {l : List Oper} {e : Env} {I : World → Prop} (N : Nat) (Φ : Nat → Value → World → Prop) {ds : List Nat}
    (hm : P.follows .mixedOrders = true) (hds : dsts (l.take N) = some ds) (hnd : nodupB ds = true) (hN : Nat.ble N l.length = true) (hB : headB l N = true)
    (hlt : (ds.all fun d => Nat.blt d n) = true) (hkeys : (ds.all fun d => (get e d).isNone) = true)
    (hI : ∀ w w', I w → Bel w w' → I w') (hΦ : ∀ i v w w', Φ i v w → Bel w w' → Φ i v w')
    (hstep : ∀ (i : Nat) (o : Oper), i < N → l[i]? = some o → ∀ wi, Fin ds Φ (preds o) e (fun w => w = wi ∧ I w) (fun e' I' => J P l.toArray (QF (ds.getD i 0) (Φ i) wi) n [o] e' I'))
    (htail : Fin ds Φ (List.range N) e I (fun e' I' => J P l.toArray Q n (l.drop N) e' I')) : JC P Q n (.region id l.toArray true) e I := by
  intro T w ht hw
  refine wp_region_any hm ?_
  obtain ⟨hlen, hspec⟩ := dsts_spec hds
  have hN' : N ≤ l.length := Nat.le_of_ble_eq_true hN
  have htk : (l.take N).length = N := by simp; omega
  simp only [headB, Bool.and_eq_true, Bool.or_eq_true] at hB
  obtain ⟨⟨hback, hseq⟩, hsink⟩ := hB
  have hdst : ∀ i o, i < N → l[i]? = some o → o.dst = some (ds.getD i 0) ∧ ds.getD i 0 ∈ ds := by
    intro i o hi ho
    exact hspec i o (by rw [List.getElem?_take_of_lt hi]; exact ho)
  have hd1 : ∀ i, i < N → ds.getD i 0 < n ∧ get e (ds.getD i 0) = none := by
    intro i hi
    obtain ⟨o, ho⟩ : ∃ o, l[i]? = some o := ⟨_, List.getElem?_eq_getElem (by omega)⟩
    have hmem := (hdst i o hi ho).2
    have h1 := List.all_eq_true.1 hlt _ hmem
    have h2 := List.all_eq_true.1 hkeys _ hmem
    exact ⟨Nat.blt_eq.mp h1, by simpa using h2⟩
  have hinj : ∀ i j, i < N → j < N → ds.getD i 0 = ds.getD j 0 → i = j := fun i j hi hj => nodupB_spec hnd i j (by omega) (by omega)
  have key : ∀ (m : Nat) (listed : Array Bool) (T : Array Value) (w : World), cnt listed N = m → HeadInv .any l.toArray N listed → Rep n T e → I w → (∀ i, i < N → listed.getD i true = true → ∃ v, T[ds.getD i 0]? = some v ∧ Φ i v w) →
      wpAny P .any l.toArray Q (m + (l.length - N)) listed (act T) w := by
    intro m
    induction m with
    | zero =>
      intro listed T w hcnt inv ht hw hfacts
      have hall := cnt_zero N hcnt
      have hlisted : listed = (List.replicate N true ++ List.replicate (l.length - N) false).toArray := by
        have hs := inv.size
        simp only [List.size_toArray] at hs
        apply Array.ext
        · simp [hs]; omega
        · intro i hi1 hi2
          by_cases hiN : i < N
          · have := hall i hiN
            simp only [Array.getD_eq_getD_getElem?, Array.getElem?_eq_getElem hi1, Option.getD_some] at this
            rw [this]
            simp [List.getElem_append, hiN]
          · have := inv.tail i (by omega) (by simp; omega)
            simp only [Array.getD_eq_getD_getElem?, Array.getElem?_eq_getElem hi1, Option.getD_some] at this
            rw [this]
            simp [List.getElem_append, hiN]
      rw [Nat.zero_add]
      have hdl : (l.drop N).length = l.length - N := by simp
      have hwl : wpList P l.toArray Q (l.drop N) (act T) w := by
        refine Fin.use (C := fun T w => wpList P l.toArray Q (l.drop N) (act T) w) (List.range N) e I htail T w ht hw (fun j hj => ?_)
        have hj' := List.mem_range.1 hj
        exact hfacts j hj' (hall j hj')
      have := wpAny_of_seq (P := P) (md := .any) (Q' := Q) (ops := l.toArray) (l.drop N) N listed (act T) w (fun j => by simp [List.getElem?_drop]) (by rw [hdl, hlisted]; exact hseq) hwl
      rwa [hdl] at this
    | succ m ih =>
      intro listed T w hcnt inv ht hw hfacts
      rw [show m + 1 + (l.length - N) = (m + (l.length - N)) + 1 by omega]
      have hsz : listed.size = l.length := by simpa using inv.size
      obtain ⟨i0, hi0, hun0, hmin0⟩ : ∃ i, i < N ∧ listed.getD i true = false ∧ ∀ j, j < i → listed.getD j true = true := by
        rcases all_below listed N with h | h
        · exact h
        · exfalso
          have : cnt listed N = 0 := by
            have : ∀ M, M ≤ N → cnt listed M = 0 := by
              intro M
              induction M with
              | zero => intro _; rfl
              | succ M ihM => intro hM; simp only [cnt]; rw [h M (by omega), ihM (by omega)]; rfl
            exact this N (Nat.le_refl _)
          omega
      have hgd : ∀ j, j < l.length → listed.getD j true = true → listed.getD j false = true := by
        intro j hj h
        have hj' : j < listed.size := by omega
        simp only [Array.getD_eq_getD_getElem?, Array.getElem?_eq_getElem hj', Option.getD_some] at h ⊢
        exact h
      have hready0 : i0 ∈ Region.ready .any l.toArray listed := by
        refine mem_ready.2 ⟨hun0, l[i0]'(by omega), by simp, fun ed hed hbd => ?_⟩
        have hp : ed.on ∈ preds (l[i0]'(by omega)) := by
          simp only [preds, List.mem_map, List.mem_filter]
          exact ⟨ed, ⟨by simpa using hed, hbd⟩, rfl⟩
        have := backB_spec hback hi0 (List.getElem?_eq_getElem (by omega)) ed.on hp
        exact hgd _ (by omega) (hmin0 _ this)
      refine ⟨fun h0 => (by rw [h0] at hready0; cases hready0), fun i hi => ?_⟩
      have hiN : i < N := by
        rcases Nat.lt_or_ge i N with h | h
        · exact h
        · exfalso
          rcases hsink with h1 | ⟨⟨h1, h2⟩, h3⟩
          · have : N = l.length := Nat.eq_of_beq_eq_true h1
            obtain ⟨_, o, ho, _⟩ := mem_ready.1 hi
            have := (Array.getElem?_eq_some_iff.1 ho).1
            simp at this; omega
          · exact tail_waits h2 h3 (by simpa using Nat.blt_eq.mp h1) inv _ i0 rfl hi0 hun0 i h hi
      obtain ⟨hun, o, ho, hall⟩ := mem_ready.1 hi
      have ho' : l[i]? = some o := by simpa using ho
      have hpre : ∀ j, j ∈ preds o → ∃ v, T[ds.getD j 0]? = some v ∧ Φ j v w := by
        intro j hj
        have hjlt := backB_spec hback hiN ho' j hj
        simp only [preds, List.mem_map, List.mem_filter] at hj
        obtain ⟨ed, ⟨hed, hbd⟩, rfl⟩ := hj
        have h1 := hall ed (by simpa using hed) hbd
        have hj' : ed.on < listed.size := by omega
        refine hfacts ed.on (by omega) ?_
        simp only [Array.getD_eq_getD_getElem?, Array.getElem?_eq_getElem hj', Option.getD_some] at h1 ⊢
        exact h1
      have hwl := Fin.use (C := fun T w => wpList P l.toArray (QF (ds.getD i 0) (Φ i) w) [o] (act T) w) (preds o) e (fun w' => w' = w ∧ I w') (by
        have h1 := hstep i o hiN ho' w
        have conv : ∀ (js : List Nat) (e : Env) (I2 : World → Prop), (∀ w', I2 w' → w' = w) → Fin ds Φ js e I2 (fun e' I' => J P l.toArray (QF (ds.getD i 0) (Φ i) w) n [o] e' I') →
            Fin ds Φ js e I2 (fun e' I' => ∀ T w, Rep n T e' → I' w → wpList P l.toArray (QF (ds.getD i 0) (Φ i) w) [o] (act T) w) := by
          intro js
          induction js with
          | nil => intro e I2 hI2 h T w2 ht2 hw2; have hh := hI2 w2 hw2; subst hh; exact h T _ ht2 hw2
          | cons j js ihj => intro e I2 hI2 h v; exact ihj _ _ (fun w' hw' => hI2 w' hw'.2) (h v)
        exact conv _ _ _ (fun w' hw' => hw'.1) h1) T w ht ⟨rfl, hw⟩ hpre
      refine wpOp_of_list ho (hdst i o hiN ho').1 hwl (fun v w' hv hφ hb => ?_) (by rw [ht.1]; exact (hd1 i hiN).1)
      have hisz : i < listed.size := by omega
      refine ih _ _ w' (by have := cnt_set hisz hun N hiN; omega) (inv.set hi hiN) (ht.other (hd1 i hiN).2 v) (hI w w' hw hb) (fun j hj hlj => ?_)
      by_cases hji : j = i
      · subst hji
        exact ⟨v, hv, hφ⟩
      · rw [getD_set_ne true (Ne.symm hji)] at hlj
        obtain ⟨u, hu, hφu⟩ := hfacts j hj hlj
        refine ⟨u, ?_, hΦ j u w w' hφu hb⟩
        rw [Array.getElem?_setIfInBounds, if_neg (fun he => hji (hinj j i hj hiN he.symm))]
        exact hu
  have hcnt0 : cnt (Array.replicate l.toArray.size false) N = N := by
    have : ∀ M, M ≤ N → cnt (Array.replicate l.toArray.size false) M = M := by
      intro M
      induction M with
      | zero => intro _; rfl
      | succ M ihM =>
        intro hM
        simp only [cnt]
        rw [getD_in (by simp; omega) (getD_replicate_false _ _), ihM (by omega)]
        simp; omega
    exact this N (Nat.le_refl _)
  have hw' : I { w with drawn := w.drawn + 1 } := hI w _ hw ((Bel.refl w).drew)
  have := key N (Array.replicate l.toArray.size false) T { w with drawn := w.drawn + 1 } hcnt0
    ⟨by simp, fun j oj _ hl => (by rw [getD_replicate_false] at hl; cases hl), fun t _ ht => getD_in (by simpa using ht) (getD_replicate_false _ _)⟩ ht hw'
    (fun i hi hl => by rw [getD_in (by simp; omega) (getD_replicate_false _ _)] at hl; cases hl)
  rw [show N + (l.length - N) = l.toArray.size by simp; omega] at this
  exact this
theorem Fin.nil {ds : List Nat} {Φ : Nat → Value → World → Prop} {e : Env} {I : World → Prop} {G : Env → (World → Prop) → Prop} (h : G e I) : Fin ds Φ [] e I G := h
theorem Fin.cons {ds : List Nat} {Φ : Nat → Value → World → Prop} {j : Nat} {js : List Nat} {e : Env} {I : World → Prop} {G : Env → (World → Prop) → Prop} (h : ∀ v, Fin ds Φ js ((ds.getD j 0, v) :: e) (fun w => Φ j v w ∧ I w) G) : Fin ds Φ (j :: js) e I G := h
/-- what is to be shown of each operation of the head -/
def Steps (P : Program) (l : List Oper) (n : Nat) (ds : List Nat) (Φ : Nat → Value → World → Prop) (e : Env) (I : World → Prop) : Nat → List Oper → Prop
  | _, [] => True
  | i, o :: os => (∀ wi, Fin ds Φ (preds o) e (fun w => w = wi ∧ I w) (fun e' I' => J P l.toArray (QF (ds.getD i 0) (Φ i) wi) n [o] e' I')) ∧ Steps P l n ds Φ e I (i + 1) os
theorem Steps.all {P : Program} {l : List Oper} {n : Nat} {ds : List Nat} {Φ : Nat → Value → World → Prop} {e : Env} {I : World → Prop} : ∀ (k : List Oper) (i0 : Nat), Steps P l n ds Φ e I i0 k → ∀ (i : Nat) (o : Oper), k[i]? = some o →
    ∀ wi, Fin ds Φ (preds o) e (fun w => w = wi ∧ I w) (fun e' I' => J P l.toArray (QF (ds.getD (i0 + i) 0) (Φ (i0 + i)) wi) n [o] e' I') := by
  intro k
  induction k with
  | nil => intro i0 _ i o ho; simp at ho
  | cons p ps ih =>
    intro i0 h i o ho
    cases i with
    | zero => simp only [List.getElem?_cons_zero, Option.some.injEq] at ho; subst ho; exact h.1
    | succ i =>
      simp only [List.getElem?_cons_succ] at ho
      have := ih (i0 + 1) h.2 i o ho
      rwa [show i0 + 1 + i = i0 + (i + 1) by omega] at this
theorem JC.draw {P : Program} {Q : Exit → Act → World → Prop} {n id : Nat} {l : List Oper} {e : Env} {I : World → Prop} (N : Nat) (Φ : Nat → Value → World → Prop) {ds : List Nat}
    (hm : P.follows .mixedOrders = true) (hds : dsts (l.take N) = some ds) (hnd : nodupB ds = true) (hN : Nat.ble N l.length = true) (hB : headB l N = true)
    (hlt : (ds.all fun d => Nat.blt d n) = true) (hkeys : (ds.all fun d => (get e d).isNone) = true)
    (hI : ∀ w w', I w → Bel w w' → I w') (hΦ : ∀ i v w w', Φ i v w → Bel w w' → Φ i v w')
    (hstep : Steps P l n ds Φ e I 0 (l.take N))
    (htail : Fin ds Φ (List.range N) e I (fun e' I' => J P l.toArray Q n (l.drop N) e' I')) : JC P Q n (.region id l.toArray true) e I :=
  JC.any N Φ hm hds hnd hN hB hlt hkeys hI hΦ (fun i o hi ho wi => by
    have := Steps.all (l.take N) 0 hstep i o (by rw [List.getElem?_take_of_lt hi]; exact ho) wi
    rwa [Nat.zero_add] at this) htail
/-- the same, with one operation b in the head that changes known memory: those behind wait for it -/
def QB (d : Nat) (φ : Value → World → Prop) (I1 : World → Prop) (x : Exit) (a : Act) (w : World) : Prop :=
  x = .normal ∧ a.defers = [] ∧ (∃ v, a.tmps[d]? = some v ∧ φ v w) ∧ I1 w
theorem JX.finB {n d : Nat} {φ : Value → World → Prop} {I1 : World → Prop} {e : Env} {I : World → Prop} {v : Value} (hv : get e d = some v) (h : ∀ w, I w → φ v w ∧ I1 w) : JX (QB d φ I1) n .normal e I :=
  fun _ w ht hw => ⟨rfl, rfl, ⟨v, ht.2 d v hv, (h w hw).1⟩, (h w hw).2⟩
theorem wpOp_of_listB {P : Program} {ops : Array Oper} {Q : Exit → Act → World → Prop} {i d : Nat} {o : Oper} {T : Array Value} {w : World} {φ : Value → World → Prop} {I1 : World → Prop} {K : Act → World → Prop}
    (ho : ops[i]? = some o) (hd : o.dst = some d) (h : wpList P ops (QB d φ I1) [o] (act T) w)
    (hk : ∀ v w', (act (T.setIfInBounds d v)).tmps[d]? = some v → φ v w' → I1 w' → K (act (T.setIfInBounds d v)) w') (hlt : d < T.size) : wpOp P ops Q i K (act T) w := by
  have hget : ∀ v, (T.setIfInBounds d v)[d]? = some v := fun v => by simp [hlt]
  have fin : ∀ v w', QB d φ I1 .normal (act (T.setIfInBounds d v)) w' → K (act (T.setIfInBounds d v)) w' := by
    rintro v w' ⟨_, _, ⟨u, hu, hφ⟩, hb⟩
    have : u = v := by
      have h1 : (T.setIfInBounds d v)[d]? = some u := hu
      rw [hget v] at h1
      exact (Option.some.inj h1).symm
    subst this
    exact hk u w' (hget u) hφ hb
  unfold wpOp
  simp only [ho]
  simp only [wpList] at h
  split at h
  · rename_i hw
    rw [if_pos hw]
    rcases h with h | ⟨_, ⟨_, _, h, _⟩⟩
    · left
      unfold Oper.wp at h ⊢
      generalize (execOp (act T).eval o).run P w = r at h
      cases r with
      | ok nx w' =>
        cases nx <;> simp only [Oper.upon, hd] at h ⊢
        case value v => exact fin v w' h
        case skip => exact fin undef w' h
        case defer dd => exact absurd h.2.1 (by simp [Act.put])
        case enter f args =>
          refine h.mono fun r w'' hr => ?_
          cases r with
          | returned v => exact fin v w'' hr
          | panicked c => exact absurd hr.1 (by simp)
          | outgrown => obtain ⟨_, _, h, _⟩ := hr; cases h
        case row row args => exact Rows.mono h fun v w'' hr => fin v w'' hr
      | halt x w' => cases x <;> simp only [Oper.upon] at h; exact absurd h.1 (by simp)
    · cases h
  · rename_i hw
    rw [if_neg hw]
    simp only [hd] at h ⊢
    exact fin undef w h
def depB (l : List Oper) (N b : Nat) : Bool := (l.take N).zipIdx.all fun (o, i) => Nat.ble i b || (preds o).any fun p => Nat.ble b p
end Go.J
/-
  The calculus: strings out of bytes, literals, zero values, comparing strings. Proved over any program.
-/
namespace Go.J
open Go.RowKit
set_option linter.unusedVariables false
set_option linter.unusedSimpArgs false

def str (bs : List UInt8) : ByteArray := ⟨bs.toArray⟩
theorem str_size (bs : List UInt8) : (str bs).size = bs.length := by simp [str, ByteArray.size]
section
variable {P : Program} {ops : Array Oper} {Q : Exit → Act → World → Prop} {n : Nat} {e : Env} {I I' : World → Prop} {rest : List Oper}
variable {d t yt : Nat} {p : String} {af : Array Edge} {x y z : Operand} {v v1 v2 : Value} {w0 : World} {S : List Nat} {l l' lp : List (Nat × Obj)}

end
end Go.J
/-
  The calculus: composite literals. Proved over any program.
-/
namespace Go.J
open Go.RowKit
set_option linter.unusedVariables false
set_option linter.unusedSimpArgs false

def placesL (P : Program) : List Field → Option (List (Nat × Nat))
  | [] => some []
  | f :: fs => match sizeT P f.type, placesL P fs with
    | some k, some r => some ((f.offset, k) :: r)
    | _, _ => none
def placesT (P : Program) (t : TypeId) : Option (List (Nat × Nat)) := match P.underlying t with
  | some (.struct fs) => placesL P fs.toList
  | _ => none
theorem run_places {P : Program} (w : World) : ∀ (l : List Field) (r : List (Nat × Nat)), placesL P l = some r → (l.mapM (m := Sem) fun f => do pure (f.offset, ← sizeOf f.type)).run P w = .ok r w := by
  intro l
  induction l with
  | nil => intro r h; simp only [placesL, Option.some.injEq] at h; subst h; simp
  | cons f fs ih =>
    intro r h
    simp only [placesL] at h
    split at h
    · rename_i k r' hk hr
      simp only [Option.some.injEq] at h
      subst h
      simp only [List.mapM_cons, Sem.run_bind, run_sizeOf hk, Result.andThen_ok, Sem.run_pure, ih r' hr]
    · cases h
def evps (e : Env) : List (Nat × Operand) → Option (List (Nat × Value))
  | [] => some []
  | (i, x) :: xs => match ev e x, evps e xs with
    | some v, some vs => some ((i, v) :: vs)
    | _, _ => none
theorem Rep.evps {n : Nat} {T : Array Value} {e : Env} (h : Rep n T e) : ∀ {xs : List (Nat × Operand)} {vs : List (Nat × Value)}, J.evps e xs = some vs → xs.map (fun q => (q.1, (act T).eval q.2)) = vs := by
  intro xs
  induction xs with
  | nil => intro vs hv; simp [J.evps] at hv; simp [hv]
  | cons q xs ih =>
    obtain ⟨i, x⟩ := q
    intro vs hv
    simp only [J.evps] at hv
    split at hv
    · rename_i v us hx hus
      simp only [Option.some.injEq] at hv
      subst hv
      simp [h.eval hx, ih hus]
    · cases hv
/-- the parts of a literal laid over the zero value, as lists -/
def fillL (pl : Nat → Option (Nat × Nat)) (cs : List Value) : List (Nat × Value) → Option (List Value)
  | [] => some cs
  | (i, v) :: rest => match pl i with
    | none => none
    | some (off, size) => if v.cells.toList.length ≠ size || off + v.cells.toList.length > cs.length then none else fillL pl (setMany cs off v.cells.toList) rest
theorem fill_fillL {pl : Nat → Option (Nat × Nat)} : ∀ (parts : List (Nat × Value)) (cs r : List Value), fillL pl cs parts = some r → Instr.fill pl cs.toArray parts = some r.toArray := by
  intro parts
  induction parts with
  | nil => intro cs r h; simp only [fillL, Option.some.injEq] at h; subst h; rfl
  | cons q parts ih =>
    obtain ⟨i, v⟩ := q
    intro cs r h
    simp only [fillL] at h
    split at h
    · cases h
    · rename_i off size hp
      split at h
      · cases h
      · rename_i hc
        simp only [Instr.fill, hp]
        have hc' : ¬ ((decide (v.cells.size ≠ size) || decide (off + v.cells.size > cs.toArray.size)) = true) := by simpa using hc
        rw [if_neg hc']
        have key : ∀ (vs : List Value) (k : Nat) (cs : List Value), (vs.zipIdx k).foldl (fun (a : Array Value) (x : Value × Nat) => a.setIfInBounds (off + x.2) x.1) cs.toArray = (setMany cs (off + k) vs).toArray := by
          intro vs
          induction vs with
          | nil => intro k cs; rfl
          | cons u vs ihv =>
            intro k cs
            simp only [List.zipIdx_cons, List.foldl_cons, List.setIfInBounds_toArray, setMany]
            have := ihv (k + 1) (cs.set (off + k) u)
            rw [this, Nat.add_assoc]
        have h2 : v.cells.zipIdx.foldl (fun cs (c, j) => cs.setIfInBounds (off + j) c) cs.toArray = (setMany cs off v.cells.toList).toArray := by
          have := key v.cells.toList 0 cs
          rw [Nat.add_zero] at this
          rw [← this, ← Array.foldl_toList, Array.toList_zipIdx]
        rw [h2]
        exact ih _ _ h

section
variable {P : Program} {ops : Array Oper} {Q : Exit → Act → World → Prop} {n : Nat} {e : Env} {I I' : World → Prop} {rest : List Oper}
variable {d t yt : Nat} {p : String} {af : Array Edge} {x y z : Operand} {v v1 v2 : Value} {w0 : World} {S : List Nat} {l l' lp : List (Nat × Obj)}

theorem J.buildS {ty : TypeId} {ps : List (Nat × Operand)} {pl : List (Nat × Nat)} {vs : List (Nat × Value)} {zs cs : List Value} (hp : placesT P ty = some pl) (hz : zeroT P ty = some (.agg zs.toArray)) (hx : evps e ps = some vs)
    (hf : fillL (fun i : Nat => pl[i]?) zs vs = some cs) (hd : Nat.blt d n = true)
    (h : J P ops Q n rest ((d, .agg cs.toArray) :: e) I) : J P ops Q n (⟨some d, .build ty ps.toArray, t, p, af, none⟩ :: rest) e I := by
  refine J.value hd (fun T w ht hw => ⟨w, ?_, hw⟩) h
  unfold placesT at hp
  split at hp
  · rename_i fs hu
    have hr' : (fs.mapM (m := Sem) fun f => do pure (f.offset, ← sizeOf f.type)).run P w = .ok pl.toArray w := by
      rw [← Array.toArray_toList (xs := fs), List.mapM_toArray]
      simp only [Sem.run_map, run_places w fs.toList pl hp, Result.andThen_ok]
    have hpm : (ps.toArray.map fun q => (q.1, (act T).eval q.2)).toList = vs := by simp [ht.evps hx]
    have hfill := fill_fillL vs zs cs hf
    have hpl : (fun i : Nat => pl.toArray[i]?) = (fun i : Nat => pl[i]?) := by funext i; simp
    have hpm' : (ps.toArray.map fun (i, x) => (i, (act T).eval x)).toList = vs := hpm
    simp only [execOp, Instr.build, Sem.run_bind, run_zeroValue' hz, Result.andThen_ok, run_underlying' hu, hr', hpm', Value.cells, hpl, hfill, Sem.run_pure]
  · cases hp
theorem J.buildA {ty el k sz : Nat} {ps : List (Nat × Operand)} {vs : List (Nat × Value)} {zs cs : List Value} (ha : arrT P ty = some (k, el)) (hs : sizeT P el = some sz) (hz : zeroT P ty = some (.agg zs.toArray)) (hx : evps e ps = some vs)
    (hf : fillL (fun i => some (i * sz, sz)) zs vs = some cs) (hd : Nat.blt d n = true)
    (h : J P ops Q n rest ((d, .agg cs.toArray) :: e) I) : J P ops Q n (⟨some d, .build ty ps.toArray, t, p, af, none⟩ :: rest) e I := by
  refine J.value hd (fun T w ht hw => ⟨w, ?_, hw⟩) h
  have hpm : (ps.toArray.map fun q => (q.1, (act T).eval q.2)).toList = vs := by simp [ht.evps hx]
  have hfill := fill_fillL vs zs cs hf
  have hpm' : (ps.toArray.map fun (i, x) => (i, (act T).eval x)).toList = vs := hpm
  simp only [execOp, Instr.build, Sem.run_bind, run_zeroValue' hz, Result.andThen_ok, run_underlying' (arr_u ha), run_sizeOf hs, hpm', Value.cells, hfill, Sem.run_pure]
/-- a slice literal: a new block -/
theorem J.buildSl {ty el sz len : Nat} {ps : List (Nat × Operand)} {vs : List (Nat × Value)} {zv : Value} {zs cs : List Value} (he : elemT P ty = some el) (hs : sizeT P el = some sz) (hz : zeroT P el = some zv) (hzc : zv.cells = zs.toArray) (hzl : zs.length = sz) (hx : evps e ps = some vs)
    (hlen : Nat.ble (len * sz) 16777216 = true) (hf : fillL (fun i => some (i * sz, sz)) (List.replicate len zs).flatten vs = some cs) (hcl : cs.length = len * sz) (hd : Nat.blt d n = true)
    (h : ∀ b, J P ops Q n rest ((d, .slice (some ⟨b, 0, none⟩) len len) :: e) (St w0 S ((b, cb cs el) :: l))) : J P ops Q n (⟨some d, .buildSlice ty len ps.toArray, t, p, af, none⟩ :: rest) e (St w0 S l) := by
  refine J.valueEx (V := fun b => .slice (some ⟨b, 0, none⟩) len len) hd (fun T w ht hw => ⟨w.heap.size, w.alloc (cb cs el), ?_, hw.new (below_alloc' w _) (Nat.le_refl _) (alloc_at w _)⟩) h
  have hpm : (ps.toArray.map fun (i, x) => (i, (act T).eval x)).toList = vs := by simp [ht.evps hx]
  have hfill := fill_fillL vs _ cs hf
  have hle : ¬ (len * sz > 2 ^ 24) := by have := Nat.le_of_ble_eq_true hlen; omega
  have hcells : len * sz ≠ 0 → (Array.range (len * sz)).map (zv.cells[· % zv.cells.size]!) = ((List.replicate len zs).flatten).toArray := by
    intro _
    rw [hzc]
    apply Array.ext'
    simp only [Array.toList_map, Array.toList_range, List.size_toArray, hzl]
    apply List.ext_getElem?
    intro i
    have hfl : ∀ (m i : Nat), ((List.replicate m zs).flatten)[i]? = if i < m * sz then zs[i % sz]? else none := by
      intro m
      induction m with
      | zero => intro i; simp
      | succ m ih =>
        intro i
        rw [List.replicate_succ, List.flatten_cons, List.getElem?_append, hzl, ih]
        by_cases h1 : i < sz
        · rw [if_pos h1, if_pos (by rw [Nat.add_mul]; omega), Nat.mod_eq_of_lt h1]
        · rw [if_neg h1]
          have : i % sz = (i - sz) % sz := by
            rw [Nat.mod_eq_sub_mod (by omega)]
          by_cases h2 : i - sz < m * sz
          · rw [if_pos h2, if_pos (by rw [Nat.add_mul]; omega), this]
          · rw [if_neg h2, if_neg (by rw [Nat.add_mul]; omega)]
    rw [hfl, List.getElem?_map]
    by_cases h1 : i < len * sz
    · rw [if_pos h1, List.getElem?_range h1]
      have h2 : 0 < sz := by
        rcases Nat.eq_zero_or_pos sz with h | h
        · rw [h] at h1; omega
        · exact h
      have h3 : i % sz < zs.length := by rw [hzl]; exact Nat.mod_lt _ h2
      rw [Option.map_some, List.getElem?_eq_getElem h3]
      congr 1
      rw [getElem!_pos zs.toArray (i % sz) (by simpa using h3)]
      simp
    · rw [if_neg h1, List.getElem?_eq_none (by simp; omega)]; rfl
  by_cases hz0 : len * sz = 0
  · have he0 : (List.replicate len zs).flatten = [] := List.eq_nil_of_length_eq_zero (by simp [hzl, hz0])
    rw [he0] at hfill
    have h0 : (Array.range 0).map (fun _ : Nat => (default : Value)) = #[] := Array.ext' (by simp)
    have hd0 : ∀ f : Nat → Value, (Array.range 0).map f = #[] := fun f => Array.ext' (by simp)
    simp only [execOp, Instr.buildSlice, Sem.run_bind, run_underlying' (elem_u he), Result.andThen_ok, run_sizeOf hs, hz0, hpm]
    simp only [show ¬ (0 > 2 ^ 24) by omega, if_false, Sem.run_pure, Result.andThen_ok, if_true, hd0]
    simp [hfill, newRow, cb]
  · simp only [execOp, Instr.buildSlice, Sem.run_bind, run_underlying' (elem_u he), Result.andThen_ok, run_sizeOf hs, hle, hpm, if_false, Sem.run_pure, hz0, run_zeroValue' hz, hcells hz0, hfill]
    simp [newRow, cb]
end
end Go.J
/-
  The calculus: calls that work on known blocks; further rules. Proved over any program.
-/
namespace Go.J
open Go.RowKit
set_option linter.unusedVariables false
set_option linter.unusedSimpArgs false

structure Own (w : World) (l : List (Nat × Obj)) : Prop where
  own : ∀ p, p ∈ l → w.heap[p.1]? = some p.2
  dist : l.Pairwise (fun p q => p.1 ≠ q.1)
theorem Own.st {w : World} {l : List (Nat × Obj)} (h : Own w l) : St w (l.map (·.1)) l w := St.startS h.own h.dist
theorem St.owns {w0 w : World} {S : List Nat} {l1 l : List (Nat × Obj)} (h : St w0 S (l1 ++ l) w) : Own w l1 :=
  ⟨fun p hp => h.own p (List.mem_append_left _ hp), (List.pairwise_append.1 h.dist).1⟩
theorem St.owns' {w0 w : World} {S : List Nat} {l : List (Nat × Obj)} (h : St w0 S l w) : Own w l := ⟨h.own, h.dist⟩

/-- behind a call that worked on l1 and left l1' -/
theorem St.call {w0 w w' : World} {S : List Nat} {l1 l1' l : List (Nat × Obj)} (h : St w0 S (l1 ++ l) w) (h' : St w (l1.map (·.1)) l1' w') : St w0 S (l1' ++ l) w' := by
  have hd := List.pairwise_append.1 h.dist
  have hne : ∀ q, q ∈ l → q.1 ∉ l1.map (·.1) := by
    intro q hq hm
    obtain ⟨p, hp, he⟩ := List.mem_map.1 hm
    exact hd.2.2 p hp q hq he
  refine ⟨h'.os.trans h.os, h'.tape.trans h.tape, h'.output.trans h.output, Nat.le_trans h.size h'.size, Nat.le_trans h.drawn h'.drawn, fun b hb hS => ?_, fun p hp => ?_, fun p hp => ?_, ?_⟩
  · rw [h'.keep b (Nat.lt_of_lt_of_le hb h.size) ?_]
    · exact h.keep b hb hS
    · intro hm
      obtain ⟨p, hp, he⟩ := List.mem_map.1 hm
      rcases h.apart p (List.mem_append_left _ hp) with h1 | h1
      · exact hS (he ▸ h1)
      · have : p.1 = b := he
        omega
  · rcases List.mem_append.1 hp with h1 | h1
    · exact h'.own p h1
    · rw [h'.keep p.1 (lt_of_some (h.own p (List.mem_append_right _ h1))) (hne p h1)]
      exact h.own p (List.mem_append_right _ h1)
  · rcases List.mem_append.1 hp with h1 | h1
    · rcases h'.apart p h1 with h2 | h2
      · obtain ⟨q, hq, he⟩ := List.mem_map.1 h2
        have : q.1 = p.1 := he
        rcases h.apart q (List.mem_append_left _ hq) with h3 | h3
        · exact .inl (this ▸ h3)
        · right; omega
      · right; have := h.size; omega
    · exact h.apart p (List.mem_append_right _ h1)
  · refine List.pairwise_append.2 ⟨h'.dist, hd.2.1, fun p hp q hq he => ?_⟩
    rcases h'.apart p hp with h2 | h2
    · exact hne q hq (he ▸ h2)
    · have := lt_of_some (h.own q (List.mem_append_right _ hq))
      omega
theorem St.perm {w0 w : World} {S : List Nat} {l l' : List (Nat × Obj)} (h : St w0 S l w) (hp : l.Perm l') : St w0 S l' w :=
  ⟨h.os, h.tape, h.output, h.size, h.drawn, h.keep, fun p hq => h.own p (hp.mem_iff.2 hq), fun p hq => h.apart p (hp.mem_iff.2 hq), (hp.pairwise_iff (fun hab => Ne.symm hab)).1 h.dist⟩
theorem St.swap {w0 w : World} {S : List Nat} {p q : Nat × Obj} {l : List (Nat × Obj)} (h : St w0 S (p :: q :: l) w) : St w0 S (q :: p :: l) w := h.perm (.swap q p l)

theorem St.same {w w' : World} {l l' : List (Nat × Obj)} (h0 : Own w l) (h : St w (l.map (·.1)) l' w') (hs : ∀ p, p ∈ l → p ∈ l') : Bel w w' :=
  ⟨⟨h.os, h.tape, h.output, h.size, fun k hk => by
    by_cases hm : k ∈ l.map (·.1)
    · obtain ⟨p, hp, rfl⟩ := List.mem_map.1 hm
      rw [h.own p (hs p hp), h0.own p hp]
    · exact h.keep k hk hm⟩, h.drawn⟩

theorem Own.keep {w w' : World} {l : List (Nat × Obj)} (h0 : Own w l) (hb : Bel w w') : St w (l.map (·.1)) l w' := h0.st.step hb
theorem Vec.form {t sz k : Nat} {v : Value} {xs : List Value} {lp : List (Nat × Obj)} (h : Vec t sz v k xs lp) : ∃ a c, v = .slice a k c ∧ k ≤ c := by
  obtain ⟨_, h⟩ := h
  rcases h with ⟨rfl, rfl, _⟩ | ⟨b, c, sp, rfl, _, _, hk⟩
  · exact ⟨_, _, rfl, Nat.le_refl _⟩
  · exact ⟨_, _, rfl, hk⟩
theorem Row.slice {w : World} {a : Option Addr} {k c sz i j : Nat} {xs : List Value} (h : Row w (.slice a k c) k xs) (hl : xs.length = k * sz) (hij : i ≤ j) (hj : j ≤ k) :
    Row w (.slice (if c = i then a else a.map (·.add (i * sz))) (j - i) (c - i)) (j - i) ((xs.drop (i * sz)).take ((j - i) * sz)) := by
  obtain ⟨a', c', hv, hk, h⟩ := h
  simp only [Value.slice.injEq] at hv
  obtain ⟨rfl, _, rfl⟩ := hv
  refine ⟨_, _, rfl, by omega, ?_⟩
  by_cases hc : c = i
  · left
    have : j - i = 0 := by omega
    rw [this]; simp
  · rw [if_neg hc]
    rcases h with h | ⟨b, o, ha, h⟩
    · left; rw [h]; simp
    · right
      refine ⟨b, o + i * sz, by rw [ha, Option.map_some, addr_add], fun q hq => ?_⟩
      simp only [List.length_take, List.length_drop] at hq
      have h1 : i * sz + q < xs.length := by omega
      rw [List.getElem?_take_of_lt (by omega), List.getElem?_drop, Nat.add_assoc]
      exact h (i * sz + q) h1

section
variable {P : Program} {ops : Array Oper} {Q : Exit → Act → World → Prop} {n : Nat} {e : Env} {I I' : World → Prop} {rest : List Oper}
variable {d t yt : Nat} {p : String} {af : Array Edge} {x y z : Operand} {v v1 v2 : Value} {w0 : World} {S : List Nat} {l l' l1 lp : List (Nat × Obj)}

theorem J.callS {f : FuncId} {xs : List Operand} {ats : Array TypeId} {vs : List Value} {α : Type} {V : α → Value} {Pr : α → Prop} {L : α → List (Nat × Obj)} (hb : bodyT P f = true) (hx : evs e xs = some vs) (hd : Nat.blt d n = true)
    (hc : ∀ w, St w0 S (l1 ++ l) w → Calls P f vs.toArray w fun r w' => ∃ x, r = .returned (V x) ∧ Pr x ∧ St w (l1.map (·.1)) (L x) w')
    (h : ∀ x, Pr x → J P ops Q n rest ((d, V x) :: e) (St w0 S (L x ++ l))) : J P ops Q n (⟨some d, .call ⟨.value (.func f), xs.toArray, ats⟩, t, p, af, none⟩ :: rest) e (St w0 S (l1 ++ l)) := by
  refine J.call (R := fun v w' => ∃ x, v = V x ∧ Pr x ∧ St w0 S (L x ++ l) w') hb hx hd (fun w hw => (hc w hw).mono fun r w' ⟨x, h1, h2, h3⟩ => ⟨V x, h1, x, rfl, h2, hw.call h3⟩) (fun v => J.ex fun x => J.pr fun hv => J.pr fun hp => ?_)
  subst hv
  exact h x hp
/-- a call that changes nothing, of which the value is told -/
theorem J.callB {f : FuncId} {xs : List Operand} {ats : Array TypeId} {vs : List Value} (hI : ∀ w w', I w → Bel w w' → I w') (hb : bodyT P f = true) (hx : evs e xs = some vs) (hd : Nat.blt d n = true)
    (hc : ∀ w, I w → Calls P f vs.toArray w fun r w' => r = .returned v ∧ Bel w w')
    (h : J P ops Q n rest ((d, v) :: e) I) : J P ops Q n (⟨some d, .call ⟨.value (.func f), xs.toArray, ats⟩, t, p, af, none⟩ :: rest) e I := by
  refine J.call (R := fun v' w' => v' = v ∧ I w') hb hx hd (fun w hw => (hc w hw).mono fun r w' ⟨h1, h2⟩ => ⟨v, h1, rfl, hI w w' hw h2⟩) (fun v' => J.pr fun hv => ?_)
  subst hv
  exact h
theorem J.sliceAll {ty el : TypeId} {len b o : Nat} (he : arrT P ty = some (len, el)) (hs : (sizeT P el).isSome = true) (hx : ev e x = some (.pointer (some ⟨b, o, none⟩))) (hd : Nat.blt d n = true)
    (h : J P ops Q n rest ((d, .slice (some ⟨b, o, none⟩) len len) :: e) I) : J P ops Q n (⟨some d, .slice ty x none none none, t, p, af, none⟩ :: rest) e I := by
  obtain ⟨sz, hs⟩ := Option.isSome_iff_exists.1 hs
  refine J.sliceA (i := 0) (j := len) he hs hx rfl rfl rfl rfl (Nat.zero_le _) (Nat.le_refl _) hd ?_
  have : (if len = 0 then o else o + 0 * sz) = o := by split <;> omega
  rw [this]
  exact h
theorem J.addN {ty : TypeId} {a b : Int} (hx : ev e x = some (.int .i64 a)) (hy : ev e y = some (.int .i64 b)) (h1 : -9223372036854775808 ≤ a + b) (h2 : a + b < 9223372036854775808) (hd : Nat.blt d n = true)
    (h : J P ops Q n rest ((d, .int .i64 (a + b)) :: e) I) : J P ops Q n (⟨some d, .binOp .add ty x y yt, t, p, af, none⟩ :: rest) e I :=
  J.bin hx hy rfl hd (by rw [wrap_i64 h1 h2]; exact h)
theorem J.subN {ty : TypeId} {a b : Int} (hx : ev e x = some (.int .i64 a)) (hy : ev e y = some (.int .i64 b)) (h1 : -9223372036854775808 ≤ a - b) (h2 : a - b < 9223372036854775808) (hd : Nat.blt d n = true)
    (h : J P ops Q n rest ((d, .int .i64 (a - b)) :: e) I) : J P ops Q n (⟨some d, .binOp .sub ty x y yt, t, p, af, none⟩ :: rest) e I :=
  J.bin hx hy rfl hd (by rw [wrap_i64 h1 h2]; exact h)
end

/- regions that draw: what is told of the slots -/
def Eqv (c : Value) : Value → World → Prop := fun v _ => v = c
def AllSt : List (Value → World → Prop) → Prop
  | [] => True
  | φ :: r => (∀ v w w', φ v w → Bel w w' → φ v w') ∧ AllSt r
theorem AllSt.getD : ∀ {l : List (Value → World → Prop)}, AllSt l → ∀ i v w w', l.getD i (fun _ _ => True) v w → Bel w w' → l.getD i (fun _ _ => True) v w'
  | [], _, _, _, _, _, _, _ => by simp
  | φ :: r, hl, i, v, w, w', h, hb => by
    cases i with
    | zero => exact hl.1 v w w' h hb
    | succ i => simp only [List.getD_cons_succ] at h ⊢; exact AllSt.getD hl.2 i v w w' h hb
theorem JC.drawL {P : Program} {Q : Exit → Act → World → Prop} {n id : Nat} {l : List Oper} {e : Env} {I : World → Prop} (N : Nat) (φs : List (Value → World → Prop)) {ds : List Nat}
    (hm : P.follows .mixedOrders = true) (hds : dsts (l.take N) = some ds) (hnd : nodupB ds = true) (hN : Nat.ble N l.length = true) (hB : headB l N = true)
    (hlt : (ds.all fun d => Nat.blt d n) = true) (hkeys : (ds.all fun d => (get e d).isNone) = true)
    (hI : ∀ w w', I w → Bel w w' → I w') (hφ : AllSt φs)
    (hstep : Steps P l n ds (fun i => φs.getD i (fun _ _ => True)) e I 0 (l.take N))
    (htail : Fin ds (fun i => φs.getD i (fun _ _ => True)) (List.range N) e I (fun e' I' => J P l.toArray Q n (l.drop N) e' I')) : JC P Q n (.region id l.toArray true) e I :=
  JC.draw N _ hm hds hnd hN hB hlt hkeys hI (fun i v w w' h hb => hφ.getD i v w w' h hb) hstep htail
def AllInd : List (Value → World → Prop) → Prop
  | [] => True
  | φ :: r => (∀ v w w', φ v w → φ v w') ∧ AllInd r
theorem AllInd.getD : ∀ {l : List (Value → World → Prop)} {b : Nat}, AllInd (l.take b) → ∀ i, i < b → ∀ v w w', l.getD i (fun _ _ => True) v w → l.getD i (fun _ _ => True) v w'
  | [], _, _, _, _, _, _, _ => by simp
  | φ :: r, b, hl, i, hi, v, w, w' => by
    cases b with
    | zero => omega
    | succ b =>
      intro h
      cases i with
      | zero => exact hl.1 v w w' h
      | succ i => simp only [List.getD_cons_succ] at h ⊢; exact AllInd.getD (b := b) hl.2 i (by omega) v w w' h
section
variable {P : Program} {ops : Array Oper} {Q : Exit → Act → World → Prop} {n : Nat} {e : Env} {I I' : World → Prop} {rest : List Oper}
variable {d t yt : Nat} {p : String} {af : Array Edge} {x y z : Operand} {v v1 v2 : Value}
theorem Fin.mono {ds : List Nat} {Φ : Nat → Value → World → Prop} : ∀ (js : List Nat) (e : Env) (I I' : World → Prop), (∀ w, I w → I' w) → Fin ds Φ js e I' (fun e' I' => J P ops Q n rest e' I') → Fin ds Φ js e I (fun e' I' => J P ops Q n rest e' I')
  | [], _, _, _, hi, h => J.conseq h hi
  | _ :: js, _, _, _, hi, h => fun v => Fin.mono js _ _ _ (fun w hw => ⟨hw.1, hi w hw.2⟩) (h v)
theorem Fin.pr {p : Prop} {ds : List Nat} {Φ : Nat → Value → World → Prop} : ∀ (js : List Nat) (e : Env) (I : World → Prop), (p → Fin ds Φ js e I (fun e' I' => J P ops Q n rest e' I')) → Fin ds Φ js e (fun w => p ∧ I w) (fun e' I' => J P ops Q n rest e' I')
  | [], _, _, h => J.pr h
  | _ :: js, _, _, h => fun v => Fin.mono js _ _ _ (fun w hw => ⟨hw.2.1, hw.1, hw.2.2⟩) (Fin.pr js _ _ fun hp => h hp v)
/-- a slot of which the value is known -/
theorem Fin.consE {c : Value} {ds : List Nat} {Φ : Nat → Value → World → Prop} {j : Nat} {js : List Nat} {I : World → Prop} (hΦ : Φ j = Eqv c) (h : Fin ds Φ js ((ds.getD j 0, c) :: e) I (fun e' I' => J P ops Q n rest e' I')) :
    Fin ds Φ (j :: js) e I (fun e' I' => J P ops Q n rest e' I') := by
  refine Fin.cons (fun v => ?_)
  rw [hΦ]
  exact Fin.pr js _ _ (fun hv => by cases hv; exact h)
theorem J.finP {d : Nat} {c : Value} {wi : World} (hv : get e d = some c) : J P ops (QF d (Eqv c) wi) n [] e (fun w => w = wi ∧ I w) :=
  J.nil (JX.fin hv fun w hw => ⟨rfl, by rw [hw.1]; exact Bel.refl _⟩)
theorem J.finQ {d : Nat} {c : Value} {wi : World} (hv : get e d = some c) : J P ops (QF d (Eqv c) wi) n [] e (fun w => Bel wi w) :=
  J.nil (JX.fin hv fun w hw => ⟨rfl, hw⟩)
theorem J.callD {f : FuncId} {xs : List Operand} {ats : Array TypeId} {vs : List Value} {wi : World} (hb : bodyT P f = true) (hx : evs e xs = some vs) (hd : Nat.blt d n = true)
    (hc : ∀ w, I w → Calls P f vs.toArray w fun r w' => r = .returned v ∧ Bel w w')
    (h : J P ops Q n rest ((d, v) :: e) (fun w => Bel wi w)) : J P ops Q n (⟨some d, .call ⟨.value (.func f), xs.toArray, ats⟩, t, p, af, none⟩ :: rest) e (fun w => w = wi ∧ I w) := by
  refine J.call (R := fun v' w' => v' = v ∧ Bel wi w') hb hx hd (fun w hw => ?_) (fun v' => J.pr fun hv => ?_)
  · obtain ⟨rfl, hw⟩ := hw
    exact (hc w hw).mono fun r w' ⟨h1, h2⟩ => ⟨v, h1, rfl, h2⟩
  · subst hv
    exact h
theorem J.drop {A : World → Prop} (h : J P ops Q n rest e I) : J P ops Q n rest e (fun w => A w ∧ I w) := h.conseq fun _ hw => hw.2
theorem J.fresh {wi : World} (h : J P ops Q n rest e (St wi [] [])) : J P ops Q n rest e (fun w => w = wi ∧ I w) :=
  h.conseq fun w hw => by rw [hw.1]; exact St.start wi
def RowP (k : Nat) (xs : List Value) : Value → World → Prop := fun v w => Row w v k xs
theorem RowP.st (k : Nat) (xs : List Value) : ∀ v w w', RowP k xs v w → Bel w w' → RowP k xs v w' := fun _ _ _ h hb => Row.below h hb
theorem J.sub {w0 : World} {S : List Nat} {l l' : List (Nat × Obj)} (hs : l'.Sublist l) (h : J P ops Q n rest e (St w0 S l')) : J P ops Q n rest e (St w0 S l) := h.conseq fun _ hw => hw.drop hs
end
theorem St.off {w0 w : World} {S : List Nat} {l1 l : List (Nat × Obj)} {b : Nat} {o : Obj} (h : St w0 S (l1 ++ l) w) (hm : (b, o) ∈ l) : b ∉ l1.map (·.1) := by
  intro hb
  obtain ⟨q, hq, he⟩ := List.mem_map.1 hb
  exact (List.pairwise_append.1 h.dist).2.2 q hq _ hm he
theorem Off.mk {S : List Nat} {b o k c : Nat} {xs : List Value} (h : b ∉ S) : Off S (.slice (some ⟨b, o, none⟩) k c) xs :=
  .inr fun b' o' k' c' he => by
    simp only [Value.slice.injEq, Option.some.injEq, Addr.mk.injEq] at he
    obtain ⟨⟨rfl, _⟩, _⟩ := he
    exact h
theorem Vec.off {w0 w : World} {S : List Nat} {l1 l lp : List (Nat × Obj)} {t sz k : Nat} {v : Value} {xs : List Value} (h : Vec t sz v k xs lp) (hw : St w0 S (l1 ++ (lp ++ l)) w) : Off (l1.map (·.1)) v xs := by
  obtain ⟨hl, h⟩ := h
  rcases h with ⟨rfl, rfl, rfl⟩ | ⟨b, c, sp, rfl, rfl, _, _⟩
  · left; exact List.eq_nil_of_length_eq_zero (by simpa using hl)
  · exact Off.mk (hw.off (List.mem_append_left _ (.head _)))
theorem Row.offNew {w0 w : World} {l l1 : List (Nat × Obj)} {v : Value} {k : Nat} {xs : List Value} (h : Row w0 v k xs) (hw : St w0 [] l w) (hs : ∀ p, p ∈ l1 → p ∈ l) : Off (l1.map (·.1)) v xs := by
  obtain ⟨a, c, rfl, _, h⟩ := h
  by_cases hx : xs = []
  · exact .inl hx
  · rcases h with h | ⟨b, o, rfl, hc⟩
    · exact .inl h
    · refine Off.mk fun hm => ?_
      obtain ⟨p, hp, he⟩ := List.mem_map.1 hm
      have h1 := hc.lt hx
      rcases hw.apart p (hs p hp) with h2 | h2
      · cases h2
      · have : p.1 = b := he
        omega
section
variable {P : Program} {ops : Array Oper} {Q : Exit → Act → World → Prop} {n : Nat} {e : Env} {rest : List Oper}
variable {d t : Nat} {p : String} {af : Array Edge} {x y z : Operand} {v : Value} {w0 : World} {S : List Nat} {l l' : List (Nat × Obj)}
end
end Go.J
/-
  The calculus, whole: what was added last.
-/
namespace Go.J
open Go.RowKit
set_option linter.unusedVariables false
set_option linter.unusedSimpArgs false
/-- two lists of blocks with the same parts -/
noncomputable def cntB (a : Nat × Obj) (l : List (Nat × Obj)) : Nat := by classical exact l.count a
noncomputable def oneB (a x : Nat × Obj) : Nat := by classical exact if x == a then 1 else 0
theorem cntB_nil (a : Nat × Obj) : cntB a [] = 0 := by simp [cntB]
theorem cntB_cons (a x : Nat × Obj) (l : List (Nat × Obj)) : cntB a (x :: l) = cntB a l + oneB a x := by simp [cntB, oneB, List.count_cons]
theorem cntB_append (a : Nat × Obj) (l l' : List (Nat × Obj)) : cntB a (l ++ l') = cntB a l + cntB a l' := by simp [cntB, List.count_append]
theorem perm_cnt {l l' : List (Nat × Obj)} (h : ∀ a, cntB a l = cntB a l') : l.Perm l' := by
  classical exact List.perm_iff_count.2 (fun a => h a)
theorem Vec.at {t m c j : Nat} {a : Option Addr} {ys : List UInt8} {lp : List (Nat × Obj)} (h : Vec t 1 (.slice a m c) m (ys.map u8) lp) (hj : j < m) :
    ∃ b sp, a = some ⟨b, 0, none⟩ ∧ lp = [(b, cb (ys.map u8 ++ sp) t)] ∧ ys.length = m ∧
      ∀ x, Vec t 1 (.slice (some ⟨b, 0, none⟩) m c) m ((ys.set j x).map u8) [(b, cb (setMany (ys.map u8 ++ sp) (0 + (j : Int).toNat * 1) [u8 x]) t)] := by
  obtain ⟨hl, h⟩ := h
  have hyl : ys.length = m := by simpa using hl
  rcases h with ⟨_, h0, _⟩ | ⟨b, c', sp, hve, rfl, hcap, hk⟩
  · omega
  · simp only [Value.slice.injEq, true_and] at hve
    obtain ⟨rfl, rfl⟩ := hve
    refine ⟨b, sp, rfl, rfl, hyl, fun x => ⟨by simp [hyl], .inr ⟨b, c, sp, rfl, ?_, by simp only [List.length_append, List.length_map, List.length_set] at hcap ⊢; exact hcap, hk⟩⟩⟩
    have : 0 + (j : Int).toNat * 1 = j := by simp
    rw [this]
    simp only [setMany]
    rw [List.set_append_left _ _ (by simp; omega), ← List.map_set]
theorem Row.some {w : World} {v : Value} {k : Nat} {xs : List Value} (h : Row w v k xs) (hx : 0 < xs.length) : ∃ b o c, v = .slice (some ⟨b, o, none⟩) k c ∧ k ≤ c ∧ Cells w b o xs := by
  obtain ⟨a, c, rfl, hk, h⟩ := h
  rcases h with h | ⟨b, o, rfl, h⟩
  · rw [h] at hx; simp at hx
  · exact ⟨b, o, c, rfl, hk, h⟩
theorem take_add_one {α : Type} {l : List α} {i : Nat} (h : i < l.length) : l.take (i + 1) = l.take i ++ [l[i]] := by
  rw [List.take_add_one, List.getElem?_eq_getElem h]; rfl

theorem Own.at {w w' : World} {l1 l : List (Nat × Obj)} (h0 : Own w l1) (h : St w [] l w') : Own w' l1 :=
  ⟨fun p hp => by rw [h.keep p.1 (lt_of_some (h0.own p hp)) (by simp)]; exact h0.own p hp, h0.dist⟩
theorem Own.cell {w : World} {l : List (Nat × Obj)} {b o : Nat} {cs : List Value} {t : TypeId} {fr : Nat × Nat} {v : Value} (h : Own w l) (hm : (b, Obj.cells cs.toArray t fr) ∈ l) (hv : cs[o]? = some v) : w.cell? ⟨b, o, none⟩ = some v := by
  rw [cell_of (h.own _ hm)]; exact hv
/-- lists of bytes, each in memory of its own -/
inductive Recs (t : Nat) : List Value → List (List UInt8) → List (Nat × Obj) → Prop
  | nil : Recs t [] [] []
  | snoc {vs : List Value} {rs : List (List UInt8)} {lp l : List (Nat × Obj)} {v : Value} {r : List UInt8} : Recs t vs rs lp → Vec t 1 v r.length (r.map u8) l → Recs t (vs ++ [v]) (rs ++ [r]) (lp ++ l)
theorem Recs.length {t : Nat} {vs : List Value} {rs : List (List UInt8)} {lp : List (Nat × Obj)} (h : Recs t vs rs lp) : vs.length = rs.length := by
  induction h with
  | nil => rfl
  | snoc _ _ ih => simp [ih]
theorem Recs.row {t : Nat} {vs : List Value} {rs : List (List UInt8)} {lp : List (Nat × Obj)} (h : Recs t vs rs lp) : ∀ {w0 w : World} {S : List Nat} {l : List (Nat × Obj)}, St w0 S (lp ++ l) w → ∀ (i : Nat) (v : Value) (r : List UInt8), vs[i]? = some v → rs[i]? = some r → Row w v r.length (r.map u8) := by
  induction h with
  | nil => intro w0 w S l _ i v r h; simp at h
  | @snoc vs rs lp l' v r hr hv ih =>
    intro w0 w S l hw i v' r' h1 h2
    rw [List.append_assoc] at hw
    by_cases hi : i < vs.length
    · rw [List.getElem?_append_left hi] at h1
      rw [List.getElem?_append_left (by rw [← hr.length]; exact hi)] at h2
      exact ih hw i v' r' h1 h2
    · rw [List.getElem?_append_right (by omega)] at h1
      rw [List.getElem?_append_right (by rw [← hr.length]; omega)] at h2
      have : i - vs.length = 0 := by
        have := (List.getElem?_eq_some_iff.1 h1).1
        simp at this; omega
      have e2 : i - rs.length = 0 := by rw [← hr.length]; exact this
      rw [this] at h1
      rw [e2] at h2
      simp only [List.getElem?_cons_zero, Option.some.injEq] at h1 h2
      subst h1; subst h2
      exact hv.row (l := lp ++ l) (hw.perm (by
        rw [← List.append_assoc, ← List.append_assoc]
        exact List.Perm.append_right _ List.perm_append_comm))
/-- a list of lists of bytes, as one that is read -/
def RowRecs (w : World) (v : Value) (rs : List (List UInt8)) : Prop := ∃ vs, Row w v rs.length vs ∧ vs.length = rs.length ∧ ∀ (i : Nat) (u : Value) (r : List UInt8), vs[i]? = some u → rs[i]? = some r → Row w u r.length (r.map u8)
theorem RowRecs.nil (w : World) : RowRecs w (.slice none 0 0) [] := ⟨[], ⟨none, 0, rfl, Nat.le_refl _, .inl rfl⟩, rfl, fun i u r h => by simp at h⟩
theorem RowRecs.of {t t' : Nat} {v : Value} {vs : List Value} {rs : List (List UInt8)} {lv lp l : List (Nat × Obj)} {w0 w : World} {S : List Nat} (hv : Vec t 1 v rs.length vs lv) (hr : Recs t' vs rs lp) (hw : St w0 S (lv ++ lp ++ l) w) : RowRecs w v rs :=
  ⟨vs, hv.row (l := lp ++ l) (by rw [List.append_assoc] at hw; exact hw), hr.length, fun i u r h1 h2 => hr.row (l := l) (hw.drop (by rw [List.append_assoc]; exact List.sublist_append_right _ _)) i u r h1 h2⟩
theorem RowRecs.below {w w' : World} {v : Value} {rs : List (List UInt8)} (h : RowRecs w v rs) (hb : Bel w w') : RowRecs w' v rs := by
  obtain ⟨vs, h1, h2, h3⟩ := h
  exact ⟨vs, h1.below hb, h2, fun i u r e1 e2 => (h3 i u r e1 e2).below hb⟩
theorem Cells.st {w0 w : World} {b o : Nat} {xs : List Value} {l : List (Nat × Obj)} (h : Cells w0 b o xs) (hx : 0 < xs.length) (hw : St w0 [] l w) : Cells w b o xs :=
  h.blk (hw.keep b (h.lt (by intro e; rw [e] at hx; simp at hx)) (by simp))
theorem Cells.get {w : World} {b o : Nat} {xs : List Value} (h : Cells w b o xs) {i : Nat} {v : Value} (hv : xs[i]? = some v) {q : Nat} (hq : q = o + i) : w.cell? ⟨b, q, none⟩ = some v := by
  have hi : i < xs.length := (List.getElem?_eq_some_iff.1 hv).1
  rw [hq, h i hi]; exact hv
section
variable {P : Program} {ops : Array Oper} {Q : Exit → Act → World → Prop} {n : Nat} {e : Env} {I : World → Prop} {rest : List Oper}
variable {d t : Nat} {p : String} {af : Array Edge} {x y z : Operand} {v : Value} {w0 : World} {S : List Nat} {l l' : List (Nat × Obj)}
theorem J.shrN {ty : TypeId} {k k' : IntKind} {a b : Int} {yt : Nat} (hx : ev e x = some (.int k a)) (hy : ev e y = some (.int k' b)) (hb : 0 ≤ b) (hd : Nat.blt d n = true)
    (h : J P ops Q n rest ((d, .int k (a.fdiv (2 ^ (min b.toNat k.bits)))) :: e) I) : J P ops Q n (⟨some d, .binOp .shr ty x y yt, t, p, af, none⟩ :: rest) e I :=
  J.bin hx hy (by simp only [binI]; rw [if_neg (by omega)]) hd h
theorem J.perm (l' : List (Nat × Obj)) (hp : l.Perm l') (h : J P ops Q n rest e (St w0 S l')) : J P ops Q n rest e (St w0 S l) := h.conseq fun _ hw => hw.perm hp
end
end Go.J
/-
  Closed facts on the types and functions of this program: written by a program of this session (wip/tools/ty.py).
-/
namespace Go.Proofs.Ytbafhclandendaa
namespace Ty
open Go.J
theorem mixed : Try.prog.follows .mixedOrders = true := by kernel_rfl
theorem u2 : Try.prog.underlying 2 = some (.int .i64) := by kernel_rfl
theorem a2 : aggT Try.prog 2 = some false := by kernel_rfl
theorem s2 : sizeT Try.prog 2 = some 1 := by kernel_rfl
theorem b2 : bytesT Try.prog 2 = some 8 := by kernel_rfl
theorem u3 : Try.prog.underlying 3 = some (.int .i64) := by kernel_rfl
theorem a3 : aggT Try.prog 3 = some false := by kernel_rfl
theorem b3 : bytesT Try.prog 3 = some 8 := by kernel_rfl
theorem z3 : zeroT Try.prog 3 = some (.int .i64 0) := by kernel_rfl
theorem u4 : Try.prog.underlying 4 = some (.bool) := by kernel_rfl
theorem a4 : aggT Try.prog 4 = some false := by kernel_rfl
theorem b4 : bytesT Try.prog 4 = some 1 := by kernel_rfl
theorem z4 : zeroT Try.prog 4 = some (.bool false) := by kernel_rfl
theorem u5 : Try.prog.underlying 5 = some (.int .u8) := by kernel_rfl
theorem a5 : aggT Try.prog 5 = some false := by kernel_rfl
theorem s5 : sizeT Try.prog 5 = some 1 := by kernel_rfl
theorem b5 : bytesT Try.prog 5 = some 1 := by kernel_rfl
theorem z5 : zeroT Try.prog 5 = some (.int .u8 0) := by kernel_rfl
theorem b6 : bytesT Try.prog 6 = some 1 := by kernel_rfl
theorem b7 : bytesT Try.prog 7 = some 24 := by kernel_rfl
theorem b8 : bytesT Try.prog 8 = some 24 := by kernel_rfl
theorem a9 : aggT Try.prog 9 = some false := by kernel_rfl
theorem b9 : bytesT Try.prog 9 = some 16 := by kernel_rfl
theorem z9 : zeroT Try.prog 9 = some (.string ByteArray.empty) := by kernel_rfl
theorem b10 : bytesT Try.prog 10 = some 16 := by kernel_rfl
theorem b11 : bytesT Try.prog 11 = some 16 := by kernel_rfl
theorem b12 : bytesT Try.prog 12 = some 8 := by kernel_rfl
theorem b13 : bytesT Try.prog 13 = some 24 := by kernel_rfl
theorem b14 : bytesT Try.prog 14 = some 24 := by kernel_rfl
theorem b15 : bytesT Try.prog 15 = some 8 := by kernel_rfl
theorem a22 : aggT Try.prog 22 = some true := by kernel_rfl
theorem z22 : zeroT Try.prog 22 = some (.agg (List.replicate 16 (.int .u8 0) : List Value).toArray) := by kernel_rfl
theorem u23 : Try.prog.underlying 23 = some (.array 16 5) := by kernel_rfl
theorem a23 : aggT Try.prog 23 = some true := by kernel_rfl
theorem s23 : sizeT Try.prog 23 = some 16 := by kernel_rfl
theorem b23 : bytesT Try.prog 23 = some 16 := by kernel_rfl
theorem z23 : zeroT Try.prog 23 = some (.agg (List.replicate 16 (.int .u8 0) : List Value).toArray) := by kernel_rfl
theorem ar23 : arrT Try.prog 23 = some (16, 5) := by kernel_rfl
theorem u24 : Try.prog.underlying 24 = some (.slice 23) := by kernel_rfl
theorem a24 : aggT Try.prog 24 = some false := by kernel_rfl
theorem s24 : sizeT Try.prog 24 = some 1 := by kernel_rfl
theorem z24 : zeroT Try.prog 24 = some (.slice none 0 0) := by kernel_rfl
theorem el24 : elemT Try.prog 24 = some 23 := by kernel_rfl
theorem u31 : Try.prog.underlying 31 = some (.int .u64) := by kernel_rfl
theorem a39 : aggT Try.prog 39 = some false := by kernel_rfl
theorem z39 : zeroT Try.prog 39 = some (.pointer none) := by kernel_rfl
theorem a45 : aggT Try.prog 45 = some true := by kernel_rfl
theorem z45 : zeroT Try.prog 45 = some (.agg ([.int .i64 0] ++ List.replicate 16 (.int .u8 0) : List Value).toArray) := by kernel_rfl
theorem a46 : aggT Try.prog 46 = some true := by kernel_rfl
theorem z46 : zeroT Try.prog 46 = some (.agg ([.int .i64 0] ++ List.replicate 16 (.int .u8 0) : List Value).toArray) := by kernel_rfl
theorem a53 : aggT Try.prog 53 = some true := by kernel_rfl
theorem z53 : zeroT Try.prog 53 = some (.agg (List.replicate 16 (.int .u8 0) ++ [.int .i64 0] ++ List.replicate 16 (.int .u8 0) ++ [.slice none 0 0] : List Value).toArray) := by kernel_rfl
theorem u68 : Try.prog.underlying 68 = some (.slice 75) := by kernel_rfl
theorem a68 : aggT Try.prog 68 = some false := by kernel_rfl
theorem el68 : elemT Try.prog 68 = some 75 := by kernel_rfl
theorem a70 : aggT Try.prog 70 = some true := by kernel_rfl
theorem s70 : sizeT Try.prog 70 = some 19 := by kernel_rfl
theorem z70 : zeroT Try.prog 70 = some (.agg (List.replicate 16 (.int .u8 0) ++ [.slice none 0 0, .slice none 0 0, .int .i64 0] : List Value).toArray) := by kernel_rfl
theorem fd70_0 : fieldT Try.prog 70 0 = some 0 := by kernel_rfl
theorem fd70_1 : fieldT Try.prog 70 1 = some 16 := by kernel_rfl
theorem fd70_2 : fieldT Try.prog 70 2 = some 17 := by kernel_rfl
theorem fd70_3 : fieldT Try.prog 70 3 = some 18 := by kernel_rfl
theorem a73 : aggT Try.prog 73 = some true := by kernel_rfl
theorem s73 : sizeT Try.prog 73 = some 17 := by kernel_rfl
theorem z73 : zeroT Try.prog 73 = some (.agg (List.replicate 16 (.int .u8 0) ++ [.int .i64 0] : List Value).toArray) := by kernel_rfl
theorem pl73 : placesT Try.prog 73 = some [(0, 16), (16, 1)] := by kernel_rfl
theorem fd73_0 : fieldT Try.prog 73 0 = some 0 := by kernel_rfl
theorem fd73_1 : fieldT Try.prog 73 1 = some 16 := by kernel_rfl
theorem a75 : aggT Try.prog 75 = some true := by kernel_rfl
theorem s75 : sizeT Try.prog 75 = some 35 := by kernel_rfl
theorem b75 : bytesT Try.prog 75 = some 56 := by kernel_rfl
theorem pl75 : placesT Try.prog 75 = some [(0, 16), (16, 1), (17, 1), (18, 17)] := by kernel_rfl
theorem fd75_0 : fieldT Try.prog 75 0 = some 0 := by kernel_rfl
theorem fd75_1 : fieldT Try.prog 75 1 = some 16 := by kernel_rfl
theorem fd75_2 : fieldT Try.prog 75 2 = some 17 := by kernel_rfl
theorem fd75_3 : fieldT Try.prog 75 3 = some 18 := by kernel_rfl
theorem a76 : aggT Try.prog 76 = some false := by kernel_rfl
theorem z76 : zeroT Try.prog 76 = some (.slice none 0 0) := by kernel_rfl
theorem bd34 : bodyT Try.prog 34 = true := by kernel_rfl
theorem bd35 : bodyT Try.prog 35 = true := by kernel_rfl
theorem bd37 : bodyT Try.prog 37 = true := by kernel_rfl
theorem bd39 : bodyT Try.prog 39 = true := by kernel_rfl
theorem bd43 : bodyT Try.prog 43 = true := by kernel_rfl
theorem bd47 : bodyT Try.prog 47 = true := by kernel_rfl
theorem bd48 : bodyT Try.prog 48 = true := by kernel_rfl
theorem bd49 : bodyT Try.prog 49 = true := by kernel_rfl
theorem bd50 : bodyT Try.prog 50 = true := by kernel_rfl
theorem bd51 : bodyT Try.prog 51 = true := by kernel_rfl
theorem bd52 : bodyT Try.prog 52 = true := by kernel_rfl
theorem bd53 : bodyT Try.prog 53 = true := by kernel_rfl
theorem bd54 : bodyT Try.prog 54 = true := by kernel_rfl
theorem bd55 : bodyT Try.prog 55 = true := by kernel_rfl
theorem bd56 : bodyT Try.prog 56 = true := by kernel_rfl
theorem bd57 : bodyT Try.prog 57 = true := by kernel_rfl
theorem bd59 : bodyT Try.prog 59 = true := by kernel_rfl
theorem bd62 : bodyT Try.prog 62 = true := by kernel_rfl
theorem bd63 : bodyT Try.prog 63 = true := by kernel_rfl
theorem bd64 : bodyT Try.prog 64 = true := by kernel_rfl
theorem bd65 : bodyT Try.prog 65 = true := by kernel_rfl
theorem bd66 : bodyT Try.prog 66 = true := by kernel_rfl
theorem bd68 : bodyT Try.prog 68 = true := by kernel_rfl
theorem bd69 : bodyT Try.prog 69 = true := by kernel_rfl
theorem bd70 : bodyT Try.prog 70 = true := by kernel_rfl
theorem bd71 : bodyT Try.prog 71 = true := by kernel_rfl
theorem bd72 : bodyT Try.prog 72 = true := by kernel_rfl
theorem bd73 : bodyT Try.prog 73 = true := by kernel_rfl
theorem bd74 : bodyT Try.prog 74 = true := by kernel_rfl
theorem bd77 : bodyT Try.prog 77 = true := by kernel_rfl
theorem bd80 : bodyT Try.prog 80 = true := by kernel_rfl
theorem bd81 : bodyT Try.prog 81 = true := by kernel_rfl
theorem bd82 : bodyT Try.prog 82 = true := by kernel_rfl
theorem bd83 : bodyT Try.prog 83 = true := by kernel_rfl
theorem bd95 : bodyT Try.prog 95 = true := by kernel_rfl
theorem bd101 : bodyT Try.prog 101 = true := by kernel_rfl
end Ty
end Go.Proofs.Ytbafhclandendaa
/-
  The calculus: maps, interfaces, function values, values of many cells. Proved over any program.
-/
namespace Go.J
open Go.RowKit
set_option linter.unusedVariables false
set_option linter.unusedSimpArgs false

/-- equality at a type of many cells -/
structure EqL (P : Program) (t : TypeId) : Prop where
  guard : P.eqGuardType P.depth t = false
  eq : ∀ (w : World) (x y : Value) (lx ly : Lit), keyOf P t x = some lx → keyOf P t y = some ly → ∃ r : Bool, (Op.equal t x y).run P w = .ok r w ∧ (r = true ↔ x = y)
theorem EqL.of {P : Program} {m : Nat} {t : TypeId} (hg : P.eqGuardType P.depth t = false) (hm : m + 1 ≤ 10000) (hk : P.keyTypeAt m t = true) (ht : P.tiled m t = true)
    (hw : (match P.underlying t with | some (.array _ _) | some (.struct _) => true | _ => false) = true) : EqL P t :=
  ⟨hg, fun w x y lx ly hx hy => by
    obtain ⟨r, h1, h2⟩ := run_equal_deep w (by omega) hk hw hx hy
    refine ⟨r, h1, h2.trans ⟨fun h => ?_, fun h => ?_⟩⟩
    · subst h; exact keyOf_inj_deep ht hw hx hy
    · subst h; rw [hx] at hy; exact Option.some.inj hy⟩
theorem binOp_eql_agg (P : Program) (t : TypeId) (a b : Array Value) (w : World) : (binOp .eql t (.agg a) (.agg b)).run P w = ((Op.equal t (.agg a) (.agg b)).run P w).andThen fun r w' => .ok (.bool r) w' := by
  simp only [binOp, Sem.run_bind, Sem.run_pure]
theorem binOp_neq_agg (P : Program) (t : TypeId) (a b : Array Value) (w : World) : (binOp .neq t (.agg a) (.agg b)).run P w = ((Op.equal t (.agg a) (.agg b)).run P w).andThen fun r w' => .ok (.bool !r) w' := by
  simp only [binOp, Sem.run_bind, Sem.run_pure]
theorem run_eqGuard_agg {P : Program} {op : BinOp} {t : TypeId} {x y : Operand} {a b : Array Value} (w : World) (hg : P.eqGuardType P.depth t = false) : (eqGuard op t x y (.agg a) (.agg b)).run P w = .ok () w := by
  unfold eqGuard
  cases op <;> simp [hg]

/-- the value of a key in a list of entries -/
inductive Look (L : List MapEntry) (k z : Value) : Value → Bool → Prop
  | no : (∀ e, e ∈ L → e.key ≠ k) → Look L k z z false
  | yes (j : Nat) (e : MapEntry) : L[j]? = some e → e.key = k → Look L k z e.val true
section
variable {P : Program} {ops : Array Oper} {Q : Exit → Act → World → Prop} {n : Nat} {e : Env} {I I' : World → Prop} {rest : List Oper}
variable {d t yt : Nat} {p : String} {af : Array Edge} {x y z : Operand} {v v1 v2 : Value} {w0 : World} {S : List Nat} {l l' : List (Nat × Obj)}

theorem J.eqA {ty : TypeId} {a b : Array Value} {la lb : Lit} (K : EqL P ty) (hx : ev e x = some (.agg a)) (hy : ev e y = some (.agg b)) (ha : keyOf P ty (.agg a) = some la) (hb : keyOf P ty (.agg b) = some lb) (hd : Nat.blt d n = true)
    (h : ∀ r : Bool, (r = true ↔ a = b) → J P ops Q n rest ((d, .bool r) :: e) I) : J P ops Q n (⟨some d, .binOp .eql ty x y yt, t, p, af, none⟩ :: rest) e I := by
  intro T w ht hw
  obtain ⟨r, h1, h2⟩ := K.eq w _ _ la lb ha hb
  refine (J.value (I := fun w' => w' = w) hd (fun T w' ht hw' => ?_) (h r (h2.trans (by simp)))) T w ht rfl
  subst hw'
  refine ⟨w', ?_, hw⟩
  simp only [execOp, ht.eval hx, ht.eval hy, Sem.run_bind, Sem.run_pure]
  rw [run_eqGuard_agg w' K.guard, Result.andThen_ok, binOp_eql_agg, h1]; rfl
theorem J.neA {ty : TypeId} {a b : Array Value} {la lb : Lit} (K : EqL P ty) (hx : ev e x = some (.agg a)) (hy : ev e y = some (.agg b)) (ha : keyOf P ty (.agg a) = some la) (hb : keyOf P ty (.agg b) = some lb) (hd : Nat.blt d n = true)
    (h : ∀ r : Bool, (r = true ↔ a = b) → J P ops Q n rest ((d, .bool (!r)) :: e) I) : J P ops Q n (⟨some d, .binOp .neq ty x y yt, t, p, af, none⟩ :: rest) e I := by
  intro T w ht hw
  obtain ⟨r, h1, h2⟩ := K.eq w _ _ la lb ha hb
  refine (J.value (I := fun w' => w' = w) hd (fun T w' ht hw' => ?_) (h r (h2.trans (by simp)))) T w ht rfl
  subst hw'
  refine ⟨w', ?_, hw⟩
  simp only [execOp, ht.eval hx, ht.eval hy, Sem.run_bind, Sem.run_pure]
  rw [run_eqGuard_agg w' K.guard, Result.andThen_ok, binOp_neq_agg, h1]; rfl

theorem setMany_all {cs vs : List Value} (h : vs.length = cs.length) : setMany cs 0 vs = vs := by
  rw [setMany_eq _ _ _ (by omega)]
  simp [h]
/-- a variable is written whole -/
theorem J.storeW {ty k b : Nat} {cs vs : List Value} {tb : TypeId} (hs : sizeT P ty = some k) (hx : ev e x = some (.pointer (some ⟨b, 0, none⟩))) (hy : ev e y = some v) (hv : v.cells = vs.toArray) (hk : vs.length = k) (hk' : cs.length = k) (h1 : ∀ v, v ∈ vs → v.oneCell' = true)
    (hu : Up l b (cb cs tb) (cb vs tb) l') (h : J P ops Q n rest e (St w0 S l')) : J P ops Q n (⟨none, .store ty x y, t, p, af, none⟩ :: rest) e (St w0 S l) :=
  J.storeO (cs := cs) hs hx hy hv hk h1 (by rw [setMany_all (by omega)]; exact hu) (by omega) h

/- maps -/
def isStructT (P : Program) (t : TypeId) : Bool := match P.underlying t with | some (.struct _) => true | _ => false
theorem isStructT.ex {P : Program} {t : TypeId} (h : isStructT P t = true) : ∃ fs, P.underlying t = some (.struct fs) := by
  unfold isStructT at h
  split at h
  · exact ⟨_, by assumption⟩
  · cases h
/- interfaces -/
/- function values -/
theorem J.callV {f : FuncId} {cs : Array Value} {xs : List Operand} {ats : Array TypeId} {vs : List Value} {R : Value → World → Prop} (hb : bodyT P f = true) (hy : ev e y = some (.func (.func f) #[] cs)) (hx : evs e xs = some vs) (hd : Nat.blt d n = true)
    (hc : ∀ w, I w → Calls P f (vs.toArray ++ cs) w fun r w' => ∃ v, r = .returned v ∧ R v w')
    (h : ∀ v, J P ops Q n rest ((d, v) :: e) (R v)) : J P ops Q n (⟨some d, .call ⟨.value y, xs.toArray, ats⟩, t, p, af, none⟩ :: rest) e I := by
  intro T w ht hw
  refine wpList_plain rfl fun K hK => ?_
  have hr : (execOp (act T).eval ⟨some d, .call ⟨.value y, xs.toArray, ats⟩, t, p, af, none⟩).run P w = .ok (.enter f (vs.toArray ++ cs)) w := by
    have := ht.evals hx
    simp [execOp, resolve, ht.eval hy, Deferred.ofValue, invoke, this, run_callFunc hb]
  simp only [Oper.wp, hr, Oper.upon]
  refine (hc w hw).mono fun r w' ⟨v, hv, hR⟩ => ?_
  subst hv
  exact hK _ _ (h v _ w' (ht.put hd v) hR)
/-- a call through a function value that changes nothing that was there -/
theorem J.callVB {f : FuncId} {cs : Array Value} {xs : List Operand} {ats : Array TypeId} {vs : List Value} (hstep : ∀ w w', I w → Bel w w' → I w') (hb : bodyT P f = true) (hy : ev e y = some (.func (.func f) #[] cs)) (hx : evs e xs = some vs) (hd : Nat.blt d n = true)
    (hc : ∀ w, I w → Calls P f (vs.toArray ++ cs) w fun r w' => r = .returned v ∧ Bel w w')
    (h : J P ops Q n rest ((d, v) :: e) I) : J P ops Q n (⟨some d, .call ⟨.value y, xs.toArray, ats⟩, t, p, af, none⟩ :: rest) e I := by
  refine J.callV (R := fun u w' => u = v ∧ I w') hb hy hx hd (fun w hw => (hc w hw).mono fun r w' ⟨h1, h2⟩ => ⟨v, h1, rfl, hstep w w' hw h2⟩) (fun u => J.pr fun hu => ?_)
  subst hu
  exact h
end

/- results that lie in a variable -/
theorem results_cell {fn : Func} {t : Tmp} {ty : TypeId} {tmps : Array Value} {a : Addr} {v : Value} {P : Program} {w : World} (h : fn.results = #[.cell t ty]) (ht : tmps.getD t undef = .pointer (some a)) (hl : (loadVar ty a).run P w = .ok v w) :
    (results fn tmps).run P w = .ok v w := by
  have ha : (asAddr (.pointer (some a))).run P w = .ok a w := by simp [asAddr]
  rw [Array.getD_eq_getD_getElem?] at ht
  simp only [results, h, Sem.run_bind]
  simp [ht, ha, hl]
theorem JX.retC {P : Program} {fn : Func} {R : Ending → World → Prop} {n : Nat} {e : Env} {I : World → Prop} {t ty k b o : Nat} {vs : List Value} (hr : fn.results = #[.cell t ty]) (hv : get e t = some (.pointer (some ⟨b, o, none⟩)))
    (ha : aggT P ty = some true) (hs : sizeT P ty = some k) (hl : vs.length = k) (hc : ∀ w, I w → Cells w b o vs) (h : ∀ w, I w → R (.returned (.agg vs.toArray)) w) :
    JX (bodyPost P fn R) n .ret e I := by
  intro T w ht hw
  refine ⟨rfl, .agg vs.toArray, ?_, h w hw⟩
  exact results_cell hr (by rw [Array.getD_eq_getD_getElem?, ht.2 t _ hv]; rfl) (run_loadVar_agg ha hs hl (hc w hw))
/- values that can be keys -/
theorem lits_int {P : Program} {t d : Nat} {q : IntKind} {n : Int} (hu : P.underlying t = some (.int q)) (hw : (Lit.int q n).wf = true) : P.keyLits (d + 1) t [.int q n] = some [.int q n] := by
  unfold Program.keyLits
  rw [hu]
  simp [hw]
theorem lits_u8 {P : Program} {t d : Nat} {b : UInt8} (hu : P.underlying t = some (.int .u8)) : P.keyLits (d + 1) t [u8 b] = some [.int .u8 (b.toNat : Int)] :=
  lits_int hu (by
    have := b.toNat_lt
    simp [Lit.wf, IntKind.min, IntKind.max, IntKind.signed, IntKind.bits]
    omega)
def fieldsK (P : Program) (t : TypeId) : Option (List (Nat × Nat)) := match P.underlying t with
  | some (.struct fs) => if fs.all (·.name != "_") then some (fs.toList.map fun f => (f.type, f.offset)) else none
  | _ => none
theorem mapM_map {α β γ : Type} (g : β → Option γ) (f : α → β) : ∀ l : List α, l.mapM (fun a => g (f a)) = (l.map f).mapM g
  | [] => rfl
  | a :: l => by simp [List.mapM_cons, mapM_map g f l]
theorem lits_struct {P : Program} {t d : Nat} {fs : List (Nat × Nat)} {cs : List Value} {ls : List (List Lit)} (h : fieldsK P t = some fs) (hl : cs.length = P.cellsOf t)
    (hm : fs.mapM (fun q => P.keyLits d q.1 ((cs.drop q.2).take (P.cellsOf q.1))) = some ls) : P.keyLits (d + 1) t cs = some ls.flatten := by
  unfold fieldsK at h
  split at h
  · rename_i gs hu
    split at h
    · rename_i ha
      simp only [Option.some.injEq] at h
      subst h
      unfold Program.keyLits
      rw [hu]
      simp only
      rw [if_pos ⟨hl, ha⟩, mapM_map (fun q : Nat × Nat => P.keyLits d q.1 ((cs.drop q.2).take (P.cellsOf q.1))) (fun f : Field => (f.type, f.offset)), hm]
      rfl
    · cases h
  · cases h
theorem lits_arr {P : Program} {t d n e : Nat} {cs : List Value} {ls : List (List Lit)} (hu : P.underlying t = some (.array n e)) (hl : cs.length = P.cellsOf t)
    (hm : (List.range n).mapM (fun i => P.keyLits d e ((cs.drop (i * P.cellsOf e)).take (P.cellsOf e))) = some ls) : P.keyLits (d + 1) t cs = some ls.flatten := by
  unfold Program.keyLits
  rw [hu]
  simp only
  rw [if_pos hl, hm]
  rfl
theorem key_of {P : Program} {t d : Nat} {cs : List Value} {ls : List Lit} (hd : P.types.size + 1 = d) (hk : P.keyType t = true) (hw : (match P.underlying t with | some (.array _ _) | some (.struct _) => true | _ => false) = true) (hl : cs.length = P.cellsOf t)
    (h : P.keyLits d t cs = some ls) : ∃ l, keyOf P t (.agg cs.toArray) = some l := by
  subst hd
  unfold keyOf
  split
  · rename_i hu
    rw [if_pos (by simp [hk, Value.formed, hu, hl])]
    exact ⟨_, by simp only [Value.cells]; rw [h]; rfl⟩
  · rename_i hu
    rw [if_pos (by simp [hk, Value.formed, hu, hl])]
    exact ⟨_, by simp only [Value.cells]; rw [h]; rfl⟩
  · split at hw <;> simp_all

/-- an identity, and its cells -/
abbrev IDV := _root_.Fin 16 → UInt8
abbrev cI (a : IDV) : List Value := [u8 (a 0), u8 (a 1), u8 (a 2), u8 (a 3), u8 (a 4), u8 (a 5), u8 (a 6), u8 (a 7), u8 (a 8), u8 (a 9), u8 (a 10), u8 (a 11), u8 (a 12), u8 (a 13), u8 (a 14), u8 (a 15)]
def lI (a : IDV) : List (List Lit) := [[.int .u8 ((a 0).toNat : Int)], [.int .u8 ((a 1).toNat : Int)], [.int .u8 ((a 2).toNat : Int)], [.int .u8 ((a 3).toNat : Int)], [.int .u8 ((a 4).toNat : Int)], [.int .u8 ((a 5).toNat : Int)], [.int .u8 ((a 6).toNat : Int)], [.int .u8 ((a 7).toNat : Int)], [.int .u8 ((a 8).toNat : Int)], [.int .u8 ((a 9).toNat : Int)], [.int .u8 ((a 10).toNat : Int)], [.int .u8 ((a 11).toNat : Int)], [.int .u8 ((a 12).toNat : Int)], [.int .u8 ((a 13).toNat : Int)], [.int .u8 ((a 14).toNat : Int)], [.int .u8 ((a 15).toNat : Int)]]
theorem lits_id {P : Program} {t e d : Nat} {a : IDV} (hu : P.underlying t = some (.array 16 e)) (he : P.underlying e = some (.int .u8)) (hc : P.cellsOf t = 16) (hc' : P.cellsOf e = 1) : P.keyLits (d + 2) t (cI a) = some (lI a).flatten := by
  refine lits_arr (d := d + 1) hu (by rw [hc]; rfl) ?_
  rw [hc', show List.range 16 = [0, 1, 2, 3, 4, 5, 6, 7, 8, 9, 10, 11, 12, 13, 14, 15] from rfl]
  simp only [List.mapM_cons, List.mapM_nil]
  simp only [Nat.mul_one, List.drop_succ_cons, List.drop_zero, List.take_succ_cons, List.take_zero, lits_u8 he]
  rfl
/-- a path's key, and an entry -/
structure PV where
  who : IDV
  n : Int
abbrev cP (p : PV) : List Value := cI p.who ++ [.int .i64 p.n]
structure EV where
  p : PV
  a : IDV
  b : IDV
  na : Int
  nb : Int
abbrev cE (x : EV) : List Value := cP x.p ++ cI x.a ++ cI x.b ++ [.int .i64 x.na, .int .i64 x.nb]
abbrev okN (n : Int) : Prop := (Lit.int .i64 n).wf = true
abbrev okE (x : EV) : Prop := okN x.p.n ∧ okN x.na ∧ okN x.nb
theorem u8_inj {a b : UInt8} : u8 a = u8 b ↔ a = b := by
  constructor
  · intro h
    have : (a.toNat : Int) = (b.toNat : Int) := by injection h
    exact UInt8.toNat_inj.1 (by omega)
  · intro h; rw [h]
instance : DecidableEq IDV := fun a b => decidable_of_iff (∀ i, a i = b i) ⟨funext, fun h i => by rw [h]⟩
deriving instance DecidableEq for PV, EV
theorem cI_eq {a b : IDV} : cI a = cI b ↔ a = b := by
  constructor
  · intro h
    simp only [cI, List.cons.injEq, u8_inj, and_true] at h
    obtain ⟨h0, h1, h2, h3, h4, h5, h6, h7, h8, h9, h10, h11, h12, h13, h14, h15⟩ := h
    funext i
    match i with
    | 0 => exact h0 | 1 => exact h1 | 2 => exact h2 | 3 => exact h3 | 4 => exact h4 | 5 => exact h5 | 6 => exact h6 | 7 => exact h7
    | 8 => exact h8 | 9 => exact h9 | 10 => exact h10 | 11 => exact h11 | 12 => exact h12 | 13 => exact h13 | 14 => exact h14 | 15 => exact h15
    | ⟨n + 16, h⟩ => omega
  · intro h; rw [h]
theorem app_iff {a b c d : List Value} (h : a.length = b.length) : a ++ c = b ++ d ↔ a = b ∧ c = d := ⟨fun e => List.append_inj e h, fun ⟨e1, e2⟩ => by rw [e1, e2]⟩
theorem cP_eq {p q : PV} : cP p = cP q ↔ p = q := by
  obtain ⟨a, n⟩ := p
  obtain ⟨b, m⟩ := q
  show cI a ++ [.int .i64 n] = cI b ++ [.int .i64 m] ↔ _
  rw [app_iff (by rfl), cI_eq]
  simp
/-- what a table's map holds -/
structure Tab (L : List EV) (es : Array MapEntry) (clock : Nat) : Prop where
  st : MapKept.Stamped es clock
  is_ : es.toList.map (fun e => (e.key, e.val)) = L.map (fun x => (Value.agg (cP x.p).toArray, Value.agg (cE x).toArray))
  ok : ∀ x, x ∈ L → okE x
  dist : L.Pairwise (fun x y => x.p ≠ y.p)
theorem Tab.mem {L : List EV} {es : Array MapEntry} {clock : Nat} (h : Tab L es clock) {e : MapEntry} (he : e ∈ es.toList) : ∃ x, x ∈ L ∧ e.key = .agg (cP x.p).toArray ∧ e.val = .agg (cE x).toArray := by
  have : (e.key, e.val) ∈ L.map (fun x => (Value.agg (cP x.p).toArray, Value.agg (cE x).toArray)) := by rw [← h.is_]; exact List.mem_map.2 ⟨e, he, rfl⟩
  obtain ⟨x, hx, h2⟩ := List.mem_map.1 this
  simp only [Prod.mk.injEq] at h2
  exact ⟨x, hx, h2.1.symm, h2.2.symm⟩
theorem Tab.mem' {L : List EV} {es : Array MapEntry} {clock : Nat} (h : Tab L es clock) {x : EV} (hx : x ∈ L) : ∃ e, e ∈ es.toList ∧ e.key = .agg (cP x.p).toArray := by
  have : (Value.agg (cP x.p).toArray, Value.agg (cE x).toArray) ∈ es.toList.map (fun e => (e.key, e.val)) := by rw [h.is_]; exact List.mem_map.2 ⟨x, hx, rfl⟩
  obtain ⟨e, he, h2⟩ := List.mem_map.1 this
  simp only [Prod.mk.injEq] at h2
  exact ⟨e, he, h2.1⟩
theorem Tab.size {L : List EV} {es : Array MapEntry} {clock : Nat} (h : Tab L es clock) : es.size = L.length := by
  have := congrArg List.length h.is_
  simpa using this
theorem arr_inj {a b : List Value} : a.toArray = b.toArray ↔ a = b := by
  constructor
  · intro h; simpa using h
  · intro h; rw [h]
theorem agg_inj {a b : List Value} : Value.agg a.toArray = Value.agg b.toArray ↔ a = b := by
  simp
/-- the entry of a key -/
def tget (L : List EV) (p : PV) : Option EV := L.find? (fun x => decide (x.p = p))
theorem tget_none {L : List EV} {p : PV} : tget L p = none ↔ ∀ x, x ∈ L → x.p ≠ p := by
  simp [tget, List.find?_eq_none]
theorem Tab.fresh {L : List EV} {es : Array MapEntry} {clock : Nat} (h : Tab L es clock) {p : PV} (hn : tget L p = none) : ∀ e, e ∈ es.toList → e.key ≠ .agg (cP p).toArray := by
  intro e he hk
  obtain ⟨x, hx, h3, _⟩ := h.mem he
  exact tget_none.1 hn x hx (cP_eq.1 (agg_inj.1 (h3.symm.trans hk)))
theorem Tab.keys {P : Program} {kt : TypeId} {L : List EV} {es : Array MapEntry} {clock : Nat} (h : Tab L es clock) (kp : ∀ p : PV, okN p.n → ∃ l, keyOf P kt (.agg (cP p).toArray) = some l) : ∀ e, e ∈ es.toList → ∃ l, keyOf P kt e.key = some l := by
  intro e he
  obtain ⟨x, hx, h3, _⟩ := h.mem he
  rw [h3]
  exact kp _ (h.ok x hx).1
theorem Tab.nil : Tab [] #[] 0 := ⟨⟨by simp, by simp, by simp⟩, rfl, by simp, .nil⟩
theorem Tab.push {L : List EV} {es : Array MapEntry} {clock : Nat} (h : Tab L es clock) {x : EV} (hx : okE x) (hn : tget L x.p = none) : Tab (L ++ [x]) (es.push { key := .agg (cP x.p).toArray, val := .agg (cE x).toArray, born := clock }) (clock + 1) := by
  refine ⟨MapKept.stamped_push h.st (h.fresh hn), by simp [h.is_], fun y hy => ?_, ?_⟩
  · rcases List.mem_append.1 hy with hy | hy
    · exact h.ok y hy
    · simp at hy; subst hy; exact hx
  · rw [List.pairwise_append]
    refine ⟨h.dist, by simp, fun y hy z hz => ?_⟩
    simp at hz
    subst hz
    exact tget_none.1 hn y hy
section
variable {P : Program} {ops : Array Oper} {Q : Exit → Act → World → Prop} {n : Nat} {e : Env} {I I' : World → Prop} {rest : List Oper}
variable {d t yt : Nat} {p : String} {af : Array Edge} {x y z : Operand} {v v1 v2 : Value} {w0 : World} {S : List Nat} {l l' : List (Nat × Obj)}
theorem dec_of {r : Bool} {q : Prop} [Decidable q] (h : r = true ↔ q) : r = decide q := by
  rw [Bool.eq_iff_iff, h]; simp
theorem J.eqI {ty : TypeId} {a b : IDV} (K : EqL P ty) (k : ∀ a : IDV, ∃ l, keyOf P ty (.agg (cI a).toArray) = some l) (hx : ev e x = some (.agg (cI a).toArray)) (hy : ev e y = some (.agg (cI b).toArray)) (hd : Nat.blt d n = true)
    (h : J P ops Q n rest ((d, .bool (decide (a = b))) :: e) I) : J P ops Q n (⟨some d, .binOp .eql ty x y yt, t, p, af, none⟩ :: rest) e I := by
  obtain ⟨_, k1⟩ := k a
  obtain ⟨_, k2⟩ := k b
  refine J.eqA K hx hy k1 k2 hd fun r hr => ?_
  rw [arr_inj, cI_eq] at hr
  rw [dec_of hr]; exact h
theorem J.neI {ty : TypeId} {a b : IDV} (K : EqL P ty) (k : ∀ a : IDV, ∃ l, keyOf P ty (.agg (cI a).toArray) = some l) (hx : ev e x = some (.agg (cI a).toArray)) (hy : ev e y = some (.agg (cI b).toArray)) (hd : Nat.blt d n = true)
    (h : J P ops Q n rest ((d, .bool (!decide (a = b))) :: e) I) : J P ops Q n (⟨some d, .binOp .neq ty x y yt, t, p, af, none⟩ :: rest) e I := by
  obtain ⟨_, k1⟩ := k a
  obtain ⟨_, k2⟩ := k b
  refine J.neA K hx hy k1 k2 hd fun r hr => ?_
  rw [arr_inj, cI_eq] at hr
  rw [dec_of hr]; exact h
def zI : IDV := fun _ => 0
def zP : PV := ⟨zI, 0⟩
def zE : EV := ⟨zP, zI, zI, 0, 0⟩
end
end Go.J
/-
  The calculus: regions whose operations come in any order, with an invariant on the operations that are done. Proved over any program.
-/
namespace Go.J
open Go.RowKit
set_option linter.unusedVariables false
set_option linter.unusedSimpArgs false
def eX (ds : List (Option Nat)) (c : Nat → Value) : List Nat → Env → Env
  | [], e => e
  | j :: js, e => match ds.getD j none with
    | some d => eX ds c js ((d, c j) :: e)
    | none => eX ds c js e
def QN (R : Value → World → Prop) : Exit → Act → World → Prop := fun x a w => x = .normal ∧ a.defers = [] ∧ ∃ v, R v w
def QD (d : Option Nat) (R : Value → World → Prop) : Exit → Act → World → Prop := match d with
  | some d => QB d R (fun _ => True)
  | none => QN R
theorem wpOp_of_listN {P : Program} {ops : Array Oper} {Q : Exit → Act → World → Prop} {i : Nat} {o : Oper} {T : Array Value} {w : World} {R : Value → World → Prop} {K : Act → World → Prop}
    (ho : ops[i]? = some o) (hd : o.dst = none) (h : wpList P ops (QN R) [o] (act T) w)
    (hk : ∀ v w', R v w' → K (act T) w') : wpOp P ops Q i K (act T) w := by
  have fin : ∀ a w', QN R .normal a w' → K (act T) w' := by
    rintro a w' ⟨_, _, v, hr⟩
    exact hk v w' hr
  unfold wpOp
  simp only [ho]
  simp only [wpList] at h
  split at h
  · rename_i hw
    rw [if_pos hw]
    rcases h with h | ⟨_, ⟨_, _, h, _⟩⟩
    · left
      unfold Oper.wp at h ⊢
      generalize (execOp (act T).eval o).run P w = r at h
      cases r with
      | ok nx w' =>
        cases nx <;> simp only [Oper.upon, hd] at h ⊢
        case value v => exact fin _ w' h
        case skip => exact fin _ w' h
        case defer dd => exact absurd h.2.1 (by simp [Act.put])
        case enter f args =>
          refine h.mono fun r w'' hr => ?_
          cases r with
          | returned v => exact fin _ w'' hr
          | panicked c => exact absurd hr.1 (by simp)
          | outgrown => obtain ⟨_, _, h, _⟩ := hr; cases h
        case row row args => exact Rows.mono h fun v w'' hr => fin _ w'' hr
      | halt x w' => cases x <;> simp only [Oper.upon] at h; exact absurd h.1 (by simp)
    · cases h
  · rename_i hw
    rw [if_neg hw]
    simp only [hd] at h ⊢
    exact fin _ w h
def nodupO : List (Option Nat) → Bool
  | [] => true
  | none :: xs => nodupO xs
  | some x :: xs => !(xs.any fun y => match y with | some y => Nat.beq x y | none => false) && nodupO xs
theorem nodupO_spec : ∀ {l : List (Option Nat)}, nodupO l = true → ∀ i j d, l.getD i none = some d → l.getD j none = some d → i = j := by
  intro l
  induction l with
  | nil => intro _ i j d hi; simp at hi
  | cons x xs ih =>
    intro h i j d hi hj
    have hx : ∀ k, x = some d → xs.getD k none ≠ some d := by
      intro k hxd e
      subst hxd
      simp only [nodupO, Bool.and_eq_true, Bool.not_eq_true', List.any_eq_false] at h
      have hm : some d ∈ xs := by
        rw [List.getD_eq_getElem?_getD] at e
        cases hk : xs[k]? with
        | none => rw [hk] at e; cases e
        | some y => rw [hk] at e; simp only [Option.getD_some] at e; subst e; exact List.mem_of_getElem? hk
      have := h.1 _ hm
      simp at this
    have hr : nodupO xs = true := by
      cases x with
      | none => exact h
      | some x => simp only [nodupO, Bool.and_eq_true] at h; exact h.2
    cases i with
    | zero =>
      cases j with
      | zero => rfl
      | succ j => simp only [List.getD_cons_zero, List.getD_cons_succ] at hi hj; exact absurd hj (hx j hi)
    | succ i =>
      cases j with
      | zero => simp only [List.getD_cons_zero, List.getD_cons_succ] at hi hj; exact absurd hi (hx i hj)
      | succ j => simp only [List.getD_cons_succ] at hi hj; rw [ih hr i j d hi hj]
def mset (m : Nat → Bool) (i : Nat) : Nat → Bool := fun j => cond (Nat.beq j i) true (m j)
theorem Rep.eX {ds : List (Option Nat)} {c : Nat → Value} {n : Nat} {T : Array Value} : ∀ {js : List Nat} {e : Env}, Rep n T e → (∀ j, j ∈ js → ∀ d, ds.getD j none = some d → T[d]? = some (c j)) → Rep n T (J.eX ds c js e)
  | [], _, h, _ => h
  | j :: js, e, h, hj => by
    unfold J.eX
    split
    · rename_i d hd
      refine Rep.eX (js := js) (e := (d, c j) :: e) ⟨h.1, fun t u hu => ?_⟩ (fun k hk => hj k (.tail _ hk))
      simp only [J.get] at hu
      cases hb : Nat.beq d t with
      | true =>
        rw [hb] at hu
        have : d = t := by simpa using hb
        subst this
        simp only [Option.some.injEq] at hu
        subst hu
        exact hj j (.head _) _ hd
      | false => rw [hb] at hu; exact h.2 t u hu
    · exact Rep.eX (js := js) (e := e) h (fun k hk => hj k (.tail _ hk))
theorem JC.anyX {α : Type} {P : Program} {Q : Exit → Act → World → Prop} {n id : Nat} {l : List Oper} {e : Env} {I : World → Prop} (N : Nat) (c : Nat → α → Value) (L : (Nat → Bool) → α → World → Prop) {ds : List (Option Nat)}
    (hm : P.follows .mixedOrders = true) (hds : (l.take N).map (·.dst) = ds) (hnd : nodupO ds = true) (hN : Nat.ble N l.length = true) (hB : headB l N = true)
    (hlt : (ds.all fun d => match d with | some d => Nat.blt d n | none => true) = true) (hkeys : (ds.all fun d => match d with | some d => (get e d).isNone | none => true) = true)
    (hinit : ∀ w, I w → ∃ x, L (fun j => Nat.ble N j) x { w with drawn := w.drawn + 1 })
    (hstep : ∀ (i : Nat) (o : Oper) (m : Nat → Bool) (x : α), i < N → l[i]? = some o → m i = false → (preds o).all m = true →
      J P l.toArray (QD (ds.getD i none) (fun v w => ∃ x', v = c i x' ∧ (∀ j, j < N → m j = true → c j x' = c j x) ∧ L (mset m i) x' w)) n [o] (eX ds (fun j => c j x) (preds o) e) (L m x))
    (htail : ∀ x, J P l.toArray Q n (l.drop N) (eX ds (fun j => c j x) (List.range N) e) (L (fun _ => true) x)) : JC P Q n (.region id l.toArray true) e I := by
  intro T w ht hw
  refine wp_region_any hm ?_
  have hN' : N ≤ l.length := Nat.le_of_ble_eq_true hN
  have htk : (l.take N).length = N := by simp; omega
  simp only [headB, Bool.and_eq_true, Bool.or_eq_true] at hB
  obtain ⟨⟨hback, hseq⟩, hsink⟩ := hB
  have hdst : ∀ i o, i < N → l[i]? = some o → o.dst = ds.getD i none := by
    intro i o hi ho
    rw [← hds, List.getD_eq_getElem?_getD, List.getElem?_map, List.getElem?_take_of_lt hi, ho]
    rfl
  have hd1 : ∀ i d, i < N → ds.getD i none = some d → d < n ∧ get e d = none := by
    intro i d hi hd
    have hmem : some d ∈ ds := by
      rw [List.getD_eq_getElem?_getD] at hd
      cases hk : ds[i]? with
      | none => rw [hk] at hd; cases hd
      | some y => rw [hk] at hd; simp only [Option.getD_some] at hd; subst hd; exact List.mem_of_getElem? hk
    have h1 := List.all_eq_true.1 hlt _ hmem
    have h2 := List.all_eq_true.1 hkeys _ hmem
    exact ⟨Nat.blt_eq.mp h1, by simpa using h2⟩
  have key : ∀ (m : Nat) (listed : Array Bool) (T : Array Value) (w : World), cnt listed N = m → HeadInv .any l.toArray N listed → Rep n T e → (∃ x, L (fun j => Nat.ble N j || listed.getD j true) x w ∧ ∀ i, i < N → listed.getD i true = true → ∀ d, ds.getD i none = some d → T[d]? = some (c i x)) →
      wpAny P .any l.toArray Q (m + (l.length - N)) listed (act T) w := by
    intro m
    induction m with
    | zero =>
      rintro listed T w hcnt inv ht ⟨x, hw, hfacts⟩
      have hall := cnt_zero N hcnt
      have hlisted : listed = (List.replicate N true ++ List.replicate (l.length - N) false).toArray := by
        have hs := inv.size
        simp only [List.size_toArray] at hs
        apply Array.ext
        · simp [hs]; omega
        · intro i hi1 hi2
          by_cases hiN : i < N
          · have := hall i hiN
            simp only [Array.getD_eq_getD_getElem?, Array.getElem?_eq_getElem hi1, Option.getD_some] at this
            rw [this]
            simp [List.getElem_append, hiN]
          · have := inv.tail i (by omega) (by simp; omega)
            simp only [Array.getD_eq_getD_getElem?, Array.getElem?_eq_getElem hi1, Option.getD_some] at this
            rw [this]
            simp [List.getElem_append, hiN]
      rw [Nat.zero_add]
      have hdl : (l.drop N).length = l.length - N := by simp
      have hmask : (fun j => Nat.ble N j || listed.getD j true) = fun _ => true := by
        funext j
        by_cases hj : j < N
        · rw [hall j hj]; simp
        · have : Nat.ble N j = true := Nat.ble_eq_true_of_le (by omega)
          rw [this]; rfl
      rw [hmask] at hw
      have hwl : wpList P l.toArray Q (l.drop N) (act T) w :=
        htail x T w (ht.eX (fun j hj => hfacts j (List.mem_range.1 hj) (hall j (List.mem_range.1 hj)))) hw
      have := wpAny_of_seq (P := P) (md := .any) (Q' := Q) (ops := l.toArray) (l.drop N) N listed (act T) w (fun j => by simp [List.getElem?_drop]) (by rw [hdl, hlisted]; exact hseq) hwl
      rwa [hdl] at this
    | succ m ih =>
      rintro listed T w hcnt inv ht ⟨x, hw, hfacts⟩
      rw [show m + 1 + (l.length - N) = (m + (l.length - N)) + 1 by omega]
      have hsz : listed.size = l.length := by simpa using inv.size
      obtain ⟨i0, hi0, hun0, hmin0⟩ : ∃ i, i < N ∧ listed.getD i true = false ∧ ∀ j, j < i → listed.getD j true = true := by
        rcases all_below listed N with h | h
        · exact h
        · exfalso
          have : cnt listed N = 0 := by
            have : ∀ M, M ≤ N → cnt listed M = 0 := by
              intro M
              induction M with
              | zero => intro _; rfl
              | succ M ihM => intro hM; simp only [cnt]; rw [h M (by omega), ihM (by omega)]; rfl
            exact this N (Nat.le_refl _)
          omega
      have hgd : ∀ j, j < l.length → listed.getD j true = true → listed.getD j false = true := by
        intro j hj h
        have hj' : j < listed.size := by omega
        simp only [Array.getD_eq_getD_getElem?, Array.getElem?_eq_getElem hj', Option.getD_some] at h ⊢
        exact h
      have hready0 : i0 ∈ Region.ready .any l.toArray listed := by
        refine mem_ready.2 ⟨hun0, l[i0]'(by omega), by simp, fun ed hed hbd => ?_⟩
        have hp : ed.on ∈ preds (l[i0]'(by omega)) := by
          simp only [preds, List.mem_map, List.mem_filter]
          exact ⟨ed, ⟨by simpa using hed, hbd⟩, rfl⟩
        have := backB_spec hback hi0 (List.getElem?_eq_getElem (by omega)) ed.on hp
        exact hgd _ (by omega) (hmin0 _ this)
      refine ⟨fun h0 => (by rw [h0] at hready0; cases hready0), fun i hi => ?_⟩
      have hiN : i < N := by
        rcases Nat.lt_or_ge i N with h | h
        · exact h
        · exfalso
          rcases hsink with h1 | ⟨⟨h1, h2⟩, h3⟩
          · have : N = l.length := Nat.eq_of_beq_eq_true h1
            obtain ⟨_, o, ho, _⟩ := mem_ready.1 hi
            have := (Array.getElem?_eq_some_iff.1 ho).1
            simp at this; omega
          · exact tail_waits h2 h3 (by simpa using Nat.blt_eq.mp h1) inv _ i0 rfl hi0 hun0 i h hi
      obtain ⟨hun, o, ho, hall⟩ := mem_ready.1 hi
      have ho' : l[i]? = some o := by simpa using ho
      have hpre : ∀ j, j ∈ preds o → j < N ∧ listed.getD j true = true := by
        intro j hj
        have hjlt := backB_spec hback hiN ho' j hj
        simp only [preds, List.mem_map, List.mem_filter] at hj
        obtain ⟨ed, ⟨hed, hbd⟩, rfl⟩ := hj
        have h1 := hall ed (by simpa using hed) hbd
        have hj' : ed.on < listed.size := by omega
        refine ⟨by omega, ?_⟩
        simp only [Array.getD_eq_getD_getElem?, Array.getElem?_eq_getElem hj', Option.getD_some] at h1 ⊢
        exact h1
      have hle : Nat.ble N i = false := by
        cases h : Nat.ble N i with
        | false => rfl
        | true => have := Nat.le_of_ble_eq_true h; omega
      have hwl := hstep i o (fun j => Nat.ble N j || listed.getD j true) x hiN ho' (by show (Nat.ble N i || listed.getD i true) = false; rw [hle, hun]; rfl)
        (List.all_eq_true.2 fun j hj => by rw [(hpre j hj).2]; simp) T w (ht.eX (fun j hj => hfacts j (hpre j hj).1 (hpre j hj).2)) hw
      have hisz : i < listed.size := by omega
      have hmask : mset (fun j => Nat.ble N j || listed.getD j true) i = fun j => Nat.ble N j || (listed.setIfInBounds i true).getD j true := by
        funext j
        by_cases hji : j = i
        · subst hji
          simp [mset, hisz]
        · have hb : Nat.beq j i = false := Bool.eq_false_iff.2 fun h => hji (Nat.eq_of_beq_eq_true h)
          simp only [mset, hb, cond_false]
          rw [getD_set_ne true (Ne.symm hji)]
      have hdi := hdst i o hiN ho'
      cases hdd : ds.getD i none with
      | some d =>
        rw [hdd] at hwl hdi
        refine wpOp_of_listB ho hdi hwl (fun v w' hv hφ _ => ?_) (by rw [ht.1]; exact (hd1 i d hiN hdd).1)
        obtain ⟨x', rfl, hsame, hL⟩ := hφ
        refine ih _ _ w' (by have := cnt_set hisz hun N hiN; omega) (inv.set hi hiN) (ht.other (hd1 i d hiN hdd).2 _) ⟨x', by rw [← hmask]; exact hL, fun j hj hlj d' hd' => ?_⟩
        by_cases hji : j = i
        · subst hji
          rw [hdd] at hd'
          cases hd'
          exact hv
        · rw [getD_set_ne true (Ne.symm hji)] at hlj
          have hu := hfacts j hj hlj d' hd'
          rw [hsame j hj (by rw [hlj]; simp)]
          rw [Array.getElem?_setIfInBounds, if_neg (fun he => hji (nodupO_spec hnd j i d' hd' (by rw [hdd, he])))]
          exact hu
      | none =>
        rw [hdd] at hwl hdi
        refine wpOp_of_listN ho hdi hwl (fun v w' hφ => ?_)
        obtain ⟨x', rfl, hsame, hL⟩ := hφ
        refine ih _ _ w' (by have := cnt_set hisz hun N hiN; omega) (inv.set hi hiN) ht ⟨x', by rw [← hmask]; exact hL, fun j hj hlj d' hd' => ?_⟩
        by_cases hji : j = i
        · subst hji
          rw [hdd] at hd'
          cases hd'
        · rw [getD_set_ne true (Ne.symm hji)] at hlj
          have hu := hfacts j hj hlj d' hd'
          rw [hsame j hj (by rw [hlj]; simp)]
          exact hu
  have hcnt0 : cnt (Array.replicate l.toArray.size false) N = N := by
    have : ∀ M, M ≤ N → cnt (Array.replicate l.toArray.size false) M = M := by
      intro M
      induction M with
      | zero => intro _; rfl
      | succ M ihM =>
        intro hM
        simp only [cnt]
        rw [getD_in (by simp; omega) (getD_replicate_false _ _), ihM (by omega)]
        simp; omega
    exact this N (Nat.le_refl _)
  obtain ⟨x0, hx0⟩ := hinit w hw
  have := key N (Array.replicate l.toArray.size false) T { w with drawn := w.drawn + 1 } hcnt0
    ⟨by simp, fun j oj _ hl => (by rw [getD_replicate_false] at hl; cases hl), fun t _ ht => getD_in (by simpa using ht) (getD_replicate_false _ _)⟩ ht
    ⟨x0, by
      have hmask : (fun j => Nat.ble N j || (Array.replicate l.toArray.size false).getD j true) = fun j => Nat.ble N j := by
        funext j
        by_cases hj : j < N
        · rw [getD_in (by simp; omega) (getD_replicate_false _ _)]; simp
        · have : Nat.ble N j = true := Nat.ble_eq_true_of_le (by omega)
          rw [this]; rfl
      rw [hmask]; exact hx0, fun i hi hl => by rw [getD_in (by simp; omega) (getD_replicate_false _ _)] at hl; cases hl⟩
  rw [show N + (l.length - N) = l.toArray.size by simp; omega] at this
  exact this
/-- what is to be shown of each operation of the head -/
def StepsX {α : Type} (P : Program) (l : List Oper) (n N : Nat) (ds : List (Option Nat)) (c : Nat → α → Value) (L : (Nat → Bool) → α → World → Prop) (e : Env) : Nat → List Oper → Prop
  | _, [] => True
  | i, o :: os => (∀ m x, m i = false → (preds o).all m = true →
      J P l.toArray (QD (ds.getD i none) (fun v w => ∃ x', v = c i x' ∧ (∀ j, j < N → m j = true → c j x' = c j x) ∧ L (mset m i) x' w)) n [o] (eX ds (fun j => c j x) (preds o) e) (L m x)) ∧ StepsX P l n N ds c L e (i + 1) os
theorem StepsX.all {α : Type} {P : Program} {l : List Oper} {n N : Nat} {ds : List (Option Nat)} {c : Nat → α → Value} {L : (Nat → Bool) → α → World → Prop} {e : Env} : ∀ (k : List Oper) (i0 : Nat), StepsX P l n N ds c L e i0 k → ∀ (i : Nat) (o : Oper), k[i]? = some o →
    ∀ m x, m (i0 + i) = false → (preds o).all m = true →
      J P l.toArray (QD (ds.getD (i0 + i) none) (fun v w => ∃ x', v = c (i0 + i) x' ∧ (∀ j, j < N → m j = true → c j x' = c j x) ∧ L (mset m (i0 + i)) x' w)) n [o] (eX ds (fun j => c j x) (preds o) e) (L m x) := by
  intro k
  induction k with
  | nil => intro i0 _ i o ho; simp at ho
  | cons p ps ih =>
    intro i0 h i o ho
    cases i with
    | zero => simp only [List.getElem?_cons_zero, Option.some.injEq] at ho; subst ho; exact h.1
    | succ i =>
      simp only [List.getElem?_cons_succ] at ho
      have := ih (i0 + 1) h.2 i o ho
      rw [show i0 + 1 + i = i0 + (i + 1) by omega] at this
      exact this
theorem JC.drawX {α : Type} {P : Program} {Q : Exit → Act → World → Prop} {n id : Nat} {l : List Oper} {e : Env} {I : World → Prop} (N : Nat) (vals : α → List Value) (L : (Nat → Bool) → α → World → Prop) {ds : List (Option Nat)}
    (hm : P.follows .mixedOrders = true) (hds : (l.take N).map (·.dst) = ds) (hnd : nodupO ds = true) (hN : Nat.ble N l.length = true) (hB : headB l N = true)
    (hlt : (ds.all fun d => match d with | some d => Nat.blt d n | none => true) = true) (hkeys : (ds.all fun d => match d with | some d => (get e d).isNone | none => true) = true)
    (hinit : ∀ w, I w → ∃ x, L (fun j => Nat.ble N j) x { w with drawn := w.drawn + 1 })
    (hstep : StepsX P l n N ds (fun j x => (vals x).getD j undef) L e 0 (l.take N))
    (htail : ∀ x, J P l.toArray Q n (l.drop N) (eX ds (fun j => (vals x).getD j undef) (List.range N) e) (L (fun _ => true) x)) : JC P Q n (.region id l.toArray true) e I :=
  JC.anyX N (fun j x => (vals x).getD j undef) L hm hds hnd hN hB hlt hkeys hinit (fun i o m x hi ho h1 h2 => by
    have := StepsX.all (l.take N) 0 hstep i o (by rw [List.getElem?_take_of_lt hi]; exact ho) m x (by rw [Nat.zero_add]; exact h1) h2
    rw [Nat.zero_add] at this
    exact this) htail
theorem J.finX {P : Program} {ops : Array Oper} {n d : Nat} {R : Value → World → Prop} {e : Env} {I : World → Prop} {v : Value} (hv : get e d = some v) (h : ∀ w, I w → R v w) : J P ops (QD (some d) R) n [] e I :=
  J.nil (JX.finB hv fun w hw => ⟨h w hw, trivial⟩)
theorem JX.finN {n : Nat} {R : Value → World → Prop} {e : Env} {I : World → Prop} (v : Value) (h : ∀ w, I w → R v w) : JX (QN R) n .normal e I :=
  fun _ w ht hw => ⟨rfl, rfl, v, h w hw⟩
theorem St.drew {w0 w : World} {S : List Nat} {l : List (Nat × Obj)} (h : St w0 S l w) : St w0 S l { w with drawn := w.drawn + 1 } := h.step ((Bel.refl w).drew)
theorem predsT {o : Oper} {m : Nat → Bool} (h : (preds o).all m = true) {j : Nat} (hj : (preds o).any (Nat.beq j) = true) : m j = true := by
  obtain ⟨k, hk, h2⟩ := List.any_eq_true.1 hj
  have : j = k := Nat.eq_of_beq_eq_true h2
  subst this
  exact List.all_eq_true.1 h j hk
theorem J.makeFn {P : Program} {ops : Array Oper} {Q : Exit → Act → World → Prop} {n : Nat} {e : Env} {I : World → Prop} {rest : List Oper} {d t : Nat} {p : String} {af : Array Edge} {f : FuncId} {cs : List Operand} {vs : List Value} (hx : evs e cs = some vs) (hd : Nat.blt d n = true)
    (h : J P ops Q n rest ((d, .func (.func f) #[] vs.toArray) :: e) I) : J P ops Q n (⟨some d, .makeFunc (.func f) #[] cs.toArray, t, p, af, none⟩ :: rest) e I :=
  J.value hd (fun T w ht hw => ⟨w, by
    have := ht.evals hx
    simp [execOp, Instr.makeFunc, this], hw⟩) h
/-- a call of a function without a body, that the model answers -/
theorem J.callX {P : Program} {ops : Array Oper} {Q : Exit → Act → World → Prop} {n : Nat} {e : Env} {I : World → Prop} {rest : List Oper} {d t : Nat} {p : String} {af : Array Edge} {f : FuncId} {fn : Func} {ex : Array Value → Sem Value} {xs : List Operand} {ats : Array TypeId} {vs : List Value} {v : Value}
    (hf : P.funcs[f]? = some fn) (hn : (fn.name == "runtime.NumGoroutine") = false) (hb : fn.body.isNone = true) (h1 : (Extern.findNext fn).isNone = true) (h2 : Extern.find fn = some ex) (hx : evs e xs = some vs) (hd : Nat.blt d n = true)
    (hr : ∀ w, I w → (ex vs.toArray).run P w = .ok v w)
    (h : J P ops Q n rest ((d, v) :: e) I) : J P ops Q n (⟨some d, .call ⟨.value (.func f), xs.toArray, ats⟩, t, p, af, none⟩ :: rest) e I :=
  J.value hd (fun T w ht hw => ⟨w, by
    have hxs := ht.evals hx
    have h1' : Extern.findNext fn = none := by cases h : Extern.findNext fn with
      | none => rfl
      | some _ => rw [h] at h1; cases h1
    have hn' : ¬ fn.name = "runtime.NumGoroutine" := fun e => by rw [e] at hn; simp at hn
    have hb' : fn.body = none := by simpa using hb
    simp [execOp, resolve, Act.eval, Deferred.ofValue, invoke, hxs, callFunc, hf, hn', hb', h1', h2, hr w hw], hw⟩) h
section
variable {P : Program} {ops : Array Oper} {Q : Exit → Act → World → Prop} {n : Nat} {e : Env} {I : World → Prop} {rest : List Oper} {d t yt : Nat} {p : String} {af : Array Edge} {x y : Operand} {w0 : World} {S : List Nat} {l l' : List (Nat × Obj)}
theorem zeroCells_length (z : Array Value) (n : Nat) : (Builtin.zeroCells z n).toList.length = n * z.size := by simp [Builtin.zeroCells]
theorem zeroCells_mem {z : Array Value} {n : Nat} {v : Value} (h : v ∈ (Builtin.zeroCells z n).toList) (hz : ∀ u, u ∈ z.toList → u.oneCell' = true) (h0 : 0 < z.size) : v.oneCell' = true := by
  simp only [Builtin.zeroCells, Array.toList_map, List.mem_map] at h
  obtain ⟨i, _, rfl⟩ := h
  have hi : i % z.size < z.size := Nat.mod_lt _ h0
  rw [getElem!_pos z _ hi]
  exact hz _ (by simp)
/-- the elements of a slice are set to zero -/
theorem J.clear {ty el k c b o sz : Nat} {ats : Array TypeId} {zv : Value} {cs : List Value} {tb : TypeId} (hats : ats[0]? = some ty) (he : elemT P ty = some el) (hz : zeroT P el = some zv) (hsz : zv.cells.size = sz) (h0 : 0 < sz) (hone : ∀ u, u ∈ zv.cells.toList → u.oneCell' = true)
    (hx : ev e x = some (.slice (some ⟨b, o, none⟩) k c)) (hu : Up l b (cb cs tb) (cb (setMany cs o (Builtin.zeroCells zv.cells k).toList) tb) l') (hl : k = 0 ∨ o + k * sz ≤ cs.length)
    (h : J P ops Q n rest e (St w0 S l')) : J P ops Q n (⟨none, .call ⟨.builtin .clear, #[x], ats⟩, t, p, af, none⟩ :: rest) e (St w0 S l) := by
  refine J.valueN (fun T w ht hw => ?_) h
  have hb := hw.own _ hu.mem
  by_cases hk : k = 0
  · subst hk
    have e0 : (Builtin.zeroCells zv.cells 0).toList = [] := List.eq_nil_of_length_eq_zero (by rw [zeroCells_length]; simp)
    rw [e0] at hu
    refine ⟨.tuple #[], w, by simp [execOp, resolve, invoke, builtin, Builtin.clear_, ht.eval hx, run_underlying' (elem_u he), hats], ?_⟩
    exact hw.set hu rfl rfl rfl (Nat.le_refl _) rfl hb (fun _ _ _ => rfl)
  · obtain ⟨w', hr, hw'⟩ := run_storeCells (P := P) (Builtin.zeroCells zv.cells k).toList w cs o 0 hb (by rw [zeroCells_length, hsz]; rcases hl with h | h <;> omega) (fun v hv => zeroCells_mem hv hone (by omega))
    refine ⟨.tuple #[], w', ?_, hw.wrote hu (by simpa using hw')⟩
    have hr' : (storeCells ⟨b, o, none⟩ (Builtin.zeroCells zv.cells k).toList).run P w = .ok () w' := hr
    match k, hk with
    | k + 1, _ => simp [execOp, resolve, invoke, builtin, Builtin.clear_, ht.eval hx, run_underlying' (elem_u he), hats, run_zeroValue' hz, hr']
/-- a slice against nil -/
theorem J.eqNilSl {ty el k c : Nat} {a : Option Addr} (hu : P.underlying ty = some (.slice el)) (hx : ev e x = some (.slice a k c)) (hy : ev e y = some (.slice none 0 0)) (hd : Nat.blt d n = true)
    (h : J P ops Q n rest ((d, .bool a.isNone) :: e) I) : J P ops Q n (⟨some d, .binOp .eql ty x y yt, t, p, af, none⟩ :: rest) e I := by
  refine J.value hd (fun T w ht hw => ⟨w, ?_, hw⟩) h
  simp only [execOp, ht.eval hx, ht.eval hy, Sem.run_bind, Sem.run_pure]
  rw [run_eqGuard w trivial, Result.andThen_ok]
  have hb : (binOp .eql ty (.slice a k c) (.slice none 0 0)).run P w = ((Op.equal ty (.slice a k c) (.slice none 0 0)).run P w).andThen fun r w' => .ok (.bool r) w' := by
    simp only [binOp, Sem.run_bind, Sem.run_pure]
  have he : (Op.equal ty (.slice a k c) (.slice none 0 0)).run P w = .ok a.isNone w := by
    refine run_equal_of fun d => ?_
    cases a <;> simp [Op.equalIn, run_underlying' hu]
  rw [hb, he]; rfl
end
end Go.J
/-
  Identities as numbers; the model's comparison of bytes. Proved over any program.
-/
namespace Go.J
open Go.RowKit
set_option linter.unusedVariables false
set_option linter.unusedSimpArgs false

def lexB : List UInt8 → List UInt8 → Int
  | [], [] => 0
  | [], _ :: _ => -1
  | _ :: _, [] => 1
  | a :: az, b :: bs => if a = b then lexB az bs else if a < b then -1 else 1
theorem str_get (xs : List UInt8) (i : Nat) : (str xs)[i]! = xs.getD i 0 := by
  by_cases h : i < xs.length
  · rw [getElem!_pos (str xs) i (by rw [str_size]; exact h)]
    simp [str, List.getD_eq_getElem?_getD, List.getElem?_eq_getElem h]
    rfl
  · rw [getElem!_neg (str xs) i (by rw [str_size]; exact h)]
    simp [List.getD_eq_getElem?_getD, List.getElem?_eq_none (by omega : xs.length ≤ i)]
    rfl
theorem find_range (p : Nat → Bool) : ∀ n, (List.range (n + 1)).find? p = if p 0 then some 0 else ((List.range n).find? fun i => p (i + 1)).map (· + 1) := by
  intro n
  rw [List.range_succ_eq_map, List.find?_cons]
  cases h : p 0 with
  | true => rfl
  | false =>
    simp only [Bool.false_eq_true, if_false]
    rw [List.find?_map]
    rfl
theorem cmp_lex : ∀ (xs ys : List UInt8), xs.length = ys.length → Extern.BytealgCompare.cmp (str xs) (str ys) = lexB xs ys
  | [], [], _ => rfl
  | [], _ :: _, h => by simp at h
  | _ :: _, [], h => by simp at h
  | x :: xs, y :: ys, h => by
    have ih := cmp_lex xs ys (by simpa using h)
    unfold Extern.BytealgCompare.cmp at ih ⊢
    simp only [str_size, List.length_cons] at ih ⊢
    rw [show min (xs.length + 1) (ys.length + 1) = min xs.length ys.length + 1 by omega, find_range]
    simp only [str_get, List.getD_cons_zero, List.getD_cons_succ] at ih ⊢
    by_cases hxy : x = y
    · subst hxy
      simp only [bne_self_eq_false, Bool.false_eq_true, if_false]
      rw [lexB, if_pos rfl, ← ih]
      cases hf : (List.range (min xs.length ys.length)).find? (fun i => xs.getD i 0 != ys.getD i 0) with
      | none =>
        simp only [Option.map_none]
        have : xs.length = ys.length := by simpa using h
        simp [this]
      | some i => simp only [Option.map_some, List.getD_cons_succ]
    · rw [if_pos (by simpa using hxy)]
      simp only [List.getD_cons_zero]
      rw [lexB, if_neg hxy]
def valB : List UInt8 → Nat
  | [] => 0
  | b :: bs => b.toNat * 256 ^ bs.length + valB bs
theorem valB_lt : ∀ bs : List UInt8, valB bs < 256 ^ bs.length
  | [] => by simp [valB]
  | b :: bs => by
    have h1 := valB_lt bs
    have h2 := b.toNat_lt
    simp only [valB, List.length_cons, Nat.pow_succ]
    have h3 : b.toNat * 256 ^ bs.length ≤ 255 * 256 ^ bs.length := Nat.mul_le_mul_right _ (by omega)
    omega
theorem lexB_val : ∀ (xs ys : List UInt8), xs.length = ys.length → lexB xs ys = if valB xs < valB ys then -1 else if valB ys < valB xs then 1 else 0
  | [], [], _ => by simp [lexB, valB]
  | [], _ :: _, h => by simp at h
  | _ :: _, [], h => by simp at h
  | x :: xs, y :: ys, h => by
    have hl : xs.length = ys.length := by simpa using h
    have ih := lexB_val xs ys hl
    have h1 := valB_lt xs
    have h2 := valB_lt ys
    rw [hl] at h1
    have hA : valB (x :: xs) = x.toNat * 256 ^ ys.length + valB xs := by simp only [valB]; rw [hl]
    have hB : valB (y :: ys) = y.toNat * 256 ^ ys.length + valB ys := rfl
    rw [hA, hB]
    simp only [lexB]
    by_cases hxy : x = y
    · subst hxy
      rw [if_pos rfl, ih]
      simp only [Nat.add_lt_add_iff_left]
    · rw [if_neg hxy]
      have hne : x.toNat ≠ y.toNat := fun e => hxy (UInt8.toNat_inj.1 e)
      rcases Nat.lt_or_ge x.toNat y.toNat with hlt | hge
      · have h3 : (x.toNat + 1) * 256 ^ ys.length ≤ y.toNat * 256 ^ ys.length := Nat.mul_le_mul_right _ hlt
        rw [Nat.add_mul, Nat.one_mul] at h3
        rw [if_pos (UInt8.lt_iff_toNat_lt.2 hlt), if_pos (by omega)]
      · have h3 : (y.toNat + 1) * 256 ^ ys.length ≤ x.toNat * 256 ^ ys.length := Nat.mul_le_mul_right _ (by omega)
        rw [Nat.add_mul, Nat.one_mul] at h3
        rw [if_neg (by rw [UInt8.lt_iff_toNat_lt]; omega), if_neg (by omega), if_pos (by omega)]
theorem valB_inj : ∀ (xs ys : List UInt8), xs.length = ys.length → valB xs = valB ys → xs = ys
  | [], [], _, _ => rfl
  | [], _ :: _, h, _ => by simp at h
  | _ :: _, [], h, _ => by simp at h
  | x :: xs, y :: ys, h, hv => by
    have hl : xs.length = ys.length := by simpa using h
    have h1 := valB_lt xs
    have h2 := valB_lt ys
    simp only [valB] at hv
    rw [hl] at h1 hv
    have hxy : x.toNat = y.toNat := by
      rcases Nat.lt_trichotomy x.toNat y.toNat with hlt | he | hlt
      · have h3 : (x.toNat + 1) * 256 ^ ys.length ≤ y.toNat * 256 ^ ys.length := Nat.mul_le_mul_right _ hlt
        rw [Nat.add_mul, Nat.one_mul] at h3
        omega
      · exact he
      · have h3 : (y.toNat + 1) * 256 ^ ys.length ≤ x.toNat * 256 ^ ys.length := Nat.mul_le_mul_right _ hlt
        rw [Nat.add_mul, Nat.one_mul] at h3
        omega
    rw [hxy] at hv
    rw [UInt8.toNat_inj.1 hxy, valB_inj xs ys hl (by omega)]
abbrev bI (a : IDV) : List UInt8 := [a 0, a 1, a 2, a 3, a 4, a 5, a 6, a 7, a 8, a 9, a 10, a 11, a 12, a 13, a 14, a 15]
/-- an identity's number -/
def valI (a : IDV) : Nat := valB (bI a)
theorem valI_lt (a : IDV) : valI a < 2 ^ 128 := by
  have := valB_lt (bI a)
  simpa [valI] using this
theorem bI_inj {a b : IDV} (h : bI a = bI b) : a = b := cI_eq.1 (by
  have := congrArg (List.map u8) h
  exact this)
theorem valI_inj {a b : IDV} (h : valI a = valI b) : a = b := bI_inj (valB_inj _ _ rfl h)
def cmpI (a b : IDV) : Int := if valI a < valI b then -1 else if valI b < valI a then 1 else 0
theorem cmp_bI (a b : IDV) : Extern.BytealgCompare.cmp (str (bI a)) (str (bI b)) = cmpI a b := by
  rw [cmp_lex (bI a) (bI b) rfl, lexB_val (bI a) (bI b) rfl]
  rfl
theorem run_loadBytesE {P : Program} {w : World} {b : Nat} : ∀ (l : List UInt8) (o : Nat) (acc : ByteArray), (∀ j x, l[j]? = some x → w.cell? ⟨b, o + j, none⟩ = some (u8 x)) →
    (Extern.Bytes.loadBytes ⟨b, o, none⟩ l.length acc).run P w = .ok ⟨acc.data ++ l.toArray⟩ w
  | [], o, acc, _ => by simp [Extern.Bytes.loadBytes]
  | x :: l, o, acc, h => by
    have h0 : w.cell? ⟨b, o, none⟩ = some (u8 x) := h 0 x rfl
    have ih := run_loadBytesE (P := P) (w := w) (b := b) l (o + 1) (acc.push x) (fun j y hy => by
      have := h (j + 1) y (by simpa using hy)
      rw [show o + 1 + j = o + (j + 1) by omega]; exact this)
    have hx : ((x.toNat : Int).toNat).toUInt8 = x := by simp
    simp only [List.length_cons, Extern.Bytes.loadBytes, Sem.run_bind, run_load, h0, Result.andThen_ok, addr_add, hx]
    rw [ih]
    congr 1
    apply ByteArray.ext
    simp [ByteArray.push]
theorem run_bytesOf {P : Program} {w : World} {v : Value} {m : Nat} {bs : List UInt8} (h : Row w v m (bs.map u8)) (hl : bs.length = m) : (Extern.Bytes.bytesOf v).run P w = .ok (str bs) w := by
  obtain ⟨a, c, rfl, _, h⟩ := h
  cases a with
  | none =>
    have : bs = [] := by
      rcases h with h | ⟨b, o, ha, _⟩
      · exact List.map_eq_nil_iff.1 h
      · cases ha
    subst this
    rfl
  | some a =>
    rcases h with h | ⟨b, o, ha, hc⟩
    · have := List.map_eq_nil_iff.1 h
      subst this
      simp only [List.length_nil] at hl
      subst hl
      rfl
    · simp only [Option.some.injEq] at ha
      subst ha
      subst hl
      simp only [Extern.Bytes.bytesOf]
      rw [run_loadBytesE bs o .empty (fun j x hj => by
        have hlt := (List.getElem?_eq_some_iff.1 hj).1
        have := hc j (by simpa using hlt)
        rw [this, List.getElem?_map, hj]; rfl)]
      simp [str]
theorem run_compare {P : Program} {w : World} {v1 v2 : Value} {xs ys : List UInt8} (h1 : Row w v1 xs.length (xs.map u8)) (h2 : Row w v2 ys.length (ys.map u8)) :
    (Extern.BytealgCompare.compare #[v1, v2]).run P w = .ok (.int .i64 (Extern.BytealgCompare.cmp (str xs) (str ys))) w := by
  have e : Extern.BytealgCompare.compare #[v1, v2] = (do pure (goInt (Extern.BytealgCompare.cmp (← Extern.Bytes.bytesOf v1) (← Extern.Bytes.bytesOf v2)))) := rfl
  rw [e]
  simp only [Sem.run_bind, run_bytesOf h1 rfl, run_bytesOf h2 rfl, Result.andThen_ok, Sem.run_pure]
  rfl
theorem Bel.grown {w w' : World} (h : Bel w w') : ∃ q os', w' = Sort.grow (w.drewN q) os' := by
  refine ⟨w'.drawn - w.drawn, w'.heap.extract w.heap.size w'.heap.size, ?_⟩
  have hh : w'.heap = w.heap ++ w'.heap.extract w.heap.size w'.heap.size := by
    apply Array.ext_getElem?
    intro k
    by_cases hk : k < w.heap.size
    · rw [Array.getElem?_append_left hk]
      exact h.block k hk
    · rw [Array.getElem?_append_right (by omega), Array.getElem?_extract]
      by_cases hk2 : k < w'.heap.size
      · rw [if_pos (by have := h.size; omega), show w.heap.size + (k - w.heap.size) = k by omega]
      · rw [if_neg (by omega), Array.getElem?_eq_none (by omega)]
  have hd : w.drawn + (w'.drawn - w.drawn) = w'.drawn := by have := h.drawn; omega
  cases w'
  simp only [Sort.grow, World.drewN] at hh hd ⊢
  have h1 := h.os; have h2 := h.tape; have h3 := h.output
  simp only at h1 h2 h3
  subst h1 h2 h3
  rw [← hh, hd]
end Go.J
/-
  Identities: closed facts, and what ident's and slices' first functions do: contracts.
-/
namespace Go.Proofs.Ytbafhclandendaa
namespace Ty
open Go.J Go.RowKit
set_option linter.unusedVariables false
set_option linter.unusedSimpArgs false
theorem size_ : Try.prog.types.size + 1 = 158 + 2 := by kernel_rfl
theorem cID : Try.prog.cellsOf 23 = 16 := by kernel_rfl
theorem cU8 : Try.prog.cellsOf 5 = 1 := by kernel_rfl
theorem litsI (a : IDV) (d : Nat) : Try.prog.keyLits (d + 2) 23 (cI a) = some (lI a).flatten := lits_id u23 u5 cID cU8
theorem keyI (a : IDV) : ∃ l, keyOf Try.prog 23 (.agg (cI a).toArray) = some l := key_of size_ (by kernel_rfl) (by kernel_rfl) (by rw [cID]; rfl) (litsI a _)
theorem QI : EqL Try.prog 23 := EqL.of (m := 4) (by kernel_rfl) (by omega) (by kernel_rfl) (by kernel_rfl) (by kernel_rfl)
theorem zID : zeroT Try.prog 23 = some (.agg (cI zI).toArray) := by kernel_rfl
end Ty
open Go.J Go.RowKit
set_option maxRecDepth 4000
/-- the cells of a row of identities -/
abbrev fI (xs : List IDV) : List Value := xs.flatMap cI
theorem fI_length : ∀ xs : List IDV, (fI xs).length = xs.length * 16
  | [] => rfl
  | x :: xs => by
    have := fI_length xs
    simp only [fI, List.flatMap_cons, List.length_append, List.length_cons] at this ⊢
    simp only [List.length_nil] at this ⊢
    omega
theorem fI_at : ∀ {xs : List IDV} {i : Nat} {a : IDV}, xs[i]? = some a → ((fI xs).drop (i * 16)).take 16 = cI a
  | [], i, a, h => by simp at h
  | x :: xs, 0, a, h => by
    simp only [List.getElem?_cons_zero, Option.some.injEq] at h
    subst h
    rfl
  | x :: xs, i + 1, a, h => by
    have ih := fI_at (xs := xs) (i := i) (by simpa using h)
    rw [show (i + 1) * 16 = 16 + i * 16 by omega]
    show (((cI x ++ fI xs).drop (16 + i * 16)).take 16) = cI a
    rw [← List.drop_drop, show (cI x ++ fI xs).drop 16 = fI xs from rfl]
    exact ih
theorem rowF_at {w : World} {b o k c q i : Nat} {xs : List IDV} {a : IDV} (h : Row w (.slice (some ⟨b, o, none⟩) k c) k (fI xs)) (hi : xs[i]? = some a) (hq : q = o + i * 16) : Cells w b q (cI a) := by
  have hl : i < xs.length := (List.getElem?_eq_some_iff.1 hi).1
  have hlen := fI_length xs
  obtain ⟨b', o', c', hv, _, hc⟩ := Row.some h (by omega)
  simp only [Value.slice.injEq, Option.some.injEq, Addr.mk.injEq] at hv
  obtain ⟨⟨rfl, rfl, _⟩, _, rfl⟩ := hv
  subst hq
  intro j hj
  have hj16 : j < 16 := hj
  rw [Nat.add_assoc, hc (i * 16 + j) (by omega)]
  have e := fI_at hi
  have : (cI a)[j]? = (((fI xs).drop (i * 16)).take 16)[j]? := by rw [e]
  rw [this, List.getElem?_take_of_lt hj16, List.getElem?_drop]
theorem bcompare_spec (v1 v2 : Value) (xs ys : List UInt8) (w : World) (hr1 : Row w v1 xs.length (xs.map u8)) (hr2 : Row w v2 ys.length (ys.map u8)) :
    Calls Try.prog 80 [v1, v2].toArray w fun r w' => r = .returned (.int .i64 (Extern.BytealgCompare.cmp (str xs) (str ys))) ∧ Bel w w' := by
  refine calls_of_J (args := [v1, v2]) (e := [(0, v1), (1, v2)]) Try.func80 rfl rfl ⟨rfl, rfl, trivial⟩ (St.start w) ?_
  refine JC.seq (fun K0 hK0 => ?_)
  refine JC.region ?_
  refine J.assign rfl rfl ?_
  refine J.nil ?_
  refine JX.thenN (hK0 _ _ ?_)
  refine JC.seq (fun K1 hK1 => ?_)
  refine JC.region ?_
  refine J.move rfl rfl ?_
  refine J.move rfl rfl ?_
  refine J.callX (v := .int .i64 (Extern.BytealgCompare.cmp (str xs) (str ys))) Try.func94 (by kernel_rfl) (by kernel_rfl) (by kernel_rfl) (ex := Extern.BytealgCompare.compare) (by kernel_rfl) rfl rfl (fun w1 hw => run_compare (hr1.below hw.below) (hr2.below hw.below)) ?_
  refine J.assign rfl rfl ?_
  refine J.nil ?_
  refine JX.thenN (hK1 _ _ ?_)
  refine JC.ret ?_
  refine JX.ret1 rfl rfl (fun w hw => ?_)
  exact ⟨rfl, hw.below⟩

theorem compare_spec (a b : IDV) (w : World) :
    Calls Try.prog 65 [.agg (cI a).toArray, .agg (cI b).toArray].toArray w fun r w' => r = .returned (.int .i64 (cmpI a b)) ∧ Bel w w' := by
  refine calls_of_J (args := [.agg (cI a).toArray, .agg (cI b).toArray]) (e := [(0, .agg (cI a).toArray), (1, .agg (cI b).toArray)]) Try.func65 rfl rfl ⟨rfl, rfl, trivial⟩ (St.start w) ?_
  refine JC.seq (fun K0 hK0 => ?_)
  refine JC.region ?_
  refine J.box rfl rfl rfl (fun b2 => ?_)
  refine J.box rfl rfl rfl (fun b3 => ?_)
  refine J.assign rfl rfl ?_
  refine J.nil ?_
  refine JX.thenN (hK0 _ _ ?_)
  refine JC.seq (fun K1 hK1 => ?_)
  apply JC.drawL 3 [Eqv (.slice (some ⟨b2, 0, none⟩) 16 16), Eqv (.slice (some ⟨b3, 0, none⟩) 16 16), Eqv (.int .i64 (cmpI a b))] Ty.mixed rfl rfl rfl (by kernel_rfl) rfl rfl (fun w w' hw hb => hw.step hb) ⟨fun _ _ _ h _ => h, fun _ _ _ h _ => h, fun _ _ _ h _ => h, trivial⟩ ?hstep ?htail
  case hstep =>
    refine ⟨fun wi => ?_, fun wi => ?_, fun wi => ?_, trivial⟩
    · skip
      refine Fin.nil ?_
      refine J.sliceAll Ty.ar23 (by rw [Ty.s5]; rfl) rfl rfl ?_
      exact J.finP rfl
    · skip
      refine Fin.nil ?_
      refine J.sliceAll Ty.ar23 (by rw [Ty.s5]; rfl) rfl rfl ?_
      exact J.finP rfl
    · skip
      refine Fin.consE rfl (Fin.consE rfl (Fin.nil ?_))
      refine J.callD (v := .int .i64 (cmpI a b)) Ty.bd80 rfl rfl (fun w1 hw => by
        have h := bcompare_spec (.slice (some ⟨b2, 0, none⟩) 16 16) (.slice (some ⟨b3, 0, none⟩) 16 16) (bI a) (bI b) w1 (Row.own hw (.tail _ (.head _)) rfl (Nat.le_refl _)) (Row.own hw (.head _) rfl (Nat.le_refl _))
        rw [cmp_bI] at h
        exact h) ?_
      exact J.finQ rfl
  case htail =>
    refine Fin.consE rfl (Fin.consE rfl (Fin.consE rfl (Fin.nil ?_)))
    refine J.assign rfl rfl ?_
    refine J.nil ?_
    refine JX.thenN (hK1 _ _ ?_)
    refine JC.ret ?_
    refine JX.ret1 rfl rfl (fun w hw => ?_)
    exact ⟨rfl, hw.below⟩

end Go.Proofs.Ytbafhclandendaa
/-
  What is between two identities, clockwise: contract of ident.Sub.
-/
namespace Go.Proofs.Ytbafhclandendaa
open Go.J Go.RowKit
set_option linter.unusedVariables false
set_option linter.unusedSimpArgs false
set_option maxRecDepth 4000
theorem list16 : ∀ (bs : List UInt8), bs.length = 16 → ∃ a : IDV, bs = bI a
  | [b0, b1, b2, b3, b4, b5, b6, b7, b8, b9, b10, b11, b12, b13, b14, b15], _ => ⟨fun i => [b0, b1, b2, b3, b4, b5, b6, b7, b8, b9, b10, b11, b12, b13, b14, b15].get i, rfl⟩
/-- the identity of a number -/
def ofI (n : Nat) : IDV := fun i => UInt8.ofNat (n / 256 ^ (15 - i.val))
theorem valI_ofI_exists (n : Nat) (h : n < 2 ^ 128) : ∃ a : IDV, valI a = n := by
  have key : ∀ (k n : Nat), n < 256 ^ k → ∃ bs : List UInt8, bs.length = k ∧ valB bs = n := by
    intro k
    induction k with
    | zero => intro n hn; exact ⟨[], rfl, by simp [valB]; simp at hn; omega⟩
    | succ k ih =>
      intro n hn
      have hp : 0 < 256 ^ k := Nat.pow_pos (by omega)
      obtain ⟨bs, hl, hv⟩ := ih (n % 256 ^ k) (Nat.mod_lt _ hp)
      have hq : n / 256 ^ k < 256 := by
        rw [Nat.div_lt_iff_lt_mul hp]
        rw [Nat.pow_succ] at hn
        omega
      refine ⟨UInt8.ofNat (n / 256 ^ k) :: bs, by simp [hl], ?_⟩
      simp only [valB, hl, hv]
      have : (UInt8.ofNat (n / 256 ^ k)).toNat = n / 256 ^ k := by simp; omega
      rw [this]
      have := Nat.div_add_mod n (256 ^ k)
      rw [Nat.mul_comm] at this
      omega
  obtain ⟨bs, hl, hv⟩ := key 16 n (by omega)
  obtain ⟨a, rfl⟩ := list16 bs hl
  exact ⟨a, hv⟩
/-- how far it is from b to a -/
noncomputable def subI (a b : IDV) : IDV := (valI_ofI_exists ((valI a + 2 ^ 128 - valI b) % 2 ^ 128) (Nat.mod_lt _ (by omega))).choose
theorem valI_subI (a b : IDV) : valI (subI a b) = (valI a + 2 ^ 128 - valI b) % 2 ^ 128 := (valI_ofI_exists ((valI a + 2 ^ 128 - valI b) % 2 ^ 128) (Nat.mod_lt _ (by omega))).choose_spec
theorem drop_cons {l : List UInt8} {k : Nat} (h : k < l.length) : valB (l.drop k) = (l[k]).toNat * 256 ^ (l.length - (k + 1)) + valB (l.drop (k + 1)) := by
  rw [List.drop_eq_getElem_cons h]
  simp only [valB, List.length_drop]
structure SB where
  i : Nat
  out : List UInt8
  br : Nat
/-- what the loop keeps -/
structure SubInv (a b : IDV) (s : SB) : Prop where
  hi : s.i ≤ 16
  hl : s.out.length = 16
  hb : s.br ≤ 1
  eq : valB ((bI a).drop (16 - s.i)) + s.br * 256 ^ s.i = valB ((bI b).drop (16 - s.i)) + valB (s.out.drop (16 - s.i))
theorem SubInv.step {a b : IDV} {s : SB} (h : SubInv a b s) (hi : s.i < 16) {x y : UInt8} (hx : (bI a)[15 - s.i]? = some x) (hy : (bI b)[15 - s.i]? = some y) {n : Nat} {br : Nat} (hbr : br ≤ 1) (hn : n < 256)
    (he : (x.toNat : Int) - (y.toNat : Int) - (s.br : Int) + 256 * (br : Int) = (n : Int)) : SubInv a b ⟨s.i + 1, s.out.set (15 - s.i) (UInt8.ofNat n), br⟩ := by
  refine ⟨by show s.i + 1 ≤ 16; omega, by simp [h.hl], hbr, ?_⟩
  have ka : 15 - s.i < (bI a).length := by show 15 - s.i < 16; omega
  have kb : 15 - s.i < (bI b).length := by show 15 - s.i < 16; omega
  have ko : 15 - s.i < (s.out.set (15 - s.i) (UInt8.ofNat n)).length := by rw [List.length_set, h.hl]; omega
  have e1 : 16 - (s.i + 1) = 15 - s.i := by omega
  have e2 : 15 - s.i + 1 = 16 - s.i := by omega
  have la : (bI a).length = 16 := rfl
  have lb : (bI b).length = 16 := rfl
  have lo : (s.out.set (15 - s.i) (UInt8.ofNat n)).length = 16 := by rw [List.length_set, h.hl]
  simp only
  rw [e1, drop_cons ka, drop_cons kb, drop_cons ko, la, lb, lo, e2, show 16 - (16 - s.i) = s.i by omega]
  have xa : (bI a)[15 - s.i] = x := by rw [List.getElem?_eq_getElem ka] at hx; exact Option.some.inj hx
  have yb : (bI b)[15 - s.i] = y := by rw [List.getElem?_eq_getElem kb] at hy; exact Option.some.inj hy
  rw [xa, yb, List.getElem_set_self, List.drop_set_of_lt (by omega)]
  have hn2 : (UInt8.ofNat n).toNat = n := by simp; omega
  rw [hn2]
  have heq := h.eq
  have hxe : x.toNat + 256 * br = y.toNat + s.br + n := by omega
  have key : x.toNat * 256 ^ s.i + br * 256 ^ (s.i + 1) = y.toNat * 256 ^ s.i + n * 256 ^ s.i + s.br * 256 ^ s.i := by
    rw [Nat.pow_succ, show br * (256 ^ s.i * 256) = (256 * br) * 256 ^ s.i by rw [Nat.mul_comm (256 ^ s.i) 256, ← Nat.mul_assoc, Nat.mul_comm br 256], ← Nat.add_mul, hxe, Nat.add_mul, Nat.add_mul]
    omega
  omega
theorem SubInv.done {a b o : IDV} {br : Nat} (h : SubInv a b ⟨16, bI o, br⟩) : o = subI a b := by
  apply valI_inj
  rw [valI_subI]
  have heq := h.eq
  have hb := h.hb
  simp only [Nat.sub_self, List.drop_zero] at heq hb
  have h1 : valB (bI a) = valI a := rfl
  have h2 : valB (bI b) = valI b := rfl
  have h3 : valB (bI o) = valI o := rfl
  rw [h1, h2, h3] at heq
  have l1 := valI_lt a
  have l2 := valI_lt b
  have l3 := valI_lt o
  have hp : (256 : Nat) ^ 16 = 2 ^ 128 := by decide
  rw [hp] at heq
  have : br = 0 ∨ br = 1 := by omega
  rcases this with rfl | rfl <;> omega

end Go.Proofs.Ytbafhclandendaa
/-
  ident.Sub: walk.
-/
namespace Go.Proofs.Ytbafhclandendaa
open Go.J Go.RowKit
set_option linter.unusedVariables false
set_option linter.unusedSimpArgs false
set_option maxRecDepth 4000
theorem set_map (l : List UInt8) (k : Nat) (x : UInt8) : setMany (l.map u8) (0 + k) [u8 x] = (l.set k x).map u8 := by
  simp only [setMany, Nat.zero_add, List.map_set]
theorem wrap_byte {n : Int} (h0 : 0 ≤ n) (h1 : n < 256) : Value.int .u8 (IntKind.u8.wrap n) = u8 (UInt8.ofNat n.toNat) := by
  rw [wrap_u8m]
  show Value.int .u8 _ = Value.int .u8 _
  congr 1
  simp
  omega
theorem wrap_u8i (x : UInt8) : Value.int .i64 (IntKind.i64.wrap ((x.toNat : Nat) : Int)) = .int .i64 ((x.toNat : Nat) : Int) := by
  have := x.toNat_lt
  rw [wrap_i64 (by omega) (by omega)]

theorem sub_spec (a b : IDV) (w : World) :
    Calls Try.prog 70 [.agg (cI a).toArray, .agg (cI b).toArray].toArray w fun r w' => r = .returned (.agg (cI (subI a b)).toArray) ∧ Bel w w' := by
  refine calls_of_J (args := [.agg (cI a).toArray, .agg (cI b).toArray]) (e := [(0, .agg (cI a).toArray), (1, .agg (cI b).toArray)]) Try.func70 rfl rfl ⟨rfl, rfl, trivial⟩ (St.start w) ?_
  refine JC.seq (fun K0 hK0 => ?_)
  refine JC.region ?_
  refine J.box rfl rfl rfl (fun b2 => ?_)
  refine J.box rfl rfl rfl (fun b3 => ?_)
  refine J.alloc Ty.zID rfl rfl (fun b4 => ?_)
  refine J.nil ?_
  refine JX.thenN (hK0 _ _ ?_)
  refine JC.seq (fun K1 hK1 => ?_)
  refine JC.region ?_
  refine J.alloc Ty.zID rfl rfl (fun b5 => ?_)
  refine J.nil ?_
  refine JX.thenN (hK1 _ _ ?_)
  refine JC.seq (fun K2 hK2 => ?_)
  refine JC.region ?_
  refine J.assign rfl rfl ?_
  refine J.nil ?_
  refine JX.thenN (hK2 _ _ ?_)
  refine JC.seq (fun K3 hK3 => ?_)
  refine JC.seq (fun K4 hK4 => ?_)
  refine JC.region ?_
  refine J.move rfl rfl ?_
  refine J.nil ?_
  refine JX.thenN (hK4 _ _ ?_)
  refine JC.block ?_
  refine JC.conseq (JC.cov (f := (fun st => [(2, .pointer (some ⟨b2, 0, none⟩)), (3, .pointer (some ⟨b3, 0, none⟩)), (4, .pointer (some ⟨b4, 0, none⟩)), (5, .pointer (some ⟨b5, 0, none⟩)), (6, .int .i64 ((st.br : Nat) : Int)), (10, .int .i64 ((st.i : Nat) : Int))]) (⟨0, List.replicate 16 0, 0⟩ : SB)) ⟨rfl, rfl, rfl, rfl, rfl, rfl, trivial⟩ (JC.loop (α := SB) (fun st => [(2, .pointer (some ⟨b2, 0, none⟩)), (3, .pointer (some ⟨b3, 0, none⟩)), (4, .pointer (some ⟨b4, 0, none⟩)), (5, .pointer (some ⟨b5, 0, none⟩)), (6, .int .i64 ((st.br : Nat) : Int)), (10, .int .i64 ((st.i : Nat) : Int))]) (fun st w' => SubInv a b st ∧ St w [] ((b5, cb (st.out.map u8) 23) :: (b4, cb (cI zI) 23) :: (b3, cb (cI b) 23) :: (b2, cb (cI a) 23) :: []) w') (fun st => 16 - st.i) (⟨0, List.replicate 16 0, 0⟩ : SB) (fun st => ?_))) (fun w hw => ⟨⟨by simp, rfl, by simp, by simp [valB]⟩, hw⟩)
  obtain ⟨i, out, br⟩ := st
  refine JC.pr (fun hI => ?_)
  have hi16 := hI.hi
  have hol := hI.hl
  have hbr := hI.hb
  simp only at hi16 hol hbr ⊢
  refine JC.seq (fun K5 hK5 => ?_)
  refine JC.region ?_
  refine J.bin rfl rfl rfl rfl ?_
  refine J.nil ?_
  refine JX.thenN (hK5 _ _ ?_)
  refine JC.seq (fun K6 hK6 => ?_)
  refine JC.cond rfl (fun h0 => ?_) (fun h0 => ?_)
  · skip
    have hlt : i < 16 := by simp at h0; omega
    obtain ⟨x, hx⟩ : ∃ x, (bI a)[15 - i]? = some x := ⟨_, List.getElem?_eq_getElem (show 15 - i < 16 by omega)⟩
    obtain ⟨y, hy⟩ : ∃ y, (bI b)[15 - i]? = some y := ⟨_, List.getElem?_eq_getElem (show 15 - i < 16 by omega)⟩
    have hx2 := x.toNat_lt
    have hy2 := y.toNat_lt
    refine JC.skip ?_
    refine JX.thenN (hK6 _ _ ?_)
    refine JC.seq (fun K7 hK7 => ?_)
    refine JC.block ?_
    refine JC.seq (fun K8 hK8 => ?_)
    refine JC.region ?_
    refine J.move rfl rfl ?_
    refine J.assign rfl rfl ?_
    refine J.nil ?_
    refine JX.thenN (hK8 _ _ ?_)
    refine JC.seq (fun K9 hK9 => ?_)
    refine JC.region ?_
    refine J.move rfl rfl ?_
    (first | refine J.subN rfl rfl (by omega) (by omega) rfl ?_ | refine J.bin rfl rfl rfl rfl ?_)
    refine J.assign rfl rfl ?_
    refine J.nil ?_
    refine JX.thenN (hK9 _ _ ?_)
    refine JC.seq (fun K10 hK10 => ?_)
    apply JC.drawL 11 [Eqv (.int .i64 ((15 : Int) - ((i : Nat) : Int))), Eqv (.pointer (some ⟨b2, 0 + ((15 : Int) - (i : Int)).toNat * 1, none⟩)), Eqv (u8 x), Eqv (.int .i64 ((x.toNat : Nat) : Int)), Eqv (.int .i64 ((15 : Int) - ((i : Nat) : Int))), Eqv (.pointer (some ⟨b3, 0 + ((15 : Int) - (i : Int)).toNat * 1, none⟩)), Eqv (u8 y), Eqv (.int .i64 ((y.toNat : Nat) : Int)), Eqv (.int .i64 (((x.toNat : Nat) : Int) - ((y.toNat : Nat) : Int))), Eqv (.int .i64 ((br : Nat) : Int)), Eqv (.int .i64 (((x.toNat : Nat) : Int) - ((y.toNat : Nat) : Int) - ((br : Nat) : Int)))] Ty.mixed rfl rfl rfl (by kernel_rfl) rfl rfl (fun w w' hw hb => hw.step hb) ⟨fun _ _ _ h _ => h, fun _ _ _ h _ => h, fun _ _ _ h _ => h, fun _ _ _ h _ => h, fun _ _ _ h _ => h, fun _ _ _ h _ => h, fun _ _ _ h _ => h, fun _ _ _ h _ => h, fun _ _ _ h _ => h, fun _ _ _ h _ => h, fun _ _ _ h _ => h, trivial⟩ ?hstep ?htail
    case hstep =>
      refine ⟨fun wi => ?_, fun wi => ?_, fun wi => ?_, fun wi => ?_, fun wi => ?_, fun wi => ?_, fun wi => ?_, fun wi => ?_, fun wi => ?_, fun wi => ?_, fun wi => ?_, trivial⟩
      · skip
        refine Fin.nil ?_
        refine J.move rfl rfl ?_
        exact J.finP rfl
      · skip
        refine Fin.consE rfl (Fin.nil ?_)
        refine J.indexAddrA Ty.ar23 Ty.s5 rfl rfl (by omega) (by omega) rfl ?_
        exact J.finP rfl
      · skip
        refine Fin.consE rfl (Fin.nil ?_)
        refine J.load1 (v := u8 x) Ty.a5 rfl (fun w1 hw => (cell_of (hw.2.own _ (.tail _ (.tail _ (.tail _ (.head _)))))).trans (by rw [show 0 + ((15 : Int) - (i : Int)).toNat * 1 = 15 - i by omega]; show ((bI _).map u8)[15 - i]? = _; rw [List.getElem?_map, hx]; rfl)) rfl ?_
        exact J.finP rfl
      · skip
        refine Fin.consE rfl (Fin.nil ?_)
        refine J.convInt Ty.u5 Ty.u3 rfl rfl ?_
        refine J.name 18 rfl (wrap_u8i _) ?_
        exact J.finP rfl
      · skip
        refine Fin.nil ?_
        refine J.move rfl rfl ?_
        exact J.finP rfl
      · skip
        refine Fin.consE rfl (Fin.nil ?_)
        refine J.indexAddrA Ty.ar23 Ty.s5 rfl rfl (by omega) (by omega) rfl ?_
        exact J.finP rfl
      · skip
        refine Fin.consE rfl (Fin.nil ?_)
        refine J.load1 (v := u8 y) Ty.a5 rfl (fun w1 hw => (cell_of (hw.2.own _ (.tail _ (.tail _ (.head _))))).trans (by rw [show 0 + ((15 : Int) - (i : Int)).toNat * 1 = 15 - i by omega]; show ((bI _).map u8)[15 - i]? = _; rw [List.getElem?_map, hy]; rfl)) rfl ?_
        exact J.finP rfl
      · skip
        refine Fin.consE rfl (Fin.nil ?_)
        refine J.convInt Ty.u5 Ty.u3 rfl rfl ?_
        refine J.name 22 rfl (wrap_u8i _) ?_
        exact J.finP rfl
      · skip
        refine Fin.consE rfl (Fin.consE rfl (Fin.nil ?_))
        refine J.subN rfl rfl (by omega) (by omega) rfl ?_
        exact J.finP rfl
      · skip
        refine Fin.nil ?_
        refine J.move rfl rfl ?_
        exact J.finP rfl
      · skip
        refine Fin.consE rfl (Fin.consE rfl (Fin.nil ?_))
        refine J.subN rfl rfl (by omega) (by omega) rfl ?_
        exact J.finP rfl
    case htail =>
      refine Fin.consE rfl (Fin.consE rfl (Fin.consE rfl (Fin.consE rfl (Fin.consE rfl (Fin.consE rfl (Fin.consE rfl (Fin.consE rfl (Fin.consE rfl (Fin.consE rfl (Fin.consE rfl (Fin.nil ?_)))))))))))
      refine J.assign rfl rfl ?_
      refine J.nil ?_
      refine JX.thenN (hK10 _ _ ?_)
      refine JC.seq (fun K11 hK11 => ?_)
      refine JC.region ?_
      refine J.assign rfl rfl ?_
      refine J.nil ?_
      refine JX.thenN (hK11 _ _ ?_)
      refine JC.seq (fun K12 hK12 => ?_)
      refine JC.seq (fun K13 hK13 => ?_)
      refine JC.region ?_
      refine J.move rfl rfl ?_
      refine J.bin rfl rfl rfl rfl ?_
      refine J.nil ?_
      refine JX.thenN (hK13 _ _ ?_)
      refine JC.cond rfl (fun h1 => ?_) (fun h1 => ?_)
      · skip
        have hneg : (((x.toNat : Nat) : Int) - ((y.toNat : Nat) : Int) - ((br : Nat) : Int)) < 0 := by simp at h1; omega
        refine JC.region ?_
        refine J.move rfl rfl ?_
        (first | refine J.addN rfl rfl (by omega) (by omega) rfl ?_ | refine J.bin rfl rfl rfl rfl ?_)
        refine J.assign rfl rfl ?_
        refine J.assign rfl rfl ?_
        refine J.nil ?_
        refine JX.thenN (hK12 _ _ ?_)
        refine JC.region ?_
        refine J.move rfl rfl ?_
        refine J.move rfl rfl ?_
        obtain ⟨nn, hnn1⟩ : ∃ nn : Nat, nn = (((((x.toNat : Nat) : Int) - ((y.toNat : Nat) : Int) - ((br : Nat) : Int)) + 256)).toNat := ⟨_, rfl⟩
        have hd0 : 0 ≤ ((((x.toNat : Nat) : Int) - ((y.toNat : Nat) : Int) - ((br : Nat) : Int)) + 256) ∧ ((((x.toNat : Nat) : Int) - ((y.toNat : Nat) : Int) - ((br : Nat) : Int)) + 256) < 256 := by omega
        have hnn : nn < 256 := by omega
        refine J.convInt Ty.u3 Ty.u5 rfl rfl ?_
        refine J.name 32 rfl ((wrap_byte hd0.1 hd0.2).trans (by rw [← hnn1])) ?_
        refine J.indexAddrA Ty.ar23 Ty.s5 rfl rfl (by omega) (by omega) rfl ?_
        refine J.storeO (cs := out.map u8) (vs := [u8 (UInt8.ofNat nn)]) Ty.s5 rfl rfl rfl rfl (by simp [Value.oneCell']) .here (by simp; omega) ?_
        refine J.conseq (I' := St w [] ((b5, cb ((out.set (15 - i) (UInt8.ofNat nn)).map u8) 23) :: (b4, cb (cI zI) 23) :: (b3, cb (cI b) 23) :: (b2, cb (cI a) 23) :: [])) ?_ (fun w1 hw => by rw [← set_map, show 0 + (15 - i) = 0 + ((15 : Int) - (i : Int)).toNat * 1 by omega]; exact hw)
        refine J.nil ?_
        refine JX.blockN ?_
        refine JX.thenN (hK7 _ _ ?_)
        refine JC.region ?_
        (first | refine J.addN rfl rfl (by omega) (by omega) rfl ?_ | refine J.bin rfl rfl rfl rfl ?_)
        refine J.move rfl rfl ?_
        refine J.nil ?_
        refine JX.thenN ?_
        refine JX.again (⟨i + 1, out.set (15 - i) (UInt8.ofNat nn), 1⟩ : SB) ?_ ?_ ?_
        · simp only; omega
        · exact ⟨rfl, rfl, rfl, rfl, rfl, rfl, trivial⟩
        · exact fun w1 hw => ⟨hI.step (by simp only; omega) hx hy (n := nn) (br := 1) (by omega) hnn (by simp only; omega), hw⟩
      · skip
        have hpos : 0 ≤ (((x.toNat : Nat) : Int) - ((y.toNat : Nat) : Int) - ((br : Nat) : Int)) := by simp at h1; omega
        refine JC.skip ?_
        refine JX.thenN (hK12 _ _ ?_)
        refine JC.region ?_
        refine J.move rfl rfl ?_
        refine J.move rfl rfl ?_
        obtain ⟨nn, hnn1⟩ : ∃ nn : Nat, nn = ((((x.toNat : Nat) : Int) - ((y.toNat : Nat) : Int) - ((br : Nat) : Int))).toNat := ⟨_, rfl⟩
        have hd0 : 0 ≤ (((x.toNat : Nat) : Int) - ((y.toNat : Nat) : Int) - ((br : Nat) : Int)) ∧ (((x.toNat : Nat) : Int) - ((y.toNat : Nat) : Int) - ((br : Nat) : Int)) < 256 := by omega
        have hnn : nn < 256 := by omega
        refine J.convInt Ty.u3 Ty.u5 rfl rfl ?_
        refine J.name 32 rfl ((wrap_byte hd0.1 hd0.2).trans (by rw [← hnn1])) ?_
        refine J.indexAddrA Ty.ar23 Ty.s5 rfl rfl (by omega) (by omega) rfl ?_
        refine J.storeO (cs := out.map u8) (vs := [u8 (UInt8.ofNat nn)]) Ty.s5 rfl rfl rfl rfl (by simp [Value.oneCell']) .here (by simp; omega) ?_
        refine J.conseq (I' := St w [] ((b5, cb ((out.set (15 - i) (UInt8.ofNat nn)).map u8) 23) :: (b4, cb (cI zI) 23) :: (b3, cb (cI b) 23) :: (b2, cb (cI a) 23) :: [])) ?_ (fun w1 hw => by rw [← set_map, show 0 + (15 - i) = 0 + ((15 : Int) - (i : Int)).toNat * 1 by omega]; exact hw)
        refine J.nil ?_
        refine JX.blockN ?_
        refine JX.thenN (hK7 _ _ ?_)
        refine JC.region ?_
        (first | refine J.addN rfl rfl (by omega) (by omega) rfl ?_ | refine J.bin rfl rfl rfl rfl ?_)
        refine J.move rfl rfl ?_
        refine J.nil ?_
        refine JX.thenN ?_
        refine JX.again (⟨i + 1, out.set (15 - i) (UInt8.ofNat nn), 0⟩ : SB) ?_ ?_ ?_
        · simp only; omega
        · exact ⟨rfl, rfl, rfl, rfl, rfl, rfl, trivial⟩
        · exact fun w1 hw => ⟨hI.step (by simp only; omega) hx hy (n := nn) (br := 0) (by omega) hnn (by simp only; omega), hw⟩
  · skip
    have hge : i = 16 := by simp at h0; omega
    subst hge
    obtain ⟨o, rfl⟩ := list16 out hol
    have hdone := hI.done
    refine JC.exit ?_
    refine JX.thenE ?_
    refine JX.thenE ?_
    refine JX.blockE ?_
    refine JX.thenN (hK3 _ _ ?_)
    refine JC.seq (fun K14 hK14 => ?_)
    refine JC.region ?_
    refine J.loadOA (vs := cI o) Ty.a23 Ty.s23 rfl (by repeat first | exact .head _ | apply List.Mem.tail | apply List.mem_append_right) (by exact rfl) rfl rfl ?_
    refine J.storeW (cs := cI zI) (vs := cI o) Ty.s23 rfl rfl rfl rfl rfl (by simp [Value.oneCell']) (.there .here) ?_
    refine J.nil ?_
    refine JX.thenN (hK14 _ _ ?_)
    refine JC.ret ?_
    refine JX.retC rfl rfl Ty.a23 Ty.s23 (vs := cI o) rfl (fun w1 hw => Cells.of_block (hw.own _ (.tail _ (.head _))) rfl) (fun w1 hw => ?_)
    rw [hdone]
    exact ⟨rfl, hw.below⟩

end Go.Proofs.Ytbafhclandendaa
/-
  DERIVED: THE SHELF's CONTRACTS AT THIS DUMP, IN PLAIN WORDS (tools/lay-plain.mjs out of 'YtbafhclandendaaKstmp.lean', which tools/lay-shelf.mjs wrote): THE SAME DECLARATIONS UNDER THE SAME NAMES: 'import', 'namespace', 'open', 'def', 'theorem' AND NOTHING ELSE: no command of the shelf's: FOR A HAND-IN. Each laying: the table of numbers ('.._ren') and one theorem, a field a fact of the dump's own or the kernel's comparison; each contract: ONE APPLICATION.
-/

namespace Go.Proofs
open Go.Shelf
def Try.sortI_ren : Go.Shelf.Ren := ⟨fun | 6 => 64 | 15 => 79 | 14 => 78 | 28 => 92 | 29 => 93 | 20 => 84 | 21 => 85 | 22 => 86 | 23 => 87 | 24 => 88 | 25 => 89 | 26 => 90 | 27 => 91 | 46 => 96 | 47 => 97 | 48 => 98 | 49 => 99 | 50 => 100 | 57 => 102 | n => n, fun | 22 => 24 | 24 => 23 | 25 => 109 | 3 => 3 | 39 => 31 | 0 => 0 | 53 => 132 | 55 => 103 | 4 => 4 | 46 => 125 | 45 => 124 | 50 => 129 | 5 => 5 | 9 => 9 | 66 => 134 | 70 => 138 | 76 => 140 | 77 => 141 | n => n, fun | n => n⟩
theorem Try.sortI : Go.Proofs.SlLaysF0.n6 Try.prog Try.sortI_ren := {
  mixed := by kernel_rfl
  f6 := ⟨Try.f64.name, by decide, Try.func64.trans (congrArg some (by kernel_rfl))⟩
  f14 := ⟨Try.f78.name, by decide, Try.func78.trans (congrArg some (by kernel_rfl))⟩
  f15 := Try.func79.trans (congrArg some (by kernel_rfl))
  f20 := ⟨Try.f84.name, by decide, Try.func84.trans (congrArg some (by kernel_rfl))⟩
  f21 := ⟨Try.f85.name, by decide, Try.func85.trans (congrArg some (by kernel_rfl))⟩
  f22 := ⟨Try.f86.name, by decide, Try.func86.trans (congrArg some (by kernel_rfl))⟩
  f23 := ⟨Try.f87.name, by decide, Try.func87.trans (congrArg some (by kernel_rfl))⟩
  f24 := ⟨Try.f88.name, by decide, Try.func88.trans (congrArg some (by kernel_rfl))⟩
  f25 := ⟨Try.f89.name, by decide, Try.func89.trans (congrArg some (by kernel_rfl))⟩
  f26 := ⟨Try.f90.name, by decide, Try.func90.trans (congrArg some (by kernel_rfl))⟩
  f27 := ⟨Try.f91.name, by decide, Try.func91.trans (congrArg some (by kernel_rfl))⟩
  f28 := Try.func92.trans (congrArg some (by kernel_rfl))
  f29 := Try.func93.trans (congrArg some (by kernel_rfl))
  f46 := ⟨Try.f96.name, by decide, Try.func96.trans (congrArg some (by kernel_rfl))⟩
  f47 := Try.func97.trans (congrArg some (by kernel_rfl))
  f48 := Try.func98.trans (congrArg some (by kernel_rfl))
  f49 := ⟨Try.f99.name, by decide, Try.func99.trans (congrArg some (by kernel_rfl))⟩
  f50 := ⟨Try.f100.name, by decide, Try.func100.trans (congrArg some (by kernel_rfl))⟩
  f57 := ⟨Try.f102.name, by decide, Try.func102.trans (congrArg some (by kernel_rfl))⟩
  t0 := Try.underlying0
  a0 := Try.isAgg0
  z0 := Try.sizeOf0
  v0 := Try.zeroValue0
  t3 := Try.underlying3
  a3 := Try.isAgg3
  z3 := Try.sizeOf3
  v3 := Try.zeroValue3
  t4 := Try.underlying4
  a4 := Try.isAgg4
  z4 := Try.sizeOf4
  v4 := Try.zeroValue4
  t5 := Try.underlying5
  a5 := Try.isAgg5
  z5 := Try.sizeOf5
  v5 := Try.zeroValue5
  t9 := Try.underlying9
  a9 := Try.isAgg9
  z9 := Try.sizeOf9
  v9 := Try.zeroValue9
  t22 := Try.underlying24
  a22 := Try.isAgg24
  z22 := Try.sizeOf24
  v22 := Try.zeroValue24
  t25 := Try.underlying109
  a25 := Try.isAgg109
  z25 := Try.sizeOf109
  v25 := Try.zeroValue109
  t39 := Try.underlying31
  a39 := Try.isAgg31
  z39 := Try.sizeOf31
  v39 := Try.zeroValue31
  t45 := Try.underlying124
  a45 := Try.isAgg124
  z45 := Try.sizeOf124
  v45 := Try.zeroValue124
  t46 := Try.underlying125
  a46 := Try.isAgg125
  z46 := Try.sizeOf125
  v46 := Try.zeroValue125
  t50 := Try.underlying129
  a50 := Try.isAgg129
  z50 := Try.sizeOf129
  v50 := Try.zeroValue129
  t53 := Try.underlying132
  a53 := Try.isAgg132
  z53 := Try.sizeOf132
  v53 := Try.zeroValue132
  t55 := Try.underlying103
  a55 := Try.isAgg103
  z55 := Try.sizeOf103
  v55 := Try.zeroValue103
  t66 := Try.underlying134
  a66 := Try.isAgg134
  z66 := Try.sizeOf134
  v66 := Try.zeroValue134
  t70 := Try.underlying138
  a70 := Try.isAgg138
  z70 := Try.sizeOf138
  v70 := Try.zeroValue138
  t76 := Try.underlying140
  a76 := Try.isAgg140
  z76 := Try.sizeOf140
  v76 := Try.zeroValue140
  t77 := Try.underlying141
  a77 := Try.isAgg141
  z77 := Try.sizeOf141
  v77 := Try.zeroValue141 }
end Go.Proofs
/-
  slices.SortFunc at identities: contract, by the shelf's.
-/
namespace Go.Proofs.Ytbafhclandendaa
open Go.J Go.RowKit
set_option linter.unusedVariables false
set_option linter.unusedSimpArgs false
open Go.Sort Go.Shelf
set_option maxRecDepth 4000
/-- a comparison by numbers -/
def cfN (f : IDV → Nat) (a b : IDV) : Int := if f a < f b then -1 else if f b < f a then 1 else 0
theorem ltOf_cfN (f : IDV → Nat) (a b : IDV) : ltOf (cfN f) a b = decide (f a < f b) := by
  unfold ltOf cfN
  by_cases h1 : f a < f b
  · simp [h1]
  · by_cases h2 : f b < f a <;> simp [h1, h2]
theorem swo_cfN (f : IDV → Nat) : SWO (ltOf (cfN f)) where
  irrefl x := by rw [ltOf_cfN]; simp
  trans x y z h1 h2 := by rw [ltOf_cfN] at *; simp at *; omega
  ntrans x y z h1 h2 := by rw [ltOf_cfN] at *; simp at *; omega
theorem flat_fI (xs : List IDV) : flatK cI 16 xs.toArray = (fI xs).toArray := by
  have hl := fI_length xs
  apply Array.ext
  · simp [hl]
  · intro t h1 h2
    have ht : t < xs.length * 16 := by simpa using h1
    have hi : t / 16 < xs.length := by omega
    have e := get_flatK cI 16 xs.toArray t (by simpa using ht)
    rw [getElem!_pos _ t h1] at e
    rw [e]
    have hx : xs.toArray[t / 16]! = xs[t / 16] := by rw [getElem!_pos xs.toArray (t / 16) (by simpa using hi)]; simp
    rw [hx]
    have hr : t % 16 < (cI xs[t / 16]).length := by show t % 16 < 16; omega
    rw [getElem!_pos (cI xs[t / 16]) (t % 16) hr]
    have e2 := fI_at (List.getElem?_eq_getElem hi)
    have e3 : (cI xs[t / 16])[t % 16]? = (fI xs)[t]? := by
      rw [← e2, List.getElem?_take_of_lt (by omega), List.getElem?_drop, show t / 16 * 16 + t % 16 = t by omega]
    rw [List.getElem?_eq_getElem hr, List.getElem?_eq_getElem (by omega)] at e3
    simpa using Option.some.inj e3
theorem holds_fI {w : World} {q : Nat} {xs : List IDV} {sp : List Value} {t : TypeId} (h : w.heap[q]? = some (cb (fI xs ++ sp) t)) : HoldsK cI 16 w q 0 xs.toArray := by
  intro j hj
  rw [flat_fI] at hj ⊢
  have hj' : j < (fI xs).length := by simpa using hj
  refine ⟨?_, frozen_of h⟩
  rw [cell_of h, Nat.zero_add, List.getElem?_append_left hj', List.getElem?_eq_getElem hj']
  rw [getElem!_pos (fI xs).toArray j hj]
  rfl
theorem sortWorld_st {w : World} {q : Nat} {xs ys : List IDV} {sp : List Value} {t : TypeId} (h : w.heap[q]? = some (cb (fI xs ++ sp) t)) (hl : ys.length = xs.length) (n : Nat) (os : Array Obj) :
    St w [q] [(q, cb (fI ys ++ sp) t)] (sortWorldK cI 16 w q 0 n ys.toArray os) := by
  have hq := lt_of_some h
  have hlx := fI_length xs
  have hly := fI_length ys
  have hheap : (sortWorldK cI 16 w q 0 n ys.toArray os).heap = (w.heap.modify q (onCells (putCells id 0 (flatK cI 16 ys.toArray)))) ++ os := rfl
  refine ⟨rfl, rfl, rfl, by rw [hheap]; simp, Nat.le_add_right _ _, fun b hb hS => ?_, fun p hp => ?_, fun p hp => ?_, by simp⟩
  · rw [hheap, Array.getElem?_append_left (by simpa using hb), Array.getElem?_modify, if_neg (by simp at hS; exact fun e => hS e.symm)]
  · simp only [List.mem_singleton] at hp
    subst hp
    rw [hheap, Array.getElem?_append_left (by simpa using hq), Array.getElem?_modify, if_pos rfl, h]
    simp only [Option.map_some, onCells, flat_fI]
    congr 2
    apply Array.ext
    · simp [putCells, hlx, hly, hl]
    · intro i h1 h2
      have hi : i < (fI ys ++ sp).length := by simpa using h2
      simp only [putCells, Array.getElem_mapIdx, Nat.zero_le, true_and, Nat.zero_add, Nat.sub_zero, id]
      by_cases hin : i < (fI ys).length
      · rw [if_pos (by simpa using hin), getElem!_pos _ i (by simpa using hin)]
        simp [List.getElem_append_left hin]
      · rw [if_neg (by simpa using hin)]
        simp only [List.getElem_toArray]
        rw [List.getElem_append_right (by omega), List.getElem_append_right (by omega)]
        congr 1
        omega
  · simp only [List.mem_singleton] at hp
    subst hp
    left; simp
theorem sort_spec (g : Nat) (cbv : Array Value) (f : IDV → Nat) (hf : ∀ a b, f a = f b → a = b) (hg : bodyT Try.prog g = true) (q : Nat) (xs : List IDV) (sp : List Value) (cap : Nat) (l : List (Nat × Obj)) (w : World) (hw0 : Own w ((q, cb (fI xs ++ sp) 23) :: l)) (hlen : xs.length < 4611686018427387904)
    (hc : ∀ (a b : IDV) (W : World), Own W l → Calls Try.prog g (#[.agg (cI a).toArray, .agg (cI b).toArray] ++ cbv) W fun r W' => r = .returned (.int .i64 (cfN f a b)) ∧ Bel W W') :
    Calls Try.prog 64 [.slice (some ⟨q, 0, none⟩) xs.length cap, .func (.func g) #[] cbv].toArray w fun r w' => ∃ ys : List IDV, r = .returned (.tuple #[]) ∧ (ys.Perm xs ∧ ys.Pairwise (fun a b => f a ≤ f b)) ∧ St w [q] [(q, cb (fI ys ++ sp) 23)] w' := by
  have hb : w.heap[q]? = some (cb (fI xs ++ sp) 23) := hw0.own _ (.head _)
  have hdist := List.pairwise_cons.1 hw0.dist
  have hcmp : CmpLays Try.prog g cbv cI 16 (cfN f) q 0 xs.toArray.size w := by
    intro m os dk hd x y
    have hs := sortWorld_st (ys := dk.toList) hb (by simpa using hd) m os
    rw [Array.toArray_toList] at hs
    refine (hc x y _ ⟨fun p hp => ?_, hdist.2⟩).mono fun r w' ⟨h1, h2⟩ => ⟨h1, h2.grown⟩
    rw [hs.keep p.1 (lt_of_some (hw0.own p (.tail _ hp))) (by simp; exact fun e => hdist.1 p hp e.symm)]
    exact hw0.own p (.tail _ hp)
  have hcon := AnyQ.slices_SortFunc_total Try.sortI 16 (fun w => Go.J.run_isAgg Ty.a23 w) (fun w => Go.J.run_sizeOf Ty.s23 w) cI (fun _ => rfl) (fun x v hv => by simp [cI] at hv; rcases hv with rfl | rfl | rfl | rfl | rfl | rfl | rfl | rfl | rfl | rfl | rfl | rfl | rfl | rfl | rfl | rfl <;> rfl) (cfN f) (swo_cfN f) g cbv q 0 cap xs.toArray w
    (fun args w => run_callFunc hg w) hcmp (holds_fI hb) (lt_of_some hb) (by simpa using hlen) (fun x y h1 h2 => by rw [ltOf_cfN] at h1 h2; simp at h1 h2; exact hf _ _ (by omega))
  change Calls Try.prog 64 _ _ _ at hcon
  rw [List.size_toArray] at hcon
  refine hcon.mono fun r w' ⟨h1, n, os, h2⟩ => ?_
  refine ⟨xs.mergeSort (fun x y => !(ltOf (cfN f)) y x), h1, ⟨List.mergeSort_perm _ _, ?_⟩, ?_⟩
  · have := List.pairwise_mergeSort (le := fun x y => !(ltOf (cfN f)) y x) (fun a b c h1 h2 => by simp [ltOf_cfN] at *; omega) (fun a b => by simp [ltOf_cfN]; omega) xs
    refine this.imp fun {a b} h => ?_
    simp [ltOf_cfN] at h
    exact h
  · rw [h2]
    exact sortWorld_st hb (by simp) n os

end Go.Proofs.Ytbafhclandendaa
/-
  slices.Index, Contains, and ring.Has at identities: contracts.
-/
namespace Go.Proofs.Ytbafhclandendaa
open Go.J Go.RowKit
set_option linter.unusedVariables false
set_option linter.unusedSimpArgs false
set_option maxRecDepth 4000
/-- where an identity stands first -/
def placeI : List IDV → IDV → Int
  | [], _ => -1
  | x :: xs, n => if x = n then 0 else if placeI xs n < 0 then -1 else placeI xs n + 1
theorem placeI_ge : ∀ (xs : List IDV) (n : IDV), -1 ≤ placeI xs n
  | [], _ => by simp [placeI]
  | x :: xs, n => by
    have := placeI_ge xs n
    simp only [placeI]
    split
    · omega
    · split <;> omega
theorem placeI_at : ∀ {xs : List IDV} {n : IDV} {i : Nat} (h : i < xs.length), (∀ j, j < i → xs[j]? ≠ some n) → xs[i] = n → placeI xs n = (i : Int)
  | x :: xs, n, 0, _, _, he => by
    have : x = n := he
    simp [placeI, this]
  | x :: xs, n, i + 1, h, hb, he => by
    have h0 : x ≠ n := fun e => hb 0 (by omega) (by simp [e])
    have ih := placeI_at (xs := xs) (n := n) (i := i) (by simpa using h) (fun j hj => by simpa using hb (j + 1) (by omega)) (by simpa using he)
    simp only [placeI]
    rw [if_neg h0, ih, if_neg (by omega)]
    omega
theorem placeI_no : ∀ {xs : List IDV} {n : IDV}, (∀ j, j < xs.length → xs[j]? ≠ some n) → placeI xs n = -1
  | [], _, _ => rfl
  | x :: xs, n, hb => by
    have h0 : x ≠ n := fun e => hb 0 (by simp) (by simp [e])
    have ih := placeI_no (xs := xs) (n := n) (fun j hj => by simpa using hb (j + 1) (by simpa using hj))
    simp only [placeI]
    rw [if_neg h0, ih, if_pos (by omega)]
theorem placeI_mem : ∀ {xs : List IDV} {n : IDV}, 0 ≤ placeI xs n ↔ n ∈ xs
  | [], _ => by simp [placeI]
  | x :: xs, n => by
    have ih := placeI_mem (xs := xs) (n := n)
    have := placeI_ge xs n
    simp only [placeI, List.mem_cons]
    by_cases h : x = n
    · simp [h]
    · rw [if_neg h]
      have h' : ¬ n = x := fun e => h e.symm
      simp only [h', false_or]
      by_cases h2 : placeI xs n < 0
      · rw [if_pos h2]
        constructor
        · intro h; omega
        · intro h; have := ih.2 h; omega
      · rw [if_neg h2]
        constructor
        · intro _; exact ih.1 (by omega)
        · intro _; omega

theorem index_spec (v : Value) (xs : List IDV) (n : IDV) (w : World) (hr : Row w v xs.length (fI xs)) (hl : xs.length < 4611686018427387904) :
    Calls Try.prog 68 [v, .agg (cI n).toArray].toArray w fun r w' => r = .returned (.int .i64 (placeI xs n)) ∧ Bel w w' := by
  obtain ⟨a, c, rfl, hc, _⟩ := id hr
  refine calls_of_J (args := [.slice a xs.length c, .agg (cI n).toArray]) (e := [(0, .slice a xs.length c), (1, .agg (cI n).toArray)]) Try.func68 rfl rfl ⟨rfl, rfl, trivial⟩ (St.start w) ?_
  refine JC.seq (fun K0 hK0 => ?_)
  refine JC.region ?_
  refine J.box rfl rfl rfl (fun b3 => ?_)
  refine J.assign rfl rfl ?_
  refine J.nil ?_
  refine JX.thenN (hK0 _ _ ?_)
  refine JC.seq (fun K1 hK1 => ?_)
  refine JC.seq (fun K2 hK2 => ?_)
  refine JC.region ?_
  refine J.move rfl rfl ?_
  refine J.lenS rfl Ty.u24 rfl rfl ?_
  refine J.move rfl rfl ?_
  refine J.nil ?_
  refine JX.thenN (hK2 _ _ ?_)
  refine JC.block ?_
  refine JC.conseq (JC.cov (f := (fun i => [(0, .slice a xs.length c), (3, .pointer (some ⟨b3, 0, none⟩)), (6, .slice a xs.length c), (7, .int .i64 ((xs.length : Nat) : Int)), (8, .int .i64 ((i : Nat) : Int))]) 0) ⟨rfl, rfl, rfl, rfl, rfl, trivial⟩ (JC.loop (α := Nat) (fun i => [(0, .slice a xs.length c), (3, .pointer (some ⟨b3, 0, none⟩)), (6, .slice a xs.length c), (7, .int .i64 ((xs.length : Nat) : Int)), (8, .int .i64 ((i : Nat) : Int))]) (fun i w' => (i ≤ xs.length ∧ ∀ j, j < i → xs[j]? ≠ some n) ∧ St w [] [(b3, cb (cI n) 23)] w') (fun i => xs.length - i) 0 (fun i => ?_))) (fun w hw => ⟨⟨Nat.zero_le _, by omega⟩, hw⟩)
  refine JC.pr (fun hx => ?_)
  obtain ⟨hi, hpre⟩ := hx
  refine JC.seq (fun K3 hK3 => ?_)
  refine JC.region ?_
  refine J.bin rfl rfl rfl rfl ?_
  refine J.nil ?_
  refine JX.thenN (hK3 _ _ ?_)
  refine JC.seq (fun K4 hK4 => ?_)
  refine JC.cond rfl (fun h0 => ?_) (fun h0 => ?_)
  · skip
    have hlt : i < xs.length := by simp at h0; omega
    have hfl := fI_length xs
    have hcl := (Row.some hr (by omega))
    obtain ⟨b, o, c', hqe, _, _⟩ := hcl
    simp only [Value.slice.injEq] at hqe
    obtain ⟨rfl, _, rfl⟩ := hqe
    refine JC.skip ?_
    refine JX.thenN (hK4 _ _ ?_)
    refine JC.seq (fun K5 hK5 => ?_)
    refine JC.block ?_
    refine JC.seq (fun K6 hK6 => ?_)
    refine JC.region ?_
    refine J.move rfl rfl ?_
    refine J.assign rfl rfl ?_
    refine J.nil ?_
    refine JX.thenN (hK6 _ _ ?_)
    refine JC.seq (fun K7 hK7 => ?_)
    apply JC.drawL 6 [Eqv (.agg (cI n).toArray), Eqv (.slice (some ⟨b, o, none⟩) xs.length c), Eqv (.int .i64 ((i : Nat) : Int)), Eqv (.pointer (some ⟨b, o + (i : Int).toNat * 16, none⟩)), Eqv (.agg (cI xs[i]).toArray), Eqv (.bool (decide (n = xs[i])))] Ty.mixed rfl rfl rfl (by kernel_rfl) rfl rfl (fun w w' hw hb => hw.step hb) ⟨fun _ _ _ h _ => h, fun _ _ _ h _ => h, fun _ _ _ h _ => h, fun _ _ _ h _ => h, fun _ _ _ h _ => h, fun _ _ _ h _ => h, trivial⟩ ?hstep ?htail
    case hstep =>
      refine ⟨fun wi => ?_, fun wi => ?_, fun wi => ?_, fun wi => ?_, fun wi => ?_, fun wi => ?_, trivial⟩
      · skip
        refine Fin.nil ?_
        refine J.loadA (vs := cI n) Ty.a23 Ty.s23 rfl rfl (fun w hw => Cells.of_block (hw.2.own (_, _) (by repeat first | exact .head _ | apply List.Mem.tail | apply List.mem_append_right)) (by exact rfl)) rfl ?_
        exact J.finP rfl
      · skip
        refine Fin.nil ?_
        refine J.move rfl rfl ?_
        exact J.finP rfl
      · skip
        refine Fin.nil ?_
        refine J.move rfl rfl ?_
        exact J.finP rfl
      · skip
        refine Fin.consE rfl (Fin.consE rfl (Fin.nil ?_))
        refine J.indexAddrS Ty.el24 Ty.s23 rfl rfl (by omega) (by omega) rfl ?_
        exact J.finP rfl
      · skip
        refine Fin.consE rfl (Fin.nil ?_)
        refine J.loadA (vs := cI xs[i]) Ty.a23 Ty.s23 rfl rfl (fun w1 hw => rowF_at (hr.below hw.2.below) (List.getElem?_eq_getElem hlt) (by omega)) rfl ?_
        exact J.finP rfl
      · skip
        refine Fin.consE rfl (Fin.consE rfl (Fin.nil ?_))
        refine J.eqI Ty.QI Ty.keyI rfl rfl rfl ?_
        exact J.finP rfl
    case htail =>
      refine Fin.consE rfl (Fin.consE rfl (Fin.consE rfl (Fin.consE rfl (Fin.consE rfl (Fin.consE rfl (Fin.nil ?_))))))
      refine J.nil ?_
      refine JX.thenN (hK7 _ _ ?_)
      refine JC.cond rfl (fun h1 => ?_) (fun h1 => ?_)
      · skip
        have he : xs[i] = n := by simp at h1; exact h1.symm
        refine JC.seq (fun K8 hK8 => ?_)
        refine JC.region ?_
        refine J.move rfl rfl ?_
        refine J.assign rfl rfl ?_
        refine J.nil ?_
        refine JX.thenN (hK8 _ _ ?_)
        refine JC.ret ?_
        refine JX.blockR ?_
        refine JX.thenR ?_
        refine JX.thenR ?_
        refine JX.blockR ?_
        refine JX.thenR ?_
        refine JX.ret1 rfl rfl (fun w hw => ?_)
        first | exact ⟨by rw [placeI_at hlt hpre he], hw.below⟩ | exact ⟨by rw [placeI_no (by rw [← hge]; exact hpre)], hw.below⟩
      · skip
        have hne : ¬ xs[i] = n := fun e => by simp [e] at h1
        refine JC.skip ?_
        refine JX.blockN ?_
        refine JX.thenN (hK5 _ _ ?_)
        refine JC.region ?_
        (first | refine J.addN rfl rfl (by omega) (by omega) rfl ?_ | refine J.bin rfl rfl rfl rfl ?_)
        refine J.move rfl rfl ?_
        refine J.nil ?_
        refine JX.thenN ?_
        refine JX.again (i + 1) ?_ ?_ ?_
        · omega
        · exact ⟨rfl, rfl, rfl, rfl, rfl, trivial⟩
        · exact fun w1 hw => ⟨⟨hlt, fun j hj => by
          rcases Nat.lt_or_ge j i with h | h
          · exact hpre j h
          · have : j = i := by omega
            subst this
            rw [List.getElem?_eq_getElem hlt]; simp; exact hne⟩, hw⟩
  · skip
    have hge : i = xs.length := by simp at h0; omega
    refine JC.exit ?_
    refine JX.thenE ?_
    refine JX.thenE ?_
    refine JX.blockE ?_
    refine JX.thenN (hK1 _ _ ?_)
    refine JC.seq (fun K9 hK9 => ?_)
    refine JC.region ?_
    refine J.assign rfl rfl ?_
    refine J.nil ?_
    refine JX.thenN (hK9 _ _ ?_)
    refine JC.ret ?_
    refine JX.ret1 rfl rfl (fun w hw => ?_)
    first | exact ⟨by rw [placeI_at hlt hpre he], hw.below⟩ | exact ⟨by rw [placeI_no (by rw [← hge]; exact hpre)], hw.below⟩

theorem contains_spec (v : Value) (xs : List IDV) (n : IDV) (w : World) (hr : Row w v xs.length (fI xs)) (hl : xs.length < 4611686018427387904) :
    Calls Try.prog 47 [v, .agg (cI n).toArray].toArray w fun r w' => r = .returned (.bool (decide (n ∈ xs))) ∧ Bel w w' := by
  refine calls_of_J (args := [v, .agg (cI n).toArray]) (e := [(0, v), (1, .agg (cI n).toArray)]) Try.func47 rfl rfl ⟨rfl, rfl, trivial⟩ (St.start w) ?_
  refine JC.seq (fun K0 hK0 => ?_)
  refine JC.region ?_
  refine J.box rfl rfl rfl (fun b3 => ?_)
  refine J.assign rfl rfl ?_
  refine J.nil ?_
  refine JX.thenN (hK0 _ _ ?_)
  refine JC.seq (fun K1 hK1 => ?_)
  refine JC.region ?_
  refine J.move rfl rfl ?_
  refine J.loadOA (vs := cI n) Ty.a23 Ty.s23 rfl (by repeat first | exact .head _ | apply List.Mem.tail | apply List.mem_append_right) (by exact rfl) rfl rfl ?_
  refine J.callB (v := .int .i64 (placeI xs n)) (fun w1 w2 hw hb => hw.step hb) Ty.bd68 rfl rfl (fun w1 hw => index_spec v xs n w1 (hr.below hw.below) hl) ?_
  refine J.bin rfl rfl rfl rfl ?_
  refine J.assign rfl rfl ?_
  refine J.nil ?_
  refine JX.thenN (hK1 _ _ ?_)
  refine JC.ret ?_
  refine JX.ret1 rfl rfl (fun w hw => ?_)
  refine ⟨?_, hw.below⟩
  rw [show decide (placeI xs n ≥ 0) = decide (n ∈ xs) from decide_eq_decide.2 placeI_mem]

theorem has_spec (v : Value) (xs : List IDV) (n : IDV) (w : World) (hr : Row w v xs.length (fI xs)) (hl : xs.length < 4611686018427387904) :
    Calls Try.prog 53 [v, .agg (cI n).toArray].toArray w fun r w' => r = .returned (.bool (decide (n ∈ xs))) ∧ Bel w w' := by
  refine calls_of_J (args := [v, .agg (cI n).toArray]) (e := [(0, v), (1, .agg (cI n).toArray)]) Try.func53 rfl rfl ⟨rfl, rfl, trivial⟩ (St.start w) ?_
  refine JC.seq (fun K0 hK0 => ?_)
  refine JC.region ?_
  refine J.box rfl rfl rfl (fun b3 => ?_)
  refine J.assign rfl rfl ?_
  refine J.nil ?_
  refine JX.thenN (hK0 _ _ ?_)
  refine JC.seq (fun K1 hK1 => ?_)
  refine JC.region ?_
  refine J.move rfl rfl ?_
  refine J.loadOA (vs := cI n) Ty.a23 Ty.s23 rfl (by repeat first | exact .head _ | apply List.Mem.tail | apply List.mem_append_right) (by exact rfl) rfl rfl ?_
  refine J.callB (v := .bool (decide (n ∈ xs))) (fun w1 w2 hw hb => hw.step hb) Ty.bd47 rfl rfl (fun w1 hw => contains_spec v xs n w1 (hr.below hw.below) hl) ?_
  refine J.assign rfl rfl ?_
  refine J.nil ?_
  refine JX.thenN (hK1 _ _ ?_)
  refine JC.ret ?_
  refine JX.ret1 rfl rfl (fun w hw => ?_)
  exact ⟨rfl, hw.below⟩

end Go.Proofs.Ytbafhclandendaa
/-
  slices.Clone, IndexFunc and DeleteFunc at identities, as ring.Sorted calls them: contracts.
-/
namespace Go.Proofs.Ytbafhclandendaa
open Go.J Go.RowKit
set_option linter.unusedVariables false
set_option linter.unusedSimpArgs false
set_option maxRecDepth 4000
def delI (xs : List IDV) (self : IDV) : List IDV := xs.filter (fun x => decide (x ≠ self))
theorem delI_none {xs : List IDV} {self : IDV} (h : ∀ j, j < xs.length → xs[j]? ≠ some self) : delI xs self = xs := by
  refine List.filter_eq_self.2 fun x hx => ?_
  obtain ⟨j, hj, rfl⟩ := List.getElem_of_mem hx
  have := h j hj
  rw [List.getElem?_eq_getElem hj] at this
  simpa using this
theorem fI_append (xs ys : List IDV) : fI (xs ++ ys) = fI xs ++ fI ys := by simp [fI]
theorem fI_set {xs : List IDV} {i : Nat} (h : i < xs.length) (sp : List Value) (v : IDV) : setMany (fI xs ++ sp) (0 + i * 16) (cI v) = fI (xs.set i v) ++ sp := by
  have hl := fI_length xs
  have hc : (cI v).length = 16 := rfl
  rw [setMany_eq _ _ _ (by rw [List.length_append, hc]; omega), hc]
  have e : xs.set i v = xs.take i ++ v :: xs.drop (i + 1) := by
    rw [List.set_eq_take_append_cons_drop, if_pos h]
  have hx : fI xs = fI (xs.take i) ++ (cI xs[i] ++ fI (xs.drop (i + 1))) := by
    have : xs = xs.take i ++ xs[i] :: xs.drop (i + 1) := by
      rw [← List.drop_eq_getElem_cons h, List.take_append_drop]
    conv => lhs; rw [this]
    rw [fI_append]; rfl
  have ht : (fI (xs.take i)).length = i * 16 := by rw [fI_length, List.length_take]; congr 1; omega
  rw [e, fI_append, hx, Nat.zero_add]
  have e1 : (fI (xs.take i) ++ (cI xs[i] ++ fI (xs.drop (i + 1))) ++ sp).take (i * 16) = fI (xs.take i) := by
    rw [List.append_assoc, ← ht, List.take_left]
  have e2 : (fI (xs.take i) ++ (cI xs[i] ++ fI (xs.drop (i + 1))) ++ sp).drop (i * 16 + 16) = fI (xs.drop (i + 1)) ++ sp := by
    rw [show fI (xs.take i) ++ (cI xs[i] ++ fI (xs.drop (i + 1))) ++ sp = (fI (xs.take i) ++ cI xs[i]) ++ (fI (xs.drop (i + 1)) ++ sp) by simp only [List.append_assoc]]
    rw [show i * 16 + 16 = (fI (xs.take i) ++ cI xs[i]).length by rw [List.length_append, ht]; rfl, List.drop_left]
  rw [e1, e2]
  show fI (xs.take i) ++ cI v ++ (fI (xs.drop (i + 1)) ++ sp) = fI (xs.take i) ++ (cI v ++ fI (xs.drop (i + 1))) ++ sp
  simp only [List.append_assoc]
/-- what is left when the end of a row is cleared -/
theorem clear_end {zs ws : List IDV} {i n : Nat} {sp Z : List Value} (hz : zs.length = n) (hw : zs.take i = ws) (hi : i ≤ n) (hZ : Z.length = (n - i) * 16) {o : Nat} (ho : n - i = 0 ∨ o = i * 16) :
    ∃ sp', setMany (fI zs ++ sp) o Z = fI ws ++ sp' ∧ (fI ws ++ sp').length = (fI zs ++ sp).length := by
  have hl := fI_length zs
  have hx : fI zs = fI ws ++ fI (zs.drop i) := by
    rw [← hw, ← fI_append, List.take_append_drop]
  have hwl : (fI ws).length = i * 16 := by rw [fI_length, ← hw, List.length_take]; congr 1; omega
  rcases ho with h0 | rfl
  · have : Z = [] := List.eq_nil_of_length_eq_zero (by rw [hZ, h0])
    subst this
    have e : fI zs ++ sp = fI ws ++ (fI (zs.drop i) ++ sp) := by rw [hx, List.append_assoc]
    exact ⟨fI (zs.drop i) ++ sp, e, by rw [e]⟩
  · refine ⟨Z ++ (fI zs ++ sp).drop (i * 16 + Z.length), ?_, ?_⟩
    · rw [setMany_eq _ _ _ (by rw [List.length_append, hZ]; omega), hx, List.append_assoc (fI ws)]
      rw [show (fI ws ++ (fI (zs.drop i) ++ sp)).take (i * 16) = fI ws by rw [← hwl, List.take_left], List.append_assoc]
    · rw [hx]
      simp only [List.length_append, List.length_drop, hZ]
      have : (fI (zs.drop i)).length = (n - i) * 16 := by rw [fI_length, List.length_drop, hz]
      omega
structure DS where
  j : Nat
  zs : List IDV
structure DelInv (xs : List IDV) (me : IDV) (s : DS) : Prop where
  hj : s.j ≤ xs.length
  hl : s.zs.length = xs.length
  tk : s.zs.take (delI (xs.take s.j) me).length = delI (xs.take s.j) me
  dr : s.zs.drop s.j = xs.drop s.j
theorem delI_le (xs : List IDV) (self : IDV) : (delI xs self).length ≤ xs.length := List.length_filter_le _ _
theorem take_snoc {xs : List IDV} {j : Nat} (h : j < xs.length) : xs.take (j + 1) = xs.take j ++ [xs[j]] := by
  exact take_add_one h
theorem DelInv.get {xs : List IDV} {self : IDV} {s : DS} (h : DelInv xs self s) (hj : s.j < xs.length) : s.zs[s.j]? = some xs[s.j] := by
  have e : (s.zs.drop s.j)[0]? = (xs.drop s.j)[0]? := by rw [h.dr]
  rw [List.getElem?_drop, List.getElem?_drop, Nat.add_zero, List.getElem?_eq_getElem hj] at e
  exact e
theorem DelInv.skip {xs : List IDV} {self : IDV} {s : DS} (h : DelInv xs self s) (hj : s.j < xs.length) (he : xs[s.j] = self) : DelInv xs self ⟨s.j + 1, s.zs⟩ ∧ delI (xs.take (s.j + 1)) self = delI (xs.take s.j) self := by
  have e : delI (xs.take (s.j + 1)) self = delI (xs.take s.j) self := by
    rw [take_snoc hj, delI, List.filter_append]
    simp [he, delI]
  refine ⟨⟨hj, h.hl, by simp only; rw [e]; exact h.tk, ?_⟩, e⟩
  simp only
  rw [← List.drop_drop, ← List.drop_drop, h.dr]
theorem DelInv.put {xs : List IDV} {self : IDV} {s : DS} (h : DelInv xs self s) (hj : s.j < xs.length) (he : xs[s.j] ≠ self) : DelInv xs self ⟨s.j + 1, s.zs.set (delI (xs.take s.j) self).length xs[s.j]⟩ ∧ (delI (xs.take (s.j + 1)) self).length = (delI (xs.take s.j) self).length + 1 := by
  have e : delI (xs.take (s.j + 1)) self = delI (xs.take s.j) self ++ [xs[s.j]] := by
    rw [take_snoc hj, delI, List.filter_append]
    simp [he, delI]
  have hle : (delI (xs.take s.j) self).length ≤ s.j := by
    have := delI_le (xs.take s.j) self
    rw [List.length_take] at this
    omega
  refine ⟨⟨hj, by simp [h.hl], ?_, ?_⟩, by rw [e]; simp⟩
  · simp only
    rw [e, List.length_append, List.length_singleton]
    have hlt : (delI (xs.take s.j) self).length < (s.zs.set (delI (xs.take s.j) self).length xs[s.j]).length := by rw [List.length_set, h.hl]; omega
    rw [take_snoc hlt, List.getElem_set_self, List.take_set_of_le (Nat.le_refl _), h.tk]
  · simp only
    rw [List.drop_set_of_lt (by omega), ← List.drop_drop, ← List.drop_drop, h.dr]

theorem sorted1_spec (s : Nat) (self x : IDV) (w : World) (hw0 : Own w [(s, cb (cI self) 23)]) :
    Calls Try.prog 63 [.agg (cI x).toArray, .pointer (some ⟨s, 0, none⟩)].toArray w fun r w' => r = .returned (.bool (decide (x = self))) ∧ Bel w w' := by
  refine calls_of_J (args := [.agg (cI x).toArray, .pointer (some ⟨s, 0, none⟩)]) (e := [(0, .agg (cI x).toArray), (1, .pointer (some ⟨s, 0, none⟩))]) Try.func63 rfl rfl ⟨rfl, rfl, trivial⟩ (hw0.st) ?_
  refine JC.seq (fun K0 hK0 => ?_)
  refine JC.region ?_
  refine J.box rfl rfl rfl (fun b2 => ?_)
  refine J.assign rfl rfl ?_
  refine J.nil ?_
  refine JX.thenN (hK0 _ _ ?_)
  refine JC.seq (fun K1 hK1 => ?_)
  refine JC.region ?_
  refine J.loadOA (vs := cI x) Ty.a23 Ty.s23 rfl (by repeat first | exact .head _ | apply List.Mem.tail | apply List.mem_append_right) (by exact rfl) rfl rfl ?_
  refine J.loadOA (vs := cI self) Ty.a23 Ty.s23 rfl (by repeat first | exact .head _ | apply List.Mem.tail | apply List.mem_append_right) (by exact rfl) rfl rfl ?_
  refine J.eqI Ty.QI Ty.keyI rfl rfl rfl ?_
  refine J.assign rfl rfl ?_
  refine J.nil ?_
  refine JX.thenN (hK1 _ _ ?_)
  refine JC.ret ?_
  refine JX.ret1 rfl rfl (fun w hw => ?_)
  exact ⟨rfl, hw.same hw0 (fun p hp => by simp at hp ⊢; subst hp; simp)⟩

theorem indexFunc_spec (v : Value) (xs : List IDV) (s : Nat) (self : IDV) (w : World) (hw0 : Own w [(s, cb (cI self) 23)]) (hr : Row w v xs.length (fI xs)) (hoff : Off [s] v (fI xs)) (hl : xs.length < 4611686018427387904) :
    Calls Try.prog 77 [v, .func (.func 63) #[] #[.pointer (some ⟨s, 0, none⟩)]].toArray w fun r w' => r = .returned (.int .i64 (placeI xs self)) ∧ Bel w w' := by
  obtain ⟨a, c, rfl, hc, _⟩ := id hr
  refine calls_of_J (args := [.slice a xs.length c, .func (.func 63) #[] #[.pointer (some ⟨s, 0, none⟩)]]) (e := [(0, .slice a xs.length c), (1, .func (.func 63) #[] #[.pointer (some ⟨s, 0, none⟩)])]) Try.func77 rfl rfl ⟨rfl, rfl, trivial⟩ (hw0.st) ?_
  refine JC.seq (fun K0 hK0 => ?_)
  refine JC.region ?_
  refine J.assign rfl rfl ?_
  refine J.nil ?_
  refine JX.thenN (hK0 _ _ ?_)
  refine JC.seq (fun K1 hK1 => ?_)
  refine JC.seq (fun K2 hK2 => ?_)
  refine JC.region ?_
  refine J.move rfl rfl ?_
  refine J.lenS rfl Ty.u24 rfl rfl ?_
  refine J.move rfl rfl ?_
  refine J.nil ?_
  refine JX.thenN (hK2 _ _ ?_)
  refine JC.block ?_
  refine JC.conseq (JC.cov (f := (fun i => [(0, .slice a xs.length c), (1, .func (.func 63) #[] #[.pointer (some ⟨s, 0, none⟩)]), (6, .slice a xs.length c), (7, .int .i64 ((xs.length : Nat) : Int)), (8, .int .i64 ((i : Nat) : Int))]) 0) ⟨rfl, rfl, rfl, rfl, rfl, trivial⟩ (JC.loop (α := Nat) (fun i => [(0, .slice a xs.length c), (1, .func (.func 63) #[] #[.pointer (some ⟨s, 0, none⟩)]), (6, .slice a xs.length c), (7, .int .i64 ((xs.length : Nat) : Int)), (8, .int .i64 ((i : Nat) : Int))]) (fun i w' => (i ≤ xs.length ∧ ∀ j, j < i → xs[j]? ≠ some self) ∧ St w [s] [(s, cb (cI self) 23)] w') (fun i => xs.length - i) 0 (fun i => ?_))) (fun w hw => ⟨⟨Nat.zero_le _, by omega⟩, hw⟩)
  refine JC.pr (fun hx => ?_)
  obtain ⟨hi, hpre⟩ := hx
  refine JC.seq (fun K3 hK3 => ?_)
  refine JC.region ?_
  refine J.bin rfl rfl rfl rfl ?_
  refine J.nil ?_
  refine JX.thenN (hK3 _ _ ?_)
  refine JC.seq (fun K4 hK4 => ?_)
  refine JC.cond rfl (fun h0 => ?_) (fun h0 => ?_)
  · skip
    have hlt : i < xs.length := by simp at h0; omega
    have hfl := fI_length xs
    have hcl := (Row.some hr (by omega))
    obtain ⟨b, o, c', hqe, _, _⟩ := hcl
    simp only [Value.slice.injEq] at hqe
    obtain ⟨rfl, _, rfl⟩ := hqe
    refine JC.skip ?_
    refine JX.thenN (hK4 _ _ ?_)
    refine JC.seq (fun K5 hK5 => ?_)
    refine JC.block ?_
    refine JC.seq (fun K6 hK6 => ?_)
    refine JC.region ?_
    refine J.move rfl rfl ?_
    refine J.assign rfl rfl ?_
    refine J.nil ?_
    refine JX.thenN (hK6 _ _ ?_)
    refine JC.seq (fun K7 hK7 => ?_)
    refine JC.region ?_
    refine J.move rfl rfl ?_
    refine J.move rfl rfl ?_
    refine J.move rfl rfl ?_
    refine J.indexAddrS Ty.el24 Ty.s23 rfl rfl (by omega) (by omega) rfl ?_
    refine J.loadA (vs := cI xs[i]) Ty.a23 Ty.s23 rfl rfl (fun w1 hw => rowF_at (hr.st hoff hw) (List.getElem?_eq_getElem hlt) (by omega)) rfl ?_
    refine J.callVB (v := .bool (decide (xs[i] = self))) (fun w1 w2 hw hb => hw.step hb) Ty.bd63 rfl rfl rfl (fun w1 hw => by simpa using sorted1_spec s self xs[i] w1 hw.owns') ?_
    refine J.nil ?_
    refine JX.thenN (hK7 _ _ ?_)
    refine JC.cond rfl (fun h1 => ?_) (fun h1 => ?_)
    · skip
      have he : xs[i] = self := by simp at h1; exact h1
      refine JC.seq (fun K8 hK8 => ?_)
      refine JC.region ?_
      refine J.move rfl rfl ?_
      refine J.assign rfl rfl ?_
      refine J.nil ?_
      refine JX.thenN (hK8 _ _ ?_)
      refine JC.ret ?_
      refine JX.blockR ?_
      refine JX.thenR ?_
      refine JX.thenR ?_
      refine JX.blockR ?_
      refine JX.thenR ?_
      refine JX.ret1 rfl rfl (fun w hw => ?_)
      first | exact ⟨by rw [placeI_at hlt hpre he], hw.same hw0 (fun p hp => hp)⟩ | exact ⟨by rw [placeI_no (by rw [← hge]; exact hpre)], hw.same hw0 (fun p hp => hp)⟩
    · skip
      have hne : ¬ xs[i] = self := fun e => by simp [e] at h1
      refine JC.skip ?_
      refine JX.blockN ?_
      refine JX.thenN (hK5 _ _ ?_)
      refine JC.region ?_
      (first | refine J.addN rfl rfl (by omega) (by omega) rfl ?_ | refine J.bin rfl rfl rfl rfl ?_)
      refine J.move rfl rfl ?_
      refine J.nil ?_
      refine JX.thenN ?_
      refine JX.again (i + 1) ?_ ?_ ?_
      · omega
      · exact ⟨rfl, rfl, rfl, rfl, rfl, trivial⟩
      · exact fun w1 hw => ⟨⟨hlt, fun j hj => by
        rcases Nat.lt_or_ge j i with h | h
        · exact hpre j h
        · have : j = i := by omega
          subst this
          rw [List.getElem?_eq_getElem hlt]; simp; exact hne⟩, hw⟩
  · skip
    have hge : i = xs.length := by simp at h0; omega
    refine JC.exit ?_
    refine JX.thenE ?_
    refine JX.thenE ?_
    refine JX.blockE ?_
    refine JX.thenN (hK1 _ _ ?_)
    refine JC.seq (fun K9 hK9 => ?_)
    refine JC.region ?_
    refine J.assign rfl rfl ?_
    refine J.nil ?_
    refine JX.thenN (hK9 _ _ ?_)
    refine JC.ret ?_
    refine JX.ret1 rfl rfl (fun w hw => ?_)
    first | exact ⟨by rw [placeI_at hlt hpre he], hw.same hw0 (fun p hp => hp)⟩ | exact ⟨by rw [placeI_no (by rw [← hge]; exact hpre)], hw.same hw0 (fun p hp => hp)⟩

theorem clone_nil (k c : Nat) (w : World) :
    Calls Try.prog 48 [.slice none k c].toArray w fun r w' => r = .returned (.slice none 0 0) ∧ Bel w w' := by
  refine calls_of_J (args := [.slice none k c]) (e := [(0, .slice none k c)]) Try.func48 rfl rfl ⟨rfl, trivial⟩ (St.start w) ?_
  refine JC.seq (fun K0 hK0 => ?_)
  refine JC.region ?_
  refine J.assign rfl rfl ?_
  refine J.nil ?_
  refine JX.thenN (hK0 _ _ ?_)
  refine JC.seq (fun K1 hK1 => ?_)
  refine JC.seq (fun K2 hK2 => ?_)
  refine JC.region ?_
  refine J.move rfl rfl ?_
  refine J.eqNilSl Ty.u24 rfl rfl rfl ?_
  refine J.nil ?_
  refine JX.thenN (hK2 _ _ ?_)
  first | refine JC.condT rfl ?_ | refine JC.cond rfl (fun _ => ?_) (fun h => by first | (exfalso; simp at h; omega) | (simp at h))
  refine JC.seq (fun K3 hK3 => ?_)
  refine JC.region ?_
  refine J.assign rfl rfl ?_
  refine J.nil ?_
  refine JX.thenN (hK3 _ _ ?_)
  refine JC.ret ?_
  refine JX.thenR ?_
  refine JX.ret1 rfl rfl (fun w hw => ?_)
  exact ⟨rfl, hw.below⟩

theorem fI_one {xs : List IDV} {y : Value} (h : y ∈ fI xs) : y.oneCell' = true := by
  simp only [fI, List.mem_flatMap] at h
  obtain ⟨x, _, hy⟩ := h
  simp [cI] at hy
  rcases hy with rfl | rfl | rfl | rfl | rfl | rfl | rfl | rfl | rfl | rfl | rfl | rfl | rfl | rfl | rfl | rfl <;> rfl
theorem clone_some (a : Addr) (c : Nat) (xs : List IDV) (w : World) (hr : Row w (.slice (some a) xs.length c) xs.length (fI xs)) (hl : xs.length ≤ 8796093022208) :
    Calls Try.prog 48 [.slice (some a) xs.length c].toArray w fun r w' => ∃ x : Value × List (Nat × Obj), r = .returned x.1 ∧ (True ∧ Vec 23 16 x.1 xs.length (fI xs) x.2) ∧ St w [] x.2 w' := by
  refine calls_of_J (args := [.slice (some a) xs.length c]) (e := [(0, .slice (some a) xs.length c)]) Try.func48 rfl rfl ⟨rfl, trivial⟩ (St.start w) ?_
  refine JC.seq (fun K0 hK0 => ?_)
  refine JC.region ?_
  refine J.assign rfl rfl ?_
  refine J.nil ?_
  refine JX.thenN (hK0 _ _ ?_)
  refine JC.seq (fun K1 hK1 => ?_)
  refine JC.seq (fun K2 hK2 => ?_)
  refine JC.region ?_
  refine J.move rfl rfl ?_
  refine J.eqNilSl Ty.u24 rfl rfl rfl ?_
  refine J.nil ?_
  refine JX.thenN (hK2 _ _ ?_)
  first | refine JC.condF rfl ?_ | refine JC.cond rfl (fun h => by first | (exfalso; simp at h; omega) | (simp at h)) (fun _ => ?_)
  refine JC.skip ?_
  refine JX.thenN (hK1 _ _ ?_)
  refine JC.seq (fun K3 hK3 => ?_)
  refine JC.region ?_
  refine J.buildSl (cs := []) Ty.el24 Ty.s23 Ty.zID rfl rfl rfl rfl rfl rfl rfl (fun b5 => ?_)
  refine J.move rfl rfl ?_
  refine J.append (lp := [(b5, cb [] 23)]) (xs := []) (ys := fI xs) (k := 0) (m := xs.length) Ty.el24 Ty.s23 Ty.b23 Ty.zID rfl (.inl ⟨23, Ty.u24⟩) rfl rfl ⟨rfl, .inr ⟨b5, 0, [], rfl, rfl, rfl, Nat.le_refl _⟩⟩ (fun w1 hw => .inl (hr.below (hw.drop (List.nil_sublist _)).below)) (fI_length xs) (fun y hy => fI_one hy) (by omega) (by omega) rfl (fun v7 lp7 hv7 => ?_)
  rw [Nat.zero_add, List.nil_append] at hv7
  refine J.assign rfl rfl ?_
  refine J.nil ?_
  refine JX.thenN (hK3 _ _ ?_)
  refine JC.ret ?_
  refine JX.ret1 rfl rfl (fun w hw => ?_)
  exact ⟨(v7, lp7), rfl, ⟨trivial, hv7⟩, hw.perm (by simp)⟩

end Go.Proofs.Ytbafhclandendaa
/-
  slices.DeleteFunc at identities: contract.
-/
namespace Go.Proofs.Ytbafhclandendaa
open Go.J Go.RowKit
set_option linter.unusedVariables false
set_option linter.unusedSimpArgs false
set_option maxRecDepth 4000
theorem placeI_spec : ∀ {xs : List IDV} {n : IDV}, 0 ≤ placeI xs n → ∃ i : Nat, placeI xs n = (i : Int) ∧ xs[i]? = some n ∧ ∀ j, j < i → xs[j]? ≠ some n
  | [], _, h => by simp [placeI] at h
  | x :: xs, n, h => by
    simp only [placeI] at h ⊢
    by_cases h0 : x = n
    · exact ⟨0, by simp [h0], by simp [h0], fun j hj => by omega⟩
    · rw [if_neg h0] at h ⊢
      by_cases h2 : placeI xs n < 0
      · rw [if_pos h2] at h; omega
      · rw [if_neg h2]
        obtain ⟨i, h3, h4, h5⟩ := placeI_spec (xs := xs) (n := n) (by omega)
        refine ⟨i + 1, by omega, by simpa using h4, fun j hj => ?_⟩
        cases j with
        | zero => simpa using h0
        | succ j => simpa using h5 j (by omega)
theorem DelInv.start {xs : List IDV} {self : IDV} {i : Nat} (hi : xs[i]? = some self) (hb : ∀ j, j < i → xs[j]? ≠ some self) : DelInv xs self ⟨i + 1, xs⟩ ∧ (delI (xs.take (i + 1)) self).length = i := by
  have hlt := (List.getElem?_eq_some_iff.1 hi).1
  have e1 : delI (xs.take i) self = xs.take i := delI_none (fun j hj => by
    have hj' : j < i := by rw [List.length_take] at hj; omega
    rw [List.getElem?_take_of_lt hj']
    exact hb j hj')
  have e2 : delI (xs.take (i + 1)) self = xs.take i := by
    rw [take_add_one hlt, delI, List.filter_append]
    have : xs[i] = self := by rw [List.getElem?_eq_getElem hlt] at hi; exact Option.some.inj hi
    rw [this]
    have := e1
    rw [delI] at this
    rw [this]
    simp
  have hl : (xs.take i).length = i := by rw [List.length_take]; omega
  refine ⟨⟨hlt, rfl, ?_, rfl⟩, by rw [e2, hl]⟩
  simp only
  rw [e2, hl]
structure DG where
  i : Nat
  j : Nat
  zs : List IDV

theorem deleteFunc_spec (q s cap : Nat) (xs : List IDV) (sp : List Value) (self : IDV) (w : World) (hw0 : Own w [(q, cb (fI xs ++ sp) 23), (s, cb (cI self) 23)]) (hcap : xs.length ≤ cap) (hsz : (fI xs ++ sp).length = cap * 16) (hl : xs.length < 4611686018427387904) :
    Calls Try.prog 62 [.slice (some ⟨q, 0, none⟩) xs.length cap, .func (.func 63) #[] #[.pointer (some ⟨s, 0, none⟩)]].toArray w fun r w' => ∃ sp' : List Value, r = .returned (.slice (some ⟨q, 0, none⟩) (delI xs self).length cap) ∧ (fI (delI xs self) ++ sp').length = cap * 16 ∧ St w [q, s] [(q, cb (fI (delI xs self) ++ sp') 23), (s, cb (cI self) 23)] w' := by
  refine calls_of_J (args := [.slice (some ⟨q, 0, none⟩) xs.length cap, .func (.func 63) #[] #[.pointer (some ⟨s, 0, none⟩)]]) (e := [(0, .slice (some ⟨q, 0, none⟩) xs.length cap), (1, .func (.func 63) #[] #[.pointer (some ⟨s, 0, none⟩)])]) Try.func62 rfl rfl ⟨rfl, rfl, trivial⟩ (hw0.st) ?_
  refine JC.seq (fun K0 hK0 => ?_)
  refine JC.region ?_
  refine J.assign rfl rfl ?_
  refine J.nil ?_
  refine JX.thenN (hK0 _ _ ?_)
  refine JC.seq (fun K1 hK1 => ?_)
  refine JC.region ?_
  refine J.move rfl rfl ?_
  refine J.move rfl rfl ?_
  refine J.callB (v := .int .i64 (placeI xs self)) (fun w1 w2 hw hb => hw.step hb) Ty.bd77 rfl rfl (fun w1 hw => indexFunc_spec (.slice (some ⟨q, 0, none⟩) xs.length cap) xs s self w1 (St.owns (l1 := [(s, cb (cI self) 23)]) (l := [(q, cb (fI xs ++ sp) 23)]) (hw.perm (by (refine perm_cnt (fun _ => ?_)); simp only [cntB_append, cntB_cons, cntB_nil, Nat.add_zero, Nat.zero_add]; try ac_rfl))) (Row.own hw (.head _) (by simp) hcap) (Off.mk (St.off (l1 := [(s, cb (cI self) 23)]) (l := [(q, cb (fI xs ++ sp) 23)]) (hw.perm (by (refine perm_cnt (fun _ => ?_)); simp only [cntB_append, cntB_cons, cntB_nil, Nat.add_zero, Nat.zero_add]; try ac_rfl)) (.head _))) hl) ?_
  refine J.assign rfl rfl ?_
  refine J.nil ?_
  refine JX.thenN (hK1 _ _ ?_)
  refine JC.seq (fun K2 hK2 => ?_)
  refine JC.seq (fun K3 hK3 => ?_)
  refine JC.region ?_
  refine J.move rfl rfl ?_
  refine J.bin rfl rfl rfl rfl ?_
  refine J.nil ?_
  refine JX.thenN (hK3 _ _ ?_)
  refine JC.cond rfl (fun h0 => ?_) (fun h0 => ?_)
  · skip
    have hno : placeI xs self = -1 := by simp at h0; exact h0
    have hxs : delI xs self = xs := List.filter_eq_self.2 fun x hx => by
      have : x ≠ self := fun e => by
        have := placeI_mem.2 (e ▸ hx)
        omega
      simpa using this
    refine JC.seq (fun K4 hK4 => ?_)
    refine JC.region ?_
    refine J.move rfl rfl ?_
    refine J.assign rfl rfl ?_
    refine J.nil ?_
    refine JX.thenN (hK4 _ _ ?_)
    refine JC.ret ?_
    refine JX.thenR ?_
    refine JX.ret1 rfl rfl (fun w hw => ?_)
    first | exact ⟨sp, by rw [hxs], by rw [hxs]; exact hsz, by rw [hxs]; exact hw⟩ | exact ⟨sp2, rfl, by rw [hc2, List.length_append, hfz, hzl, ← fI_length xs, ← List.length_append]; exact hsz, hw⟩
  · skip
    have hge := placeI_ge xs self
    have hne1 : placeI xs self ≠ -1 := by simp at h0; exact h0
    obtain ⟨i0, hi0, hi1, hi2⟩ := placeI_spec (xs := xs) (n := self) (by omega)
    have hi3 := (List.getElem?_eq_some_iff.1 hi1).1
    have hst := DelInv.start hi1 hi2
    refine JC.skip ?_
    refine JX.thenN (hK2 _ _ ?_)
    refine JC.seq (fun K5 hK5 => ?_)
    refine JC.seq (fun K6 hK6 => ?_)
    refine JC.region ?_
    refine J.name 5 rfl (congrArg (Value.int .i64) hi0) ?_
    refine J.move rfl rfl ?_
    (first | refine J.addN rfl rfl (by omega) (by omega) rfl ?_ | refine J.bin rfl rfl rfl rfl ?_)
    refine J.assign rfl rfl ?_
    refine J.nil ?_
    refine JX.thenN (hK6 _ _ ?_)
    refine JC.block ?_
    refine JC.conseq (JC.cov (f := (fun st => [(0, .slice (some ⟨q, 0, none⟩) xs.length cap), (1, .func (.func 63) #[] #[.pointer (some ⟨s, 0, none⟩)]), (5, .int .i64 ((st.i : Nat) : Int)), (6, .int .i64 ((st.j : Nat) : Int))]) (⟨i0, i0 + 1, xs⟩ : DG)) ⟨rfl, rfl, rfl, rfl, trivial⟩ (JC.loop (α := DG) (fun st => [(0, .slice (some ⟨q, 0, none⟩) xs.length cap), (1, .func (.func 63) #[] #[.pointer (some ⟨s, 0, none⟩)]), (5, .int .i64 ((st.i : Nat) : Int)), (6, .int .i64 ((st.j : Nat) : Int))]) (fun st w' => (DelInv xs self ⟨st.j, st.zs⟩ ∧ st.i = (delI (xs.take st.j) self).length) ∧ St w [q, s] [(q, cb (fI st.zs ++ sp) 23), (s, cb (cI self) 23)] w') (fun st => xs.length - st.j) (⟨i0, i0 + 1, xs⟩ : DG) (fun st => ?_))) (fun w hw => ⟨⟨hst.1, hst.2.symm⟩, hw⟩)
    obtain ⟨i, j, zs⟩ := st
    refine JC.pr (fun hx => ?_)
    obtain ⟨hI, hiv⟩ := hx
    have hjl := hI.hj
    have hzl := hI.hl
    simp only at hiv hjl hzl ⊢
    refine JC.seq (fun K7 hK7 => ?_)
    refine JC.seq (fun K8 hK8 => ?_)
    refine JC.region ?_
    refine J.move rfl rfl ?_
    refine J.move rfl rfl ?_
    refine J.lenS rfl Ty.u24 rfl rfl ?_
    refine J.bin rfl rfl rfl rfl ?_
    refine J.nil ?_
    refine JX.thenN (hK8 _ _ ?_)
    refine JC.cond rfl (fun h1 => ?_) (fun h1 => ?_)
    · skip
      have hlt : j < xs.length := by simp at h1; omega
      have hget : zs[j]? = some xs[j] := hI.get hlt
      have hile : i ≤ j := by
        have := delI_le (xs.take j) self
        rw [List.length_take] at this
        omega
      refine JC.skip ?_
      refine JX.thenN (hK7 _ _ ?_)
      refine JC.seq (fun K9 hK9 => ?_)
      refine JC.block ?_
      refine JC.seq (fun K10 hK10 => ?_)
      refine JC.region ?_
      refine J.move rfl rfl ?_
      refine J.move rfl rfl ?_
      refine J.indexAddrS Ty.el24 Ty.s23 rfl rfl (by omega) (by omega) rfl ?_
      refine J.loadA (vs := cI xs[j]) Ty.a23 Ty.s23 rfl rfl (fun w1 hw => rowF_at (xs := zs) (k := xs.length) (c := cap) (Row.own (o := 0) (cs := fI zs ++ sp) hw (.head _) (by rw [List.drop_zero, List.take_left]) hcap) hget (by omega)) rfl ?_
      refine J.alloc Ty.zID rfl rfl (fun b7 => ?_)
      refine J.storeW Ty.s23 rfl rfl rfl rfl rfl (by simp [Value.oneCell']) (by repeat first | exact .here | apply Up.there) ?_
      refine J.nil ?_
      refine JX.thenN (hK10 _ _ ?_)
      refine JC.seq (fun K11 hK11 => ?_)
      refine JC.region ?_
      refine J.move rfl rfl ?_
      refine J.loadOA (vs := cI xs[j]) Ty.a23 Ty.s23 rfl (by repeat first | exact .head _ | apply List.Mem.tail | apply List.mem_append_right) (by exact rfl) rfl rfl ?_
      refine J.callVB (v := .bool (decide (xs[j] = self))) (fun w1 w2 hw hb => hw.step hb) Ty.bd63 rfl rfl rfl (fun w1 hw => by simpa using sorted1_spec s self xs[j] w1 (St.owns (l1 := [(s, cb (cI self) 23)]) (l := [(b7, cb (cI xs[j]) 23), (q, cb (fI zs ++ sp) 23)]) (hw.perm (by (refine perm_cnt (fun _ => ?_)); simp only [cntB_append, cntB_cons, cntB_nil, Nat.add_zero, Nat.zero_add]; try ac_rfl)))) ?_
      refine J.not rfl rfl ?_
      refine J.nil ?_
      refine JX.thenN (hK11 _ _ ?_)
      refine JC.cond rfl (fun h2 => ?_) (fun h2 => ?_)
      · skip
        have hxn : xs[j] ≠ self := by simp at h2; exact h2
        have hput := hI.put hlt hxn
        simp only at hput
        refine JC.seq (fun K12 hK12 => ?_)
        refine JC.region ?_
        refine J.move rfl rfl ?_
        refine J.move rfl rfl ?_
        refine J.loadOA (vs := cI xs[j]) Ty.a23 Ty.s23 rfl (by repeat first | exact .head _ | apply List.Mem.tail | apply List.mem_append_right) (by exact rfl) rfl rfl ?_
        refine J.indexAddrS Ty.el24 Ty.s23 rfl rfl (by omega) (by omega) rfl ?_
        refine J.storeO (cs := fI zs ++ sp) (vs := cI xs[j]) Ty.s23 rfl rfl rfl rfl (by simp [Value.oneCell']) (.there .here) (by have := fI_length zs; simp only [List.length_append]; omega) ?_
        refine J.conseq (I' := St w [q, s] [(b7, cb (cI xs[j]) 23), (q, cb (fI (zs.set i xs[j]) ++ sp) 23), (s, cb (cI self) 23)]) ?_ (fun w1 hw => by rw [← fI_set (show i < zs.length by omega)]; exact hw)
        refine J.nil ?_
        refine JX.thenN (hK12 _ _ ?_)
        refine JC.region ?_
        refine J.move rfl rfl ?_
        (first | refine J.addN rfl rfl (by omega) (by omega) rfl ?_ | refine J.bin rfl rfl rfl rfl ?_)
        refine J.assign rfl rfl ?_
        refine J.nil ?_
        refine JX.blockN ?_
        refine JX.thenN (hK9 _ _ ?_)
        refine JC.region ?_
        refine J.move rfl rfl ?_
        (first | refine J.addN rfl rfl (by omega) (by omega) rfl ?_ | refine J.bin rfl rfl rfl rfl ?_)
        refine J.assign rfl rfl ?_
        refine J.nil ?_
        refine JX.thenN ?_
        refine JX.again (⟨i + 1, j + 1, zs.set i xs[j]⟩ : DG) ?_ ?_ ?_
        · simp only; omega
        · exact ⟨rfl, rfl, rfl, rfl, trivial⟩
        · exact fun w1 hw => ⟨⟨by rw [hiv]; exact hput.1, by rw [hput.2, ← hiv]⟩, hw.drop (List.sublist_cons_self _ _)⟩
      · skip
        have hxe : xs[j] = self := by simp at h2; exact h2
        have hskip := hI.skip hlt hxe
        simp only at hskip
        refine JC.skip ?_
        refine JX.blockN ?_
        refine JX.thenN (hK9 _ _ ?_)
        refine JC.region ?_
        refine J.move rfl rfl ?_
        (first | refine J.addN rfl rfl (by omega) (by omega) rfl ?_ | refine J.bin rfl rfl rfl rfl ?_)
        refine J.assign rfl rfl ?_
        refine J.nil ?_
        refine JX.thenN ?_
        refine JX.again (⟨i, j + 1, zs⟩ : DG) ?_ ?_ ?_
        · simp only; omega
        · exact ⟨rfl, rfl, rfl, rfl, trivial⟩
        · exact fun w1 hw => ⟨⟨hskip.1, by rw [hskip.2]; exact hiv⟩, hw.drop (List.sublist_cons_self _ _)⟩
    · skip
      have hge : j = xs.length := by simp at h1; omega
      subst hge
      have hfin : i = (delI xs self).length := by rw [hiv, List.take_of_length_le (Nat.le_refl _)]
      have hile : i ≤ xs.length := by have := delI_le xs self; omega
      have htk := hI.tk
      simp only at htk
      rw [List.take_of_length_le (Nat.le_refl _), ← hfin] at htk
      refine JC.exit ?_
      refine JX.thenE ?_
      refine JX.thenE ?_
      refine JX.blockE ?_
      refine JX.thenN (hK5 _ _ ?_)
      refine JC.seq (fun K13 hK13 => ?_)
      refine JC.region ?_
      refine J.move rfl rfl ?_
      refine J.move rfl rfl ?_
      obtain ⟨oo, hoo, hoz⟩ : ∃ oo, (if cap = i then some (⟨q, 0, none⟩ : Addr) else (some (⟨q, 0, none⟩ : Addr)).map (·.add (i * 16))) = some ⟨q, oo, none⟩ ∧ (xs.length - i = 0 ∨ oo = i * 16) := by
        by_cases hci : cap = i
        · exact ⟨0, by rw [if_pos hci], .inl (by omega)⟩
        · exact ⟨i * 16, by rw [if_neg hci]; simp [Addr.add]; omega, .inr rfl⟩
      refine J.sliceS Ty.el24 Ty.s23 rfl rfl rfl rfl rfl (by omega) (by omega) (by omega) rfl ?_
      refine J.name 38 rfl (show _ = Value.slice (some ⟨q, oo, none⟩) (xs.length - i) (cap - i) by rw [← hoo]; rfl) ?_
      have hfz := fI_length zs
      obtain ⟨sp2, hc1, hc2⟩ := clear_end (sp := sp) (Z := (Builtin.zeroCells (cI zI).toArray (xs.length - i)).toList) hzl htk hile (by rw [zeroCells_length]; rfl) hoz
      refine J.clear (cs := fI zs ++ sp) (sz := 16) rfl Ty.el24 Ty.zID rfl (by decide) (fun u hu => fI_one (xs := [zI]) (List.mem_append_left [] hu)) rfl .here (by simp only [List.length_append]; rcases hoz with h | h <;> omega) ?_
      refine J.conseq (I' := St w [q, s] [(q, cb (fI (delI xs self) ++ sp2) 23), (s, cb (cI self) 23)]) ?_ (fun w1 hw => by rw [← hc1]; exact hw)
      refine J.nil ?_
      refine JX.thenN (hK13 _ _ ?_)
      refine JC.seq (fun K14 hK14 => ?_)
      refine JC.region ?_
      refine J.move rfl rfl ?_
      refine J.move rfl rfl ?_
      refine J.sliceS Ty.el24 Ty.s23 rfl rfl rfl rfl rfl (by omega) (by omega) (by omega) rfl ?_
      refine J.name 41 rfl (show _ = Value.slice (some ⟨q, 0, none⟩) (delI xs self).length cap by rw [← hfin]; split <;> simp [Addr.add]) ?_
      refine J.assign rfl rfl ?_
      refine J.nil ?_
      refine JX.thenN (hK14 _ _ ?_)
      refine JC.ret ?_
      refine JX.ret1 rfl rfl (fun w hw => ?_)
      first | exact ⟨sp, by rw [hxs], by rw [hxs]; exact hsz, by rw [hxs]; exact hw⟩ | exact ⟨sp2, rfl, by rw [hc2, List.length_append, hfz, hzl, ← fI_length xs, ← List.length_append]; exact hsz, hw⟩

end Go.Proofs.Ytbafhclandendaa
