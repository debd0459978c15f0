/-
  The calculus: regions whose operations come in any order, with an invariant on the operations that are done. Proved over any program.
-/
import Derived.Test.YtohldionclgljaaGreatMa
namespace Go.J
open Go.RowKit
set_option linter.unusedVariables false
set_option linter.unusedSimpArgs false
def eX (ds : List (Option Nat)) (c : Nat → Value) : List Nat → Env → Env
  | [], e => e
  | j :: js, e => match ds.getD j none with
    | some d => eX ds c js ((d, c j) :: e)
    | none => eX ds c js e
def QN (R : Value → World → Prop) : Exit → Act → World → Prop := fun x a w => x = .normal ∧ a.defers = [] ∧ ∃ v, R v w
def QD (d : Option Nat) (R : Value → World → Prop) : Exit → Act → World → Prop := match d with
  | some d => QB d R (fun _ => True)
  | none => QN R
theorem wpOp_of_listN {P : Program} {ops : Array Oper} {Q : Exit → Act → World → Prop} {i : Nat} {o : Oper} {T : Array Value} {w : World} {R : Value → World → Prop} {K : Act → World → Prop}
    (ho : ops[i]? = some o) (hd : o.dst = none) (h : wpList P ops (QN R) [o] (act T) w)
    (hk : ∀ v w', R v w' → K (act T) w') : wpOp P ops Q i K (act T) w := by
  have fin : ∀ a w', QN R .normal a w' → K (act T) w' := by
    rintro a w' ⟨_, _, v, hr⟩
    exact hk v w' hr
  unfold wpOp
  simp only [ho]
  simp only [wpList] at h
  split at h
  · rename_i hw
    rw [if_pos hw]
    rcases h with h | ⟨_, ⟨_, _, h, _⟩⟩
    · left
      unfold Oper.wp at h ⊢
      generalize (execOp (act T).eval o).run P w = r at h
      cases r with
      | ok nx w' =>
        cases nx <;> simp only [Oper.upon, hd] at h ⊢
        case value v => exact fin _ w' h
        case skip => exact fin _ w' h
        case defer dd => exact absurd h.2.1 (by simp [Act.put])
        case enter f args =>
          refine h.mono fun r w'' hr => ?_
          cases r with
          | returned v => exact fin _ w'' hr
          | panicked c => exact absurd hr.1 (by simp)
          | outgrown => obtain ⟨_, _, h, _⟩ := hr; cases h
        case row row args => exact Rows.mono h fun v w'' hr => fin _ w'' hr
      | halt x w' => cases x <;> simp only [Oper.upon] at h; exact absurd h.1 (by simp)
    · cases h
  · rename_i hw
    rw [if_neg hw]
    simp only [hd] at h ⊢
    exact fin _ w h
def nodupO : List (Option Nat) → Bool
  | [] => true
  | none :: xs => nodupO xs
  | some x :: xs => !(xs.any fun y => match y with | some y => Nat.beq x y | none => false) && nodupO xs
theorem nodupO_spec : ∀ {l : List (Option Nat)}, nodupO l = true → ∀ i j d, l.getD i none = some d → l.getD j none = some d → i = j := by
  intro l
  induction l with
  | nil => intro _ i j d hi; simp at hi
  | cons x xs ih =>
    intro h i j d hi hj
    have hx : ∀ k, x = some d → xs.getD k none ≠ some d := by
      intro k hxd e
      subst hxd
      simp only [nodupO, Bool.and_eq_true, Bool.not_eq_true', List.any_eq_false] at h
      have hm : some d ∈ xs := by
        rw [List.getD_eq_getElem?_getD] at e
        cases hk : xs[k]? with
        | none => rw [hk] at e; cases e
        | some y => rw [hk] at e; simp only [Option.getD_some] at e; subst e; exact List.mem_of_getElem? hk
      have := h.1 _ hm
      simp at this
    have hr : nodupO xs = true := by
      cases x with
      | none => exact h
      | some x => simp only [nodupO, Bool.and_eq_true] at h; exact h.2
    cases i with
    | zero =>
      cases j with
      | zero => rfl
      | succ j => simp only [List.getD_cons_zero, List.getD_cons_succ] at hi hj; exact absurd hj (hx j hi)
    | succ i =>
      cases j with
      | zero => simp only [List.getD_cons_zero, List.getD_cons_succ] at hi hj; exact absurd hi (hx i hj)
      | succ j => simp only [List.getD_cons_succ] at hi hj; rw [ih hr i j d hi hj]
def mset (m : Nat → Bool) (i : Nat) : Nat → Bool := fun j => cond (Nat.beq j i) true (m j)
theorem Rep.eX {ds : List (Option Nat)} {c : Nat → Value} {n : Nat} {T : Array Value} : ∀ {js : List Nat} {e : Env}, Rep n T e → (∀ j, j ∈ js → ∀ d, ds.getD j none = some d → T[d]? = some (c j)) → Rep n T (J.eX ds c js e)
  | [], _, h, _ => h
  | j :: js, e, h, hj => by
    unfold J.eX
    split
    · rename_i d hd
      refine Rep.eX (js := js) (e := (d, c j) :: e) ⟨h.1, fun t u hu => ?_⟩ (fun k hk => hj k (.tail _ hk))
      simp only [J.get] at hu
      cases hb : Nat.beq d t with
      | true =>
        rw [hb] at hu
        have : d = t := by simpa using hb
        subst this
        simp only [Option.some.injEq] at hu
        subst hu
        exact hj j (.head _) _ hd
      | false => rw [hb] at hu; exact h.2 t u hu
    · exact Rep.eX (js := js) (e := e) h (fun k hk => hj k (.tail _ hk))
theorem JC.anyX {α : Type} {P : Program} {Q : Exit → Act → World → Prop} {n id : Nat} {l : List Oper} {e : Env} {I : World → Prop} (N : Nat) (c : Nat → α → Value) (L : (Nat → Bool) → α → World → Prop) {ds : List (Option Nat)}
    (hm : P.follows .mixedOrders = true) (hds : (l.take N).map (·.dst) = ds) (hnd : nodupO ds = true) (hN : Nat.ble N l.length = true) (hB : headB l N = true)
    (hlt : (ds.all fun d => match d with | some d => Nat.blt d n | none => true) = true) (hkeys : (ds.all fun d => match d with | some d => (get e d).isNone | none => true) = true)
    (hinit : ∀ w, I w → ∃ x, L (fun j => Nat.ble N j) x { w with drawn := w.drawn + 1 })
    (hstep : ∀ (i : Nat) (o : Oper) (m : Nat → Bool) (x : α), i < N → l[i]? = some o → m i = false → (preds o).all m = true →
      J P l.toArray (QD (ds.getD i none) (fun v w => ∃ x', v = c i x' ∧ (∀ j, j < N → m j = true → c j x' = c j x) ∧ L (mset m i) x' w)) n [o] (eX ds (fun j => c j x) (preds o) e) (L m x))
    (htail : ∀ x, J P l.toArray Q n (l.drop N) (eX ds (fun j => c j x) (List.range N) e) (L (fun _ => true) x)) : JC P Q n (.region id l.toArray true) e I := by
  intro T w ht hw
  refine wp_region_any hm ?_
  have hN' : N ≤ l.length := Nat.le_of_ble_eq_true hN
  have htk : (l.take N).length = N := by simp; omega
  simp only [headB, Bool.and_eq_true, Bool.or_eq_true] at hB
  obtain ⟨⟨hback, hseq⟩, hsink⟩ := hB
  have hdst : ∀ i o, i < N → l[i]? = some o → o.dst = ds.getD i none := by
    intro i o hi ho
    rw [← hds, List.getD_eq_getElem?_getD, List.getElem?_map, List.getElem?_take_of_lt hi, ho]
    rfl
  have hd1 : ∀ i d, i < N → ds.getD i none = some d → d < n ∧ get e d = none := by
    intro i d hi hd
    have hmem : some d ∈ ds := by
      rw [List.getD_eq_getElem?_getD] at hd
      cases hk : ds[i]? with
      | none => rw [hk] at hd; cases hd
      | some y => rw [hk] at hd; simp only [Option.getD_some] at hd; subst hd; exact List.mem_of_getElem? hk
    have h1 := List.all_eq_true.1 hlt _ hmem
    have h2 := List.all_eq_true.1 hkeys _ hmem
    exact ⟨Nat.blt_eq.mp h1, by simpa using h2⟩
  have key : ∀ (m : Nat) (listed : Array Bool) (T : Array Value) (w : World), cnt listed N = m → HeadInv .any l.toArray N listed → Rep n T e → (∃ x, L (fun j => Nat.ble N j || listed.getD j true) x w ∧ ∀ i, i < N → listed.getD i true = true → ∀ d, ds.getD i none = some d → T[d]? = some (c i x)) →
      wpAny P .any l.toArray Q (m + (l.length - N)) listed (act T) w := by
    intro m
    induction m with
    | zero =>
      rintro listed T w hcnt inv ht ⟨x, hw, hfacts⟩
      have hall := cnt_zero N hcnt
      have hlisted : listed = (List.replicate N true ++ List.replicate (l.length - N) false).toArray := by
        have hs := inv.size
        simp only [List.size_toArray] at hs
        apply Array.ext
        · simp [hs]; omega
        · intro i hi1 hi2
          by_cases hiN : i < N
          · have := hall i hiN
            simp only [Array.getD_eq_getD_getElem?, Array.getElem?_eq_getElem hi1, Option.getD_some] at this
            rw [this]
            simp [List.getElem_append, hiN]
          · have := inv.tail i (by omega) (by simp; omega)
            simp only [Array.getD_eq_getD_getElem?, Array.getElem?_eq_getElem hi1, Option.getD_some] at this
            rw [this]
            simp [List.getElem_append, hiN]
      rw [Nat.zero_add]
      have hdl : (l.drop N).length = l.length - N := by simp
      have hmask : (fun j => Nat.ble N j || listed.getD j true) = fun _ => true := by
        funext j
        by_cases hj : j < N
        · rw [hall j hj]; simp
        · have : Nat.ble N j = true := Nat.ble_eq_true_of_le (by omega)
          rw [this]; rfl
      rw [hmask] at hw
      have hwl : wpList P l.toArray Q (l.drop N) (act T) w :=
        htail x T w (ht.eX (fun j hj => hfacts j (List.mem_range.1 hj) (hall j (List.mem_range.1 hj)))) hw
      have := wpAny_of_seq (P := P) (md := .any) (Q' := Q) (ops := l.toArray) (l.drop N) N listed (act T) w (fun j => by simp [List.getElem?_drop]) (by rw [hdl, hlisted]; exact hseq) hwl
      rwa [hdl] at this
    | succ m ih =>
      rintro listed T w hcnt inv ht ⟨x, hw, hfacts⟩
      rw [show m + 1 + (l.length - N) = (m + (l.length - N)) + 1 by omega]
      have hsz : listed.size = l.length := by simpa using inv.size
      obtain ⟨i0, hi0, hun0, hmin0⟩ : ∃ i, i < N ∧ listed.getD i true = false ∧ ∀ j, j < i → listed.getD j true = true := by
        rcases all_below listed N with h | h
        · exact h
        · exfalso
          have : cnt listed N = 0 := by
            have : ∀ M, M ≤ N → cnt listed M = 0 := by
              intro M
              induction M with
              | zero => intro _; rfl
              | succ M ihM => intro hM; simp only [cnt]; rw [h M (by omega), ihM (by omega)]; rfl
            exact this N (Nat.le_refl _)
          omega
      have hgd : ∀ j, j < l.length → listed.getD j true = true → listed.getD j false = true := by
        intro j hj h
        have hj' : j < listed.size := by omega
        simp only [Array.getD_eq_getD_getElem?, Array.getElem?_eq_getElem hj', Option.getD_some] at h ⊢
        exact h
      have hready0 : i0 ∈ Region.ready .any l.toArray listed := by
        refine mem_ready.2 ⟨hun0, l[i0]'(by omega), by simp, fun ed hed hbd => ?_⟩
        have hp : ed.on ∈ preds (l[i0]'(by omega)) := by
          simp only [preds, List.mem_map, List.mem_filter]
          exact ⟨ed, ⟨by simpa using hed, hbd⟩, rfl⟩
        have := backB_spec hback hi0 (List.getElem?_eq_getElem (by omega)) ed.on hp
        exact hgd _ (by omega) (hmin0 _ this)
      refine ⟨fun h0 => (by rw [h0] at hready0; cases hready0), fun i hi => ?_⟩
      have hiN : i < N := by
        rcases Nat.lt_or_ge i N with h | h
        · exact h
        · exfalso
          rcases hsink with h1 | ⟨⟨h1, h2⟩, h3⟩
          · have : N = l.length := Nat.eq_of_beq_eq_true h1
            obtain ⟨_, o, ho, _⟩ := mem_ready.1 hi
            have := (Array.getElem?_eq_some_iff.1 ho).1
            simp at this; omega
          · exact tail_waits h2 h3 (by simpa using Nat.blt_eq.mp h1) inv _ i0 rfl hi0 hun0 i h hi
      obtain ⟨hun, o, ho, hall⟩ := mem_ready.1 hi
      have ho' : l[i]? = some o := by simpa using ho
      have hpre : ∀ j, j ∈ preds o → j < N ∧ listed.getD j true = true := by
        intro j hj
        have hjlt := backB_spec hback hiN ho' j hj
        simp only [preds, List.mem_map, List.mem_filter] at hj
        obtain ⟨ed, ⟨hed, hbd⟩, rfl⟩ := hj
        have h1 := hall ed (by simpa using hed) hbd
        have hj' : ed.on < listed.size := by omega
        refine ⟨by omega, ?_⟩
        simp only [Array.getD_eq_getD_getElem?, Array.getElem?_eq_getElem hj', Option.getD_some] at h1 ⊢
        exact h1
      have hle : Nat.ble N i = false := by
        cases h : Nat.ble N i with
        | false => rfl
        | true => have := Nat.le_of_ble_eq_true h; omega
      have hwl := hstep i o (fun j => Nat.ble N j || listed.getD j true) x hiN ho' (by show (Nat.ble N i || listed.getD i true) = false; rw [hle, hun]; rfl)
        (List.all_eq_true.2 fun j hj => by rw [(hpre j hj).2]; simp) T w (ht.eX (fun j hj => hfacts j (hpre j hj).1 (hpre j hj).2)) hw
      have hisz : i < listed.size := by omega
      have hmask : mset (fun j => Nat.ble N j || listed.getD j true) i = fun j => Nat.ble N j || (listed.setIfInBounds i true).getD j true := by
        funext j
        by_cases hji : j = i
        · subst hji
          simp [mset, hisz]
        · have hb : Nat.beq j i = false := Bool.eq_false_iff.2 fun h => hji (Nat.eq_of_beq_eq_true h)
          simp only [mset, hb, cond_false]
          rw [getD_set_ne true (Ne.symm hji)]
      have hdi := hdst i o hiN ho'
      cases hdd : ds.getD i none with
      | some d =>
        rw [hdd] at hwl hdi
        refine wpOp_of_listB ho hdi hwl (fun v w' hv hφ _ => ?_) (by rw [ht.1]; exact (hd1 i d hiN hdd).1)
        obtain ⟨x', rfl, hsame, hL⟩ := hφ
        refine ih _ _ w' (by have := cnt_set hisz hun N hiN; omega) (inv.set hi hiN) (ht.other (hd1 i d hiN hdd).2 _) ⟨x', by rw [← hmask]; exact hL, fun j hj hlj d' hd' => ?_⟩
        by_cases hji : j = i
        · subst hji
          rw [hdd] at hd'
          cases hd'
          exact hv
        · rw [getD_set_ne true (Ne.symm hji)] at hlj
          have hu := hfacts j hj hlj d' hd'
          rw [hsame j hj (by rw [hlj]; simp)]
          rw [Array.getElem?_setIfInBounds, if_neg (fun he => hji (nodupO_spec hnd j i d' hd' (by rw [hdd, he])))]
          exact hu
      | none =>
        rw [hdd] at hwl hdi
        refine wpOp_of_listN ho hdi hwl (fun v w' hφ => ?_)
        obtain ⟨x', rfl, hsame, hL⟩ := hφ
        refine ih _ _ w' (by have := cnt_set hisz hun N hiN; omega) (inv.set hi hiN) ht ⟨x', by rw [← hmask]; exact hL, fun j hj hlj d' hd' => ?_⟩
        by_cases hji : j = i
        · subst hji
          rw [hdd] at hd'
          cases hd'
        · rw [getD_set_ne true (Ne.symm hji)] at hlj
          have hu := hfacts j hj hlj d' hd'
          rw [hsame j hj (by rw [hlj]; simp)]
          exact hu
  have hcnt0 : cnt (Array.replicate l.toArray.size false) N = N := by
    have : ∀ M, M ≤ N → cnt (Array.replicate l.toArray.size false) M = M := by
      intro M
      induction M with
      | zero => intro _; rfl
      | succ M ihM =>
        intro hM
        simp only [cnt]
        rw [getD_in (by simp; omega) (getD_replicate_false _ _), ihM (by omega)]
        simp; omega
    exact this N (Nat.le_refl _)
  obtain ⟨x0, hx0⟩ := hinit w hw
  have := key N (Array.replicate l.toArray.size false) T { w with drawn := w.drawn + 1 } hcnt0
    ⟨by simp, fun j oj _ hl => (by rw [getD_replicate_false] at hl; cases hl), fun t _ ht => getD_in (by simpa using ht) (getD_replicate_false _ _)⟩ ht
    ⟨x0, by
      have hmask : (fun j => Nat.ble N j || (Array.replicate l.toArray.size false).getD j true) = fun j => Nat.ble N j := by
        funext j
        by_cases hj : j < N
        · rw [getD_in (by simp; omega) (getD_replicate_false _ _)]; simp
        · have : Nat.ble N j = true := Nat.ble_eq_true_of_le (by omega)
          rw [this]; rfl
      rw [hmask]; exact hx0, fun i hi hl => by rw [getD_in (by simp; omega) (getD_replicate_false _ _)] at hl; cases hl⟩
  rw [show N + (l.length - N) = l.toArray.size by simp; omega] at this
  exact this
/-- what is to be shown of each operation of the head -/
def StepsX {α : Type} (P : Program) (l : List Oper) (n N : Nat) (ds : List (Option Nat)) (c : Nat → α → Value) (L : (Nat → Bool) → α → World → Prop) (e : Env) : Nat → List Oper → Prop
  | _, [] => True
  | i, o :: os => (∀ m x, m i = false → (preds o).all m = true →
      J P l.toArray (QD (ds.getD i none) (fun v w => ∃ x', v = c i x' ∧ (∀ j, j < N → m j = true → c j x' = c j x) ∧ L (mset m i) x' w)) n [o] (eX ds (fun j => c j x) (preds o) e) (L m x)) ∧ StepsX P l n N ds c L e (i + 1) os
theorem StepsX.all {α : Type} {P : Program} {l : List Oper} {n N : Nat} {ds : List (Option Nat)} {c : Nat → α → Value} {L : (Nat → Bool) → α → World → Prop} {e : Env} : ∀ (k : List Oper) (i0 : Nat), StepsX P l n N ds c L e i0 k → ∀ (i : Nat) (o : Oper), k[i]? = some o →
    ∀ m x, m (i0 + i) = false → (preds o).all m = true →
      J P l.toArray (QD (ds.getD (i0 + i) none) (fun v w => ∃ x', v = c (i0 + i) x' ∧ (∀ j, j < N → m j = true → c j x' = c j x) ∧ L (mset m (i0 + i)) x' w)) n [o] (eX ds (fun j => c j x) (preds o) e) (L m x) := by
  intro k
  induction k with
  | nil => intro i0 _ i o ho; simp at ho
  | cons p ps ih =>
    intro i0 h i o ho
    cases i with
    | zero => simp only [List.getElem?_cons_zero, Option.some.injEq] at ho; subst ho; exact h.1
    | succ i =>
      simp only [List.getElem?_cons_succ] at ho
      have := ih (i0 + 1) h.2 i o ho
      rw [show i0 + 1 + i = i0 + (i + 1) by omega] at this
      exact this
theorem JC.drawX {α : Type} {P : Program} {Q : Exit → Act → World → Prop} {n id : Nat} {l : List Oper} {e : Env} {I : World → Prop} (N : Nat) (vals : α → List Value) (L : (Nat → Bool) → α → World → Prop) {ds : List (Option Nat)}
    (hm : P.follows .mixedOrders = true) (hds : (l.take N).map (·.dst) = ds) (hnd : nodupO ds = true) (hN : Nat.ble N l.length = true) (hB : headB l N = true)
    (hlt : (ds.all fun d => match d with | some d => Nat.blt d n | none => true) = true) (hkeys : (ds.all fun d => match d with | some d => (get e d).isNone | none => true) = true)
    (hinit : ∀ w, I w → ∃ x, L (fun j => Nat.ble N j) x { w with drawn := w.drawn + 1 })
    (hstep : StepsX P l n N ds (fun j x => (vals x).getD j undef) L e 0 (l.take N))
    (htail : ∀ x, J P l.toArray Q n (l.drop N) (eX ds (fun j => (vals x).getD j undef) (List.range N) e) (L (fun _ => true) x)) : JC P Q n (.region id l.toArray true) e I :=
  JC.anyX N (fun j x => (vals x).getD j undef) L hm hds hnd hN hB hlt hkeys hinit (fun i o m x hi ho h1 h2 => by
    have := StepsX.all (l.take N) 0 hstep i o (by rw [List.getElem?_take_of_lt hi]; exact ho) m x (by rw [Nat.zero_add]; exact h1) h2
    rw [Nat.zero_add] at this
    exact this) htail
theorem J.finX {P : Program} {ops : Array Oper} {n d : Nat} {R : Value → World → Prop} {e : Env} {I : World → Prop} {v : Value} (hv : get e d = some v) (h : ∀ w, I w → R v w) : J P ops (QD (some d) R) n [] e I :=
  J.nil (JX.finB hv fun w hw => ⟨h w hw, trivial⟩)
theorem JX.finN {n : Nat} {R : Value → World → Prop} {e : Env} {I : World → Prop} (v : Value) (h : ∀ w, I w → R v w) : JX (QN R) n .normal e I :=
  fun _ w ht hw => ⟨rfl, rfl, v, h w hw⟩
theorem St.drew {w0 w : World} {S : List Nat} {l : List (Nat × Obj)} (h : St w0 S l w) : St w0 S l { w with drawn := w.drawn + 1 } := h.step ((Bel.refl w).drew)
theorem predsT {o : Oper} {m : Nat → Bool} (h : (preds o).all m = true) {j : Nat} (hj : (preds o).any (Nat.beq j) = true) : m j = true := by
  obtain ⟨k, hk, h2⟩ := List.any_eq_true.1 hj
  have : j = k := Nat.eq_of_beq_eq_true h2
  subst this
  exact List.all_eq_true.1 h j hk
theorem J.makeFn {P : Program} {ops : Array Oper} {Q : Exit → Act → World → Prop} {n : Nat} {e : Env} {I : World → Prop} {rest : List Oper} {d t : Nat} {p : String} {af : Array Edge} {f : FuncId} {cs : List Operand} {vs : List Value} (hx : evs e cs = some vs) (hd : Nat.blt d n = true)
    (h : J P ops Q n rest ((d, .func (.func f) #[] vs.toArray) :: e) I) : J P ops Q n (⟨some d, .makeFunc (.func f) #[] cs.toArray, t, p, af, none⟩ :: rest) e I :=
  J.value hd (fun T w ht hw => ⟨w, by
    have := ht.evals hx
    simp [execOp, Instr.makeFunc, this], hw⟩) h
theorem J.callVD {P : Program} {ops : Array Oper} {Q : Exit → Act → World → Prop} {n : Nat} {e : Env} {I : World → Prop} {rest : List Oper} {d t : Nat} {p : String} {af : Array Edge} {y : Operand} {v : Value} {f : FuncId} {cs : Array Value} {xs : List Operand} {ats : Array TypeId} {vs : List Value} {wi : World} (hb : bodyT P f = true) (hy : ev e y = some (.func (.func f) #[] cs)) (hx : evs e xs = some vs) (hd : Nat.blt d n = true)
    (hc : ∀ w, I w → Calls P f (vs.toArray ++ cs) w fun r w' => r = .returned v ∧ Bel w w')
    (h : J P ops Q n rest ((d, v) :: e) (fun w => Bel wi w)) : J P ops Q n (⟨some d, .call ⟨.value y, xs.toArray, ats⟩, t, p, af, none⟩ :: rest) e (fun w => w = wi ∧ I w) := by
  refine J.callV (R := fun v' w' => v' = v ∧ Bel wi w') hb hy hx hd (fun w hw => ?_) (fun v' => J.pr fun hv => ?_)
  · obtain ⟨rfl, hw⟩ := hw
    exact (hc w hw).mono fun r w' ⟨h1, h2⟩ => ⟨v, h1, rfl, h2⟩
  · subst hv
    exact h
/-- a call of a function without a body, that the model answers -/
theorem J.callX {P : Program} {ops : Array Oper} {Q : Exit → Act → World → Prop} {n : Nat} {e : Env} {I : World → Prop} {rest : List Oper} {d t : Nat} {p : String} {af : Array Edge} {f : FuncId} {fn : Func} {ex : Array Value → Sem Value} {xs : List Operand} {ats : Array TypeId} {vs : List Value} {v : Value}
    (hf : P.funcs[f]? = some fn) (hn : (fn.name == "runtime.NumGoroutine") = false) (hb : fn.body.isNone = true) (h1 : (Extern.findNext fn).isNone = true) (h2 : Extern.find fn = some ex) (hx : evs e xs = some vs) (hd : Nat.blt d n = true)
    (hr : ∀ w, I w → (ex vs.toArray).run P w = .ok v w)
    (h : J P ops Q n rest ((d, v) :: e) I) : J P ops Q n (⟨some d, .call ⟨.value (.func f), xs.toArray, ats⟩, t, p, af, none⟩ :: rest) e I :=
  J.value hd (fun T w ht hw => ⟨w, by
    have hxs := ht.evals hx
    have h1' : Extern.findNext fn = none := by cases h : Extern.findNext fn with
      | none => rfl
      | some _ => rw [h] at h1; cases h1
    have hn' : ¬ fn.name = "runtime.NumGoroutine" := fun e => by rw [e] at hn; simp at hn
    have hb' : fn.body = none := by simpa using hb
    simp [execOp, resolve, Act.eval, Deferred.ofValue, invoke, hxs, callFunc, hf, hn', hb', h1', h2, hr w hw], hw⟩) h
section
variable {P : Program} {ops : Array Oper} {Q : Exit → Act → World → Prop} {n : Nat} {e : Env} {I : World → Prop} {rest : List Oper} {d t yt : Nat} {p : String} {af : Array Edge} {x y : Operand} {w0 : World} {S : List Nat} {l l' : List (Nat × Obj)}
theorem zeroCells_length (z : Array Value) (n : Nat) : (Builtin.zeroCells z n).toList.length = n * z.size := by simp [Builtin.zeroCells]
theorem zeroCells_mem {z : Array Value} {n : Nat} {v : Value} (h : v ∈ (Builtin.zeroCells z n).toList) (hz : ∀ u, u ∈ z.toList → u.oneCell' = true) (h0 : 0 < z.size) : v.oneCell' = true := by
  simp only [Builtin.zeroCells, Array.toList_map, List.mem_map] at h
  obtain ⟨i, _, rfl⟩ := h
  have hi : i % z.size < z.size := Nat.mod_lt _ h0
  rw [getElem!_pos z _ hi]
  exact hz _ (by simp)
/-- the elements of a slice are set to zero -/
theorem J.clear {ty el k c b o sz : Nat} {ats : Array TypeId} {zv : Value} {cs : List Value} {tb : TypeId} (hats : ats[0]? = some ty) (he : elemT P ty = some el) (hz : zeroT P el = some zv) (hsz : zv.cells.size = sz) (h0 : 0 < sz) (hone : ∀ u, u ∈ zv.cells.toList → u.oneCell' = true)
    (hx : ev e x = some (.slice (some ⟨b, o, none⟩) k c)) (hu : Up l b (cb cs tb) (cb (setMany cs o (Builtin.zeroCells zv.cells k).toList) tb) l') (hl : k = 0 ∨ o + k * sz ≤ cs.length)
    (h : J P ops Q n rest e (St w0 S l')) : J P ops Q n (⟨none, .call ⟨.builtin .clear, #[x], ats⟩, t, p, af, none⟩ :: rest) e (St w0 S l) := by
  refine J.valueN (fun T w ht hw => ?_) h
  have hb := hw.own _ hu.mem
  by_cases hk : k = 0
  · subst hk
    have e0 : (Builtin.zeroCells zv.cells 0).toList = [] := List.eq_nil_of_length_eq_zero (by rw [zeroCells_length]; simp)
    rw [e0] at hu
    refine ⟨.tuple #[], w, by simp [execOp, resolve, invoke, builtin, Builtin.clear_, ht.eval hx, run_underlying' (elem_u he), hats], ?_⟩
    exact hw.set hu rfl rfl rfl (Nat.le_refl _) rfl hb (fun _ _ _ => rfl)
  · obtain ⟨w', hr, hw'⟩ := run_storeCells (P := P) (Builtin.zeroCells zv.cells k).toList w cs o 0 hb (by rw [zeroCells_length, hsz]; rcases hl with h | h <;> omega) (fun v hv => zeroCells_mem hv hone (by omega))
    refine ⟨.tuple #[], w', ?_, hw.wrote hu (by simpa using hw')⟩
    have hr' : (storeCells ⟨b, o, none⟩ (Builtin.zeroCells zv.cells k).toList).run P w = .ok () w' := hr
    match k, hk with
    | k + 1, _ => simp [execOp, resolve, invoke, builtin, Builtin.clear_, ht.eval hx, run_underlying' (elem_u he), hats, run_zeroValue' hz, hr']
/-- a slice against nil -/
theorem J.eqNilSl {ty el k c : Nat} {a : Option Addr} (hu : P.underlying ty = some (.slice el)) (hx : ev e x = some (.slice a k c)) (hy : ev e y = some (.slice none 0 0)) (hd : Nat.blt d n = true)
    (h : J P ops Q n rest ((d, .bool a.isNone) :: e) I) : J P ops Q n (⟨some d, .binOp .eql ty x y yt, t, p, af, none⟩ :: rest) e I := by
  refine J.value hd (fun T w ht hw => ⟨w, ?_, hw⟩) h
  simp only [execOp, ht.eval hx, ht.eval hy, Sem.run_bind, Sem.run_pure]
  rw [run_eqGuard w trivial, Result.andThen_ok]
  have hb : (binOp .eql ty (.slice a k c) (.slice none 0 0)).run P w = ((Op.equal ty (.slice a k c) (.slice none 0 0)).run P w).andThen fun r w' => .ok (.bool r) w' := by
    simp only [binOp, Sem.run_bind, Sem.run_pure]
  have he : (Op.equal ty (.slice a k c) (.slice none 0 0)).run P w = .ok a.isNone w := by
    refine run_equal_of fun d => ?_
    cases a <;> simp [Op.equalIn, run_underlying' hu]
  rw [hb, he]; rfl
end
end Go.J
