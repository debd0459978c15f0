/-
  VaultOpens: texts that its proof needs, part 3.
-/
import Derived.Test.YtoaenmlhehcjfaaZVaultOpensb
/-
 The calculus: regions whose operations come in any order, with an invariant on the operations that are done. Proved over any program.
-/
namespace Go.J
open Go.RowKit
set_option linter.unusedVariables false
set_option linter.unusedSimpArgs false
def eX (ds : List (Option Nat)) (c : Nat → Value) : List Nat → Env → Env
 | [], e => e
 | j :: js, e => match ds.getD j none with
  | some d => eX ds c js ((d, c j) :: e)
  | none => eX ds c js e
def QN (R : Value → World → Prop) : Exit → Act → World → Prop := fun x a w => x = .normal ∧ a.defers = [] ∧ ∃ v, R v w
def QD (d : Option Nat) (R : Value → World → Prop) : Exit → Act → World → Prop := match d with
 | some d => QB d R (fun _ => True)
 | none => QN R
theorem wpOp_of_listN {P : Program} {ops : Array Oper} {Q : Exit → Act → World → Prop} {i : Nat} {o : Oper} {T : Array Value} {w : World} {R : Value → World → Prop} {K : Act → World → Prop}
  (ho : ops[i]? = some o) (hd : o.dst = none) (h : wpList P ops (QN R) [o] (act T) w)
  (hk : ∀ v w', R v w' → K (act T) w') : wpOp P ops Q i K (act T) w := by
 have fin : ∀ a w', QN R .normal a w' → K (act T) w' := by
  rintro a w' ⟨_, _, v, hr⟩
  exact hk v w' hr
 unfold wpOp
 simp only [ho]
 simp only [wpList] at h
 split at h
 ·rename_i hw
  rw [if_pos hw]
  rcases h with h | ⟨_, ⟨_, _, h, _⟩⟩
  ·left
   unfold Oper.wp at h ⊢
   generalize (execOp (act T).eval o).run P w = r at h
   cases r with
   | ok nx w' =>
    cases nx <;> simp only [Oper.upon, hd] at h ⊢
    case value v => exact fin _ w' h
    case skip => exact fin _ w' h
    case defer dd => exact absurd h.2.1 (by simp [Act.put])
    case enter f args =>
     refine h.mono fun r w'' hr => ?_
     cases r with
     | returned v => exact fin _ w'' hr
     | panicked c => exact absurd hr.1 (by simp)
     | outgrown => obtain ⟨_, _, h, _⟩ := hr; cases h
    case row row args => exact Rows.mono h fun v w'' hr => fin _ w'' hr
   | halt x w' => cases x <;> simp only [Oper.upon] at h; exact absurd h.1 (by simp)
  ·cases h
 ·rename_i hw
  rw [if_neg hw]
  simp only [hd] at h ⊢
  exact fin _ w h
def nodupO : List (Option Nat) → Bool
 | [] => true
 | none :: xs => nodupO xs
 | some x :: xs => !(xs.any fun y => match y with | some y => Nat.beq x y | none => false) && nodupO xs
theorem nodupO_spec : ∀ {l : List (Option Nat)}, nodupO l = true → ∀ i j d, l.getD i none = some d → l.getD j none = some d → i = j := by
 intro l
 induction l with
 | nil => intro _ i j d hi; simp at hi
 | cons x xs ih =>
  intro h i j d hi hj
  have hx : ∀ k, x = some d → xs.getD k none ≠ some d := by
   intro k hxd e
   subst hxd
   simp only [nodupO, Bool.and_eq_true, Bool.not_eq_true', List.any_eq_false] at h
   have hm : some d ∈ xs := by
    rw [List.getD_eq_getElem?_getD] at e
    cases hk : xs[k]? with
    | none => rw [hk] at e; cases e
    | some y => rw [hk] at e; simp only [Option.getD_some] at e; subst e; exact List.mem_of_getElem? hk
   have := h.1 _ hm
   simp at this
  have hr : nodupO xs = true := by
   cases x with
   | none => exact h
   | some x => simp only [nodupO, Bool.and_eq_true] at h; exact h.2
  cases i with
  | zero =>
   cases j with
   | zero => rfl
   | succ j => simp only [List.getD_cons_zero, List.getD_cons_succ] at hi hj; exact absurd hj (hx j hi)
  | succ i =>
   cases j with
   | zero => simp only [List.getD_cons_zero, List.getD_cons_succ] at hi hj; exact absurd hi (hx i hj)
   | succ j => simp only [List.getD_cons_succ] at hi hj; rw [ih hr i j d hi hj]
def mset (m : Nat → Bool) (i : Nat) : Nat → Bool := fun j => cond (Nat.beq j i) true (m j)
theorem Rep.eX {ds : List (Option Nat)} {c : Nat → Value} {n : Nat} {T : Array Value} : ∀ {js : List Nat} {e : Env}, Rep n T e → (∀ j, j ∈ js → ∀ d, ds.getD j none = some d → T[d]? = some (c j)) → Rep n T (J.eX ds c js e)
 | [], _, h, _ => h
 | j :: js, e, h, hj => by
  unfold J.eX
  split
  ·rename_i d hd
   refine Rep.eX (js := js) (e := (d, c j) :: e) ⟨h.1, fun t u hu => ?_⟩ (fun k hk => hj k (.tail _ hk))
   simp only [J.get] at hu
   cases hb : Nat.beq d t with
   | true =>
    rw [hb] at hu
    have : d = t := by simpa using hb
    subst this
    simp only [Option.some.injEq] at hu
    subst hu
    exact hj j (.head _) _ hd
   | false => rw [hb] at hu; exact h.2 t u hu
  ·exact Rep.eX (js := js) (e := e) h (fun k hk => hj k (.tail _ hk))
theorem JC.anyX {α : Type} {P : Program} {Q : Exit → Act → World → Prop} {n id : Nat} {l : List Oper} {e : Env} {I : World → Prop} (N : Nat) (c : Nat → α → Value) (L : (Nat → Bool) → α → World → Prop) {ds : List (Option Nat)}
  (hm : P.follows .mixedOrders = true) (hds : (l.take N).map (·.dst) = ds) (hnd : nodupO ds = true) (hN : Nat.ble N l.length = true) (hB : headB l N = true)
  (hlt : (ds.all fun d => match d with | some d => Nat.blt d n | none => true) = true) (hkeys : (ds.all fun d => match d with | some d => (get e d).isNone | none => true) = true)
  (hinit : ∀ w, I w → ∃ x, L (fun j => Nat.ble N j) x { w with drawn := w.drawn + 1 })
  (hstep : ∀ (i : Nat) (o : Oper) (m : Nat → Bool) (x : α), i < N → l[i]? = some o → m i = false → (preds o).all m = true →
   J P l.toArray (QD (ds.getD i none) (fun v w => ∃ x', v = c i x' ∧ (∀ j, j < N → m j = true → c j x' = c j x) ∧ L (mset m i) x' w)) n [o] (eX ds (fun j => c j x) (preds o) e) (L m x))
  (htail : ∀ x, J P l.toArray Q n (l.drop N) (eX ds (fun j => c j x) (List.range N) e) (L (fun _ => true) x)) : JC P Q n (.region id l.toArray true) e I := by
 intro T w ht hw
 refine wp_region_any hm ?_
 have hN' : N ≤ l.length := Nat.le_of_ble_eq_true hN
 have htk : (l.take N).length = N := by simp; omega
 simp only [headB, Bool.and_eq_true, Bool.or_eq_true] at hB
 obtain ⟨⟨hback, hseq⟩, hsink⟩ := hB
 have hdst : ∀ i o, i < N → l[i]? = some o → o.dst = ds.getD i none := by
  intro i o hi ho
  rw [← hds, List.getD_eq_getElem?_getD, List.getElem?_map, List.getElem?_take_of_lt hi, ho]
  rfl
 have hd1 : ∀ i d, i < N → ds.getD i none = some d → d < n ∧ get e d = none := by
  intro i d hi hd
  have hmem : some d ∈ ds := by
   rw [List.getD_eq_getElem?_getD] at hd
   cases hk : ds[i]? with
   | none => rw [hk] at hd; cases hd
   | some y => rw [hk] at hd; simp only [Option.getD_some] at hd; subst hd; exact List.mem_of_getElem? hk
  have h1 := List.all_eq_true.1 hlt _ hmem
  have h2 := List.all_eq_true.1 hkeys _ hmem
  exact ⟨Nat.blt_eq.mp h1, by simpa using h2⟩
 have key : ∀ (m : Nat) (listed : Array Bool) (T : Array Value) (w : World), cnt listed N = m → HeadInv .any l.toArray N listed → Rep n T e → (∃ x, L (fun j => Nat.ble N j || listed.getD j true) x w ∧ ∀ i, i < N → listed.getD i true = true → ∀ d, ds.getD i none = some d → T[d]? = some (c i x)) →
   wpAny P .any l.toArray Q (m + (l.length - N)) listed (act T) w := by
  intro m
  induction m with
  | zero =>
   rintro listed T w hcnt inv ht ⟨x, hw, hfacts⟩
   have hall := cnt_zero N hcnt
   have hlisted : listed = (List.replicate N true ++ List.replicate (l.length - N) false).toArray := by
    have hs := inv.size
    simp only [List.size_toArray] at hs
    apply Array.ext
    ·simp [hs]; omega
    ·intro i hi1 hi2
     by_cases hiN : i < N
     ·have := hall i hiN
      simp only [Array.getD_eq_getD_getElem?, Array.getElem?_eq_getElem hi1, Option.getD_some] at this
      rw [this]
      simp [List.getElem_append, hiN]
     ·have := inv.tail i (by omega) (by simp; omega)
      simp only [Array.getD_eq_getD_getElem?, Array.getElem?_eq_getElem hi1, Option.getD_some] at this
      rw [this]
      simp [List.getElem_append, hiN]
   rw [Nat.zero_add]
   have hdl : (l.drop N).length = l.length - N := by simp
   have hmask : (fun j => Nat.ble N j || listed.getD j true) = fun _ => true := by
    funext j
    by_cases hj : j < N
    ·rw [hall j hj]; simp
    ·have : Nat.ble N j = true := Nat.ble_eq_true_of_le (by omega)
     rw [this]; rfl
   rw [hmask] at hw
   have hwl : wpList P l.toArray Q (l.drop N) (act T) w :=
    htail x T w (ht.eX (fun j hj => hfacts j (List.mem_range.1 hj) (hall j (List.mem_range.1 hj)))) hw
   have := wpAny_of_seq (P := P) (md := .any) (Q' := Q) (ops := l.toArray) (l.drop N) N listed (act T) w (fun j => by simp [List.getElem?_drop]) (by rw [hdl, hlisted]; exact hseq) hwl
   rwa [hdl] at this
  | succ m ih =>
   rintro listed T w hcnt inv ht ⟨x, hw, hfacts⟩
   rw [show m + 1 + (l.length - N) = (m + (l.length - N)) + 1 by omega]
   have hsz : listed.size = l.length := by simpa using inv.size
   obtain ⟨i0, hi0, hun0, hmin0⟩ : ∃ i, i < N ∧ listed.getD i true = false ∧ ∀ j, j < i → listed.getD j true = true := by
    rcases all_below listed N with h | h
    ·exact h
    ·exfalso
     have : cnt listed N = 0 := by
      have : ∀ M, M ≤ N → cnt listed M = 0 := by
       intro M
       induction M with
       | zero => intro _; rfl
       | succ M ihM => intro hM; simp only [cnt]; rw [h M (by omega), ihM (by omega)]; rfl
      exact this N (Nat.le_refl _)
     omega
   have hgd : ∀ j, j < l.length → listed.getD j true = true → listed.getD j false = true := by
    intro j hj h
    have hj' : j < listed.size := by omega
    simp only [Array.getD_eq_getD_getElem?, Array.getElem?_eq_getElem hj', Option.getD_some] at h ⊢
    exact h
   have hready0 : i0 ∈ Region.ready .any l.toArray listed := by
    refine mem_ready.2 ⟨hun0, l[i0]'(by omega), by simp, fun ed hed hbd => ?_⟩
    have hp : ed.on ∈ preds (l[i0]'(by omega)) := by
     simp only [preds, List.mem_map, List.mem_filter]
     exact ⟨ed, ⟨by simpa using hed, hbd⟩, rfl⟩
    have := backB_spec hback hi0 (List.getElem?_eq_getElem (by omega)) ed.on hp
    exact hgd _ (by omega) (hmin0 _ this)
   refine ⟨fun h0 => (by rw [h0] at hready0; cases hready0), fun i hi => ?_⟩
   have hiN : i < N := by
    rcases Nat.lt_or_ge i N with h | h
    ·exact h
    ·exfalso
     rcases hsink with h1 | ⟨⟨h1, h2⟩, h3⟩
     ·have : N = l.length := Nat.eq_of_beq_eq_true h1
      obtain ⟨_, o, ho, _⟩ := mem_ready.1 hi
      have := (Array.getElem?_eq_some_iff.1 ho).1
      simp at this; omega
     ·exact tail_waits h2 h3 (by simpa using Nat.blt_eq.mp h1) inv _ i0 rfl hi0 hun0 i h hi
   obtain ⟨hun, o, ho, hall⟩ := mem_ready.1 hi
   have ho' : l[i]? = some o := by simpa using ho
   have hpre : ∀ j, j ∈ preds o → j < N ∧ listed.getD j true = true := by
    intro j hj
    have hjlt := backB_spec hback hiN ho' j hj
    simp only [preds, List.mem_map, List.mem_filter] at hj
    obtain ⟨ed, ⟨hed, hbd⟩, rfl⟩ := hj
    have h1 := hall ed (by simpa using hed) hbd
    have hj' : ed.on < listed.size := by omega
    refine ⟨by omega, ?_⟩
    simp only [Array.getD_eq_getD_getElem?, Array.getElem?_eq_getElem hj', Option.getD_some] at h1 ⊢
    exact h1
   have hle : Nat.ble N i = false := by
    cases h : Nat.ble N i with
    | false => rfl
    | true => have := Nat.le_of_ble_eq_true h; omega
   have hwl := hstep i o (fun j => Nat.ble N j || listed.getD j true) x hiN ho' (by show (Nat.ble N i || listed.getD i true) = false; rw [hle, hun]; rfl)
    (List.all_eq_true.2 fun j hj => by rw [(hpre j hj).2]; simp) T w (ht.eX (fun j hj => hfacts j (hpre j hj).1 (hpre j hj).2)) hw
   have hisz : i < listed.size := by omega
   have hmask : mset (fun j => Nat.ble N j || listed.getD j true) i = fun j => Nat.ble N j || (listed.setIfInBounds i true).getD j true := by
    funext j
    by_cases hji : j = i
    ·subst hji
     simp [mset, hisz]
    ·have hb : Nat.beq j i = false := Bool.eq_false_iff.2 fun h => hji (Nat.eq_of_beq_eq_true h)
     simp only [mset, hb, cond_false]
     rw [getD_set_ne true (Ne.symm hji)]
   have hdi := hdst i o hiN ho'
   cases hdd : ds.getD i none with
   | some d =>
    rw [hdd] at hwl hdi
    refine wpOp_of_listB ho hdi hwl (fun v w' hv hφ _ => ?_) (by rw [ht.1]; exact (hd1 i d hiN hdd).1)
    obtain ⟨x', rfl, hsame, hL⟩ := hφ
    refine ih _ _ w' (by have := cnt_set hisz hun N hiN; omega) (inv.set hi hiN) (ht.other (hd1 i d hiN hdd).2 _) ⟨x', by rw [← hmask]; exact hL, fun j hj hlj d' hd' => ?_⟩
    by_cases hji : j = i
    ·subst hji
     rw [hdd] at hd'
     cases hd'
     exact hv
    ·rw [getD_set_ne true (Ne.symm hji)] at hlj
     have hu := hfacts j hj hlj d' hd'
     rw [hsame j hj (by rw [hlj]; simp)]
     rw [Array.getElem?_setIfInBounds, if_neg (fun he => hji (nodupO_spec hnd j i d' hd' (by rw [hdd, he])))]
     exact hu
   | none =>
    rw [hdd] at hwl hdi
    refine wpOp_of_listN ho hdi hwl (fun v w' hφ => ?_)
    obtain ⟨x', rfl, hsame, hL⟩ := hφ
    refine ih _ _ w' (by have := cnt_set hisz hun N hiN; omega) (inv.set hi hiN) ht ⟨x', by rw [← hmask]; exact hL, fun j hj hlj d' hd' => ?_⟩
    by_cases hji : j = i
    ·subst hji
     rw [hdd] at hd'
     cases hd'
    ·rw [getD_set_ne true (Ne.symm hji)] at hlj
     have hu := hfacts j hj hlj d' hd'
     rw [hsame j hj (by rw [hlj]; simp)]
     exact hu
 have hcnt0 : cnt (Array.replicate l.toArray.size false) N = N := by
  have : ∀ M, M ≤ N → cnt (Array.replicate l.toArray.size false) M = M := by
   intro M
   induction M with
   | zero => intro _; rfl
   | succ M ihM =>
    intro hM
    simp only [cnt]
    rw [getD_in (by simp; omega) (getD_replicate_false _ _), ihM (by omega)]
    simp; omega
  exact this N (Nat.le_refl _)
 obtain ⟨x0, hx0⟩ := hinit w hw
 have := key N (Array.replicate l.toArray.size false) T { w with drawn := w.drawn + 1 } hcnt0
  ⟨by simp, fun j oj _ hl => (by rw [getD_replicate_false] at hl; cases hl), fun t _ ht => getD_in (by simpa using ht) (getD_replicate_false _ _)⟩ ht
  ⟨x0, by
   have hmask : (fun j => Nat.ble N j || (Array.replicate l.toArray.size false).getD j true) = fun j => Nat.ble N j := by
    funext j
    by_cases hj : j < N
    ·rw [getD_in (by simp; omega) (getD_replicate_false _ _)]; simp
    ·have : Nat.ble N j = true := Nat.ble_eq_true_of_le (by omega)
     rw [this]; rfl
   rw [hmask]; exact hx0, fun i hi hl => by rw [getD_in (by simp; omega) (getD_replicate_false _ _)] at hl; cases hl⟩
 rw [show N + (l.length - N) = l.toArray.size by simp; omega] at this
 exact this
/-- what is to be shown of each operation of the head -/
def StepsX {α : Type} (P : Program) (l : List Oper) (n N : Nat) (ds : List (Option Nat)) (c : Nat → α → Value) (L : (Nat → Bool) → α → World → Prop) (e : Env) : Nat → List Oper → Prop
 | _, [] => True
 | i, o :: os => (∀ m x, m i = false → (preds o).all m = true →
   J P l.toArray (QD (ds.getD i none) (fun v w => ∃ x', v = c i x' ∧ (∀ j, j < N → m j = true → c j x' = c j x) ∧ L (mset m i) x' w)) n [o] (eX ds (fun j => c j x) (preds o) e) (L m x)) ∧ StepsX P l n N ds c L e (i + 1) os
theorem StepsX.all {α : Type} {P : Program} {l : List Oper} {n N : Nat} {ds : List (Option Nat)} {c : Nat → α → Value} {L : (Nat → Bool) → α → World → Prop} {e : Env} : ∀ (k : List Oper) (i0 : Nat), StepsX P l n N ds c L e i0 k → ∀ (i : Nat) (o : Oper), k[i]? = some o →
  ∀ m x, m (i0 + i) = false → (preds o).all m = true →
   J P l.toArray (QD (ds.getD (i0 + i) none) (fun v w => ∃ x', v = c (i0 + i) x' ∧ (∀ j, j < N → m j = true → c j x' = c j x) ∧ L (mset m (i0 + i)) x' w)) n [o] (eX ds (fun j => c j x) (preds o) e) (L m x) := by
 intro k
 induction k with
 | nil => intro i0 _ i o ho; simp at ho
 | cons p ps ih =>
  intro i0 h i o ho
  cases i with
  | zero => simp only [List.getElem?_cons_zero, Option.some.injEq] at ho; subst ho; exact h.1
  | succ i =>
   simp only [List.getElem?_cons_succ] at ho
   have := ih (i0 + 1) h.2 i o ho
   rw [show i0 + 1 + i = i0 + (i + 1) by omega] at this
   exact this
theorem JC.drawX {α : Type} {P : Program} {Q : Exit → Act → World → Prop} {n id : Nat} {l : List Oper} {e : Env} {I : World → Prop} (N : Nat) (vals : α → List Value) (L : (Nat → Bool) → α → World → Prop) {ds : List (Option Nat)}
  (hm : P.follows .mixedOrders = true) (hds : (l.take N).map (·.dst) = ds) (hnd : nodupO ds = true) (hN : Nat.ble N l.length = true) (hB : headB l N = true)
  (hlt : (ds.all fun d => match d with | some d => Nat.blt d n | none => true) = true) (hkeys : (ds.all fun d => match d with | some d => (get e d).isNone | none => true) = true)
  (hinit : ∀ w, I w → ∃ x, L (fun j => Nat.ble N j) x { w with drawn := w.drawn + 1 })
  (hstep : StepsX P l n N ds (fun j x => (vals x).getD j undef) L e 0 (l.take N))
  (htail : ∀ x, J P l.toArray Q n (l.drop N) (eX ds (fun j => (vals x).getD j undef) (List.range N) e) (L (fun _ => true) x)) : JC P Q n (.region id l.toArray true) e I :=
 JC.anyX N (fun j x => (vals x).getD j undef) L hm hds hnd hN hB hlt hkeys hinit (fun i o m x hi ho h1 h2 => by
  have := StepsX.all (l.take N) 0 hstep i o (by rw [List.getElem?_take_of_lt hi]; exact ho) m x (by rw [Nat.zero_add]; exact h1) h2
  rw [Nat.zero_add] at this
  exact this) htail
theorem J.finX {P : Program} {ops : Array Oper} {n d : Nat} {R : Value → World → Prop} {e : Env} {I : World → Prop} {v : Value} (hv : get e d = some v) (h : ∀ w, I w → R v w) : J P ops (QD (some d) R) n [] e I :=
 J.nil (JX.finB hv fun w hw => ⟨h w hw, trivial⟩)
theorem JX.finN {n : Nat} {R : Value → World → Prop} {e : Env} {I : World → Prop} (v : Value) (h : ∀ w, I w → R v w) : JX (QN R) n .normal e I :=
 fun _ w ht hw => ⟨rfl, rfl, v, h w hw⟩
theorem St.drew {w0 w : World} {S : List Nat} {l : List (Nat × Obj)} (h : St w0 S l w) : St w0 S l { w with drawn := w.drawn + 1 } := h.step ((Bel.refl w).drew)
theorem predsT {o : Oper} {m : Nat → Bool} (h : (preds o).all m = true) {j : Nat} (hj : (preds o).any (Nat.beq j) = true) : m j = true := by
 obtain ⟨k, hk, h2⟩ := List.any_eq_true.1 hj
 have : j = k := Nat.eq_of_beq_eq_true h2
 subst this
 exact List.all_eq_true.1 h j hk
theorem J.makeFn {P : Program} {ops : Array Oper} {Q : Exit → Act → World → Prop} {n : Nat} {e : Env} {I : World → Prop} {rest : List Oper} {d t : Nat} {p : String} {af : Array Edge} {f : FuncId} {cs : List Operand} {vs : List Value} (hx : evs e cs = some vs) (hd : Nat.blt d n = true)
  (h : J P ops Q n rest ((d, .func (.func f) #[] vs.toArray) :: e) I) : J P ops Q n (⟨some d, .makeFunc (.func f) #[] cs.toArray, t, p, af, none⟩ :: rest) e I :=
 J.value hd (fun T w ht hw => ⟨w, by
  have := ht.evals hx
  simp [execOp, Instr.makeFunc, this], hw⟩) h
/-- a call of a function without a body, that the model answers -/
theorem J.callX {P : Program} {ops : Array Oper} {Q : Exit → Act → World → Prop} {n : Nat} {e : Env} {I : World → Prop} {rest : List Oper} {d t : Nat} {p : String} {af : Array Edge} {f : FuncId} {fn : Func} {ex : Array Value → Sem Value} {xs : List Operand} {ats : Array TypeId} {vs : List Value} {v : Value}
  (hf : P.funcs[f]? = some fn) (hn : (fn.name == "runtime.NumGoroutine") = false) (hb : fn.body.isNone = true) (h1 : (Extern.findNext fn).isNone = true) (h2 : Extern.find fn = some ex) (hx : evs e xs = some vs) (hd : Nat.blt d n = true)
  (hr : ∀ w, I w → (ex vs.toArray).run P w = .ok v w)
  (h : J P ops Q n rest ((d, v) :: e) I) : J P ops Q n (⟨some d, .call ⟨.value (.func f), xs.toArray, ats⟩, t, p, af, none⟩ :: rest) e I :=
 J.value hd (fun T w ht hw => ⟨w, by
  have hxs := ht.evals hx
  have h1' : Extern.findNext fn = none := by cases h : Extern.findNext fn with
   | none => rfl
   | some _ => rw [h] at h1; cases h1
  have hn' : ¬ fn.name = "runtime.NumGoroutine" := fun e => by rw [e] at hn; simp at hn
  have hb' : fn.body = none := by simpa using hb
  simp [execOp, resolve, Act.eval, Deferred.ofValue, invoke, hxs, callFunc, hf, hn', hb', h1', h2, hr w hw], hw⟩) h
section
variable {P : Program} {ops : Array Oper} {Q : Exit → Act → World → Prop} {n : Nat} {e : Env} {I : World → Prop} {rest : List Oper} {d t yt : Nat} {p : String} {af : Array Edge} {x y : Operand} {w0 : World} {S : List Nat} {l l' : List (Nat × Obj)}
theorem zeroCells_length (z : Array Value) (n : Nat) : (Builtin.zeroCells z n).toList.length = n * z.size := by simp [Builtin.zeroCells]
theorem zeroCells_mem {z : Array Value} {n : Nat} {v : Value} (h : v ∈ (Builtin.zeroCells z n).toList) (hz : ∀ u, u ∈ z.toList → u.oneCell' = true) (h0 : 0 < z.size) : v.oneCell' = true := by
 simp only [Builtin.zeroCells, Array.toList_map, List.mem_map] at h
 obtain ⟨i, _, rfl⟩ := h
 have hi : i % z.size < z.size := Nat.mod_lt _ h0
 rw [getElem!_pos z _ hi]
 exact hz _ (by simp)
/-- the elements of a slice are set to zero -/
theorem J.clear {ty el k c b o sz : Nat} {ats : Array TypeId} {zv : Value} {cs : List Value} {tb : TypeId} (hats : ats[0]? = some ty) (he : elemT P ty = some el) (hz : zeroT P el = some zv) (hsz : zv.cells.size = sz) (h0 : 0 < sz) (hone : ∀ u, u ∈ zv.cells.toList → u.oneCell' = true)
  (hx : ev e x = some (.slice (some ⟨b, o, none⟩) k c)) (hu : Up l b (cb cs tb) (cb (setMany cs o (Builtin.zeroCells zv.cells k).toList) tb) l') (hl : k = 0 ∨ o + k * sz ≤ cs.length)
  (h : J P ops Q n rest e (St w0 S l')) : J P ops Q n (⟨none, .call ⟨.builtin .clear, #[x], ats⟩, t, p, af, none⟩ :: rest) e (St w0 S l) := by
 refine J.valueN (fun T w ht hw => ?_) h
 have hb := hw.own _ hu.mem
 by_cases hk : k = 0
 ·subst hk
  have e0 : (Builtin.zeroCells zv.cells 0).toList = [] := List.eq_nil_of_length_eq_zero (by rw [zeroCells_length]; simp)
  rw [e0] at hu
  refine ⟨.tuple #[], w, by simp [execOp, resolve, invoke, builtin, Builtin.clear_, ht.eval hx, run_underlying' (elem_u he), hats], ?_⟩
  exact hw.set hu rfl rfl rfl (Nat.le_refl _) rfl hb (fun _ _ _ => rfl)
 ·obtain ⟨w', hr, hw'⟩ := run_storeCells (P := P) (Builtin.zeroCells zv.cells k).toList w cs o 0 hb (by rw [zeroCells_length, hsz]; rcases hl with h | h <;> omega) (fun v hv => zeroCells_mem hv hone (by omega))
  refine ⟨.tuple #[], w', ?_, hw.wrote hu (by simpa using hw')⟩
  have hr' : (storeCells ⟨b, o, none⟩ (Builtin.zeroCells zv.cells k).toList).run P w = .ok () w' := hr
  match k, hk with
  | k + 1, _ => simp [execOp, resolve, invoke, builtin, Builtin.clear_, ht.eval hx, run_underlying' (elem_u he), hats, run_zeroValue' hz, hr']
end
end Go.J
/-
 Identities as numbers; the model's comparison of bytes. Proved over any program.
-/
namespace Go.J
open Go.RowKit
set_option linter.unusedVariables false
set_option linter.unusedSimpArgs false

def lexB : List UInt8 → List UInt8 → Int
 | [], [] => 0
 | [], _ :: _ => -1
 | _ :: _, [] => 1
 | a :: az, b :: bs => if a = b then lexB az bs else if a < b then -1 else 1
theorem str_get (xs : List UInt8) (i : Nat) : (str xs)[i]! = xs.getD i 0 := by
 by_cases h : i < xs.length
 ·rw [getElem!_pos (str xs) i (by rw [str_size]; exact h)]
  simp [str, List.getD_eq_getElem?_getD, List.getElem?_eq_getElem h]
  rfl
 ·rw [getElem!_neg (str xs) i (by rw [str_size]; exact h)]
  simp [List.getD_eq_getElem?_getD, List.getElem?_eq_none (by omega : xs.length ≤ i)]
  rfl
theorem find_range (p : Nat → Bool) : ∀ n, (List.range (n + 1)).find? p = if p 0 then some 0 else ((List.range n).find? fun i => p (i + 1)).map (· + 1) := by
 intro n
 rw [List.range_succ_eq_map, List.find?_cons]
 cases h : p 0 with
 | true => rfl
 | false =>
  simp only [Bool.false_eq_true, if_false]
  rw [List.find?_map]
  rfl
theorem cmp_lex : ∀ (xs ys : List UInt8), xs.length = ys.length → Extern.BytealgCompare.cmp (str xs) (str ys) = lexB xs ys
 | [], [], _ => rfl
 | [], _ :: _, h => by simp at h
 | _ :: _, [], h => by simp at h
 | x :: xs, y :: ys, h => by
  have ih := cmp_lex xs ys (by simpa using h)
  unfold Extern.BytealgCompare.cmp at ih ⊢
  simp only [str_size, List.length_cons] at ih ⊢
  rw [show min (xs.length + 1) (ys.length + 1) = min xs.length ys.length + 1 by omega, find_range]
  simp only [str_get, List.getD_cons_zero, List.getD_cons_succ] at ih ⊢
  by_cases hxy : x = y
  ·subst hxy
   simp only [bne_self_eq_false, Bool.false_eq_true, if_false]
   rw [lexB, if_pos rfl, ← ih]
   cases hf : (List.range (min xs.length ys.length)).find? (fun i => xs.getD i 0 != ys.getD i 0) with
   | none =>
    simp only [Option.map_none]
    have : xs.length = ys.length := by simpa using h
    simp [this]
   | some i => simp only [Option.map_some, List.getD_cons_succ]
  ·rw [if_pos (by simpa using hxy)]
   simp only [List.getD_cons_zero]
   rw [lexB, if_neg hxy]
def valB : List UInt8 → Nat
 | [] => 0
 | b :: bs => b.toNat * 256 ^ bs.length + valB bs
theorem valB_lt : ∀ bs : List UInt8, valB bs < 256 ^ bs.length
 | [] => by simp [valB]
 | b :: bs => by
  have h1 := valB_lt bs
  have h2 := b.toNat_lt
  simp only [valB, List.length_cons, Nat.pow_succ]
  have h3 : b.toNat * 256 ^ bs.length ≤ 255 * 256 ^ bs.length := Nat.mul_le_mul_right _ (by omega)
  omega
theorem lexB_val : ∀ (xs ys : List UInt8), xs.length = ys.length → lexB xs ys = if valB xs < valB ys then -1 else if valB ys < valB xs then 1 else 0
 | [], [], _ => by simp [lexB, valB]
 | [], _ :: _, h => by simp at h
 | _ :: _, [], h => by simp at h
 | x :: xs, y :: ys, h => by
  have hl : xs.length = ys.length := by simpa using h
  have ih := lexB_val xs ys hl
  have h1 := valB_lt xs
  have h2 := valB_lt ys
  rw [hl] at h1
  have hA : valB (x :: xs) = x.toNat * 256 ^ ys.length + valB xs := by simp only [valB]; rw [hl]
  have hB : valB (y :: ys) = y.toNat * 256 ^ ys.length + valB ys := rfl
  rw [hA, hB]
  simp only [lexB]
  by_cases hxy : x = y
  ·subst hxy
   rw [if_pos rfl, ih]
   simp only [Nat.add_lt_add_iff_left]
  ·rw [if_neg hxy]
   have hne : x.toNat ≠ y.toNat := fun e => hxy (UInt8.toNat_inj.1 e)
   rcases Nat.lt_or_ge x.toNat y.toNat with hlt | hge
   ·have h3 : (x.toNat + 1) * 256 ^ ys.length ≤ y.toNat * 256 ^ ys.length := Nat.mul_le_mul_right _ hlt
    rw [Nat.add_mul, Nat.one_mul] at h3
    rw [if_pos (UInt8.lt_iff_toNat_lt.2 hlt), if_pos (by omega)]
   ·have h3 : (y.toNat + 1) * 256 ^ ys.length ≤ x.toNat * 256 ^ ys.length := Nat.mul_le_mul_right _ (by omega)
    rw [Nat.add_mul, Nat.one_mul] at h3
    rw [if_neg (by rw [UInt8.lt_iff_toNat_lt]; omega), if_neg (by omega), if_pos (by omega)]
theorem valB_inj : ∀ (xs ys : List UInt8), xs.length = ys.length → valB xs = valB ys → xs = ys
 | [], [], _, _ => rfl
 | [], _ :: _, h, _ => by simp at h
 | _ :: _, [], h, _ => by simp at h
 | x :: xs, y :: ys, h, hv => by
  have hl : xs.length = ys.length := by simpa using h
  have h1 := valB_lt xs
  have h2 := valB_lt ys
  simp only [valB] at hv
  rw [hl] at h1 hv
  have hxy : x.toNat = y.toNat := by
   rcases Nat.lt_trichotomy x.toNat y.toNat with hlt | he | hlt
   ·have h3 : (x.toNat + 1) * 256 ^ ys.length ≤ y.toNat * 256 ^ ys.length := Nat.mul_le_mul_right _ hlt
    rw [Nat.add_mul, Nat.one_mul] at h3
    omega
   ·exact he
   ·have h3 : (y.toNat + 1) * 256 ^ ys.length ≤ x.toNat * 256 ^ ys.length := Nat.mul_le_mul_right _ hlt
    rw [Nat.add_mul, Nat.one_mul] at h3
    omega
  rw [hxy] at hv
  rw [UInt8.toNat_inj.1 hxy, valB_inj xs ys hl (by omega)]
abbrev bI (a : IDV) : List UInt8 := [a 0, a 1, a 2, a 3, a 4, a 5, a 6, a 7, a 8, a 9, a 10, a 11, a 12, a 13, a 14, a 15]
/-- an identity's number -/
def valI (a : IDV) : Nat := valB (bI a)
theorem bI_inj {a b : IDV} (h : bI a = bI b) : a = b := cI_eq.1 (by
 have := congrArg (List.map u8) h
 exact this)
theorem valI_inj {a b : IDV} (h : valI a = valI b) : a = b := bI_inj (valB_inj _ _ rfl h)
def cmpI (a b : IDV) : Int := if valI a < valI b then -1 else if valI b < valI a then 1 else 0
theorem cmp_bI (a b : IDV) : Extern.BytealgCompare.cmp (str (bI a)) (str (bI b)) = cmpI a b := by
 rw [cmp_lex (bI a) (bI b) rfl, lexB_val (bI a) (bI b) rfl]
 rfl
theorem run_loadBytesE {P : Program} {w : World} {b : Nat} : ∀ (l : List UInt8) (o : Nat) (acc : ByteArray), (∀ j x, l[j]? = some x → w.cell? ⟨b, o + j, none⟩ = some (u8 x)) →
  (Extern.Bytes.loadBytes ⟨b, o, none⟩ l.length acc).run P w = .ok ⟨acc.data ++ l.toArray⟩ w
 | [], o, acc, _ => by simp [Extern.Bytes.loadBytes]
 | x :: l, o, acc, h => by
  have h0 : w.cell? ⟨b, o, none⟩ = some (u8 x) := h 0 x rfl
  have ih := run_loadBytesE (P := P) (w := w) (b := b) l (o + 1) (acc.push x) (fun j y hy => by
   have := h (j + 1) y (by simpa using hy)
   rw [show o + 1 + j = o + (j + 1) by omega]; exact this)
  have hx : ((x.toNat : Int).toNat).toUInt8 = x := by simp
  simp only [List.length_cons, Extern.Bytes.loadBytes, Sem.run_bind, run_load, h0, Result.andThen_ok, addr_add, hx]
  rw [ih]
  congr 1
  apply ByteArray.ext
  simp [ByteArray.push]
theorem run_bytesOf {P : Program} {w : World} {v : Value} {m : Nat} {bs : List UInt8} (h : Row w v m (bs.map u8)) (hl : bs.length = m) : (Extern.Bytes.bytesOf v).run P w = .ok (str bs) w := by
 obtain ⟨a, c, rfl, _, h⟩ := h
 cases a with
 | none =>
  have : bs = [] := by
   rcases h with h | ⟨b, o, ha, _⟩
   ·exact List.map_eq_nil_iff.1 h
   ·cases ha
  subst this
  rfl
 | some a =>
  rcases h with h | ⟨b, o, ha, hc⟩
  ·have := List.map_eq_nil_iff.1 h
   subst this
   simp only [List.length_nil] at hl
   subst hl
   rfl
  ·simp only [Option.some.injEq] at ha
   subst ha
   subst hl
   simp only [Extern.Bytes.bytesOf]
   rw [run_loadBytesE bs o .empty (fun j x hj => by
    have hlt := (List.getElem?_eq_some_iff.1 hj).1
    have := hc j (by simpa using hlt)
    rw [this, List.getElem?_map, hj]; rfl)]
   simp [str]
theorem run_compare {P : Program} {w : World} {v1 v2 : Value} {xs ys : List UInt8} (h1 : Row w v1 xs.length (xs.map u8)) (h2 : Row w v2 ys.length (ys.map u8)) :
  (Extern.BytealgCompare.compare #[v1, v2]).run P w = .ok (.int .i64 (Extern.BytealgCompare.cmp (str xs) (str ys))) w := by
 have e : Extern.BytealgCompare.compare #[v1, v2] = (do pure (goInt (Extern.BytealgCompare.cmp (← Extern.Bytes.bytesOf v1) (← Extern.Bytes.bytesOf v2)))) := rfl
 rw [e]
 simp only [Sem.run_bind, run_bytesOf h1 rfl, run_bytesOf h2 rfl, Result.andThen_ok, Sem.run_pure]
 rfl
theorem Bel.grown {w w' : World} (h : Bel w w') : ∃ q os', w' = Sort.grow (w.drewN q) os' := by
 refine ⟨w'.drawn - w.drawn, w'.heap.extract w.heap.size w'.heap.size, ?_⟩
 have hh : w'.heap = w.heap ++ w'.heap.extract w.heap.size w'.heap.size := by
  apply Array.ext_getElem?
  intro k
  by_cases hk : k < w.heap.size
  ·rw [Array.getElem?_append_left hk]
   exact h.block k hk
  ·rw [Array.getElem?_append_right (by omega), Array.getElem?_extract]
   by_cases hk2 : k < w'.heap.size
   ·rw [if_pos (by have := h.size; omega), show w.heap.size + (k - w.heap.size) = k by omega]
   ·rw [if_neg (by omega), Array.getElem?_eq_none (by omega)]
 have hd : w.drawn + (w'.drawn - w.drawn) = w'.drawn := by have := h.drawn; omega
 cases w'
 simp only [Sort.grow, World.drewN] at hh hd ⊢
 have h1 := h.os; have h2 := h.tape; have h3 := h.output
 simp only at h1 h2 h3
 subst h1 h2 h3
 rw [← hh, hd]
end Go.J
/-
 Identities: closed facts, and what ident's and slices' first functions do: contracts.
-/
namespace Go.Proofs.Ytoaenmlhehcjfaa
namespace Ty
open Go.J Go.RowKit
set_option linter.unusedVariables false
set_option linter.unusedSimpArgs false
theorem size_ : Try.prog.types.size + 1 = 176 + 2 := by kernel_rfl
theorem cID : Try.prog.cellsOf 23 = 16 := by kernel_rfl
theorem cU8 : Try.prog.cellsOf 5 = 1 := by kernel_rfl
theorem litsI (a : IDV) (d : Nat) : Try.prog.keyLits (d + 2) 23 (cI a) = some (lI a).flatten := lits_id u23 u5 cID cU8
theorem keyI (a : IDV) : ∃ l, keyOf Try.prog 23 (.agg (cI a).toArray) = some l := key_of size_ (by kernel_rfl) (by kernel_rfl) (by rw [cID]; rfl) (litsI a _)
theorem QI : EqL Try.prog 23 := EqL.of (m := 4) (by kernel_rfl) (by omega) (by kernel_rfl) (by kernel_rfl) (by kernel_rfl)
theorem zID : zeroT Try.prog 23 = some (.agg (cI zI).toArray) := by kernel_rfl
end Ty
open Go.J Go.RowKit
set_option maxRecDepth 4000
/-- the cells of a row of identities -/
abbrev fI (xs : List IDV) : List Value := xs.flatMap cI
theorem fI_length : ∀ xs : List IDV, (fI xs).length = xs.length * 16
 | [] => rfl
 | x :: xs => by
  have := fI_length xs
  simp only [fI, List.flatMap_cons, List.length_append, List.length_cons] at this ⊢
  simp only [List.length_nil] at this ⊢
  omega
theorem fI_at : ∀ {xs : List IDV} {i : Nat} {a : IDV}, xs[i]? = some a → ((fI xs).drop (i * 16)).take 16 = cI a
 | [], i, a, h => by simp at h
 | x :: xs, 0, a, h => by
  simp only [List.getElem?_cons_zero, Option.some.injEq] at h
  subst h
  rfl
 | x :: xs, i + 1, a, h => by
  have ih := fI_at (xs := xs) (i := i) (by simpa using h)
  rw [show (i + 1) * 16 = 16 + i * 16 by omega]
  show (((cI x ++ fI xs).drop (16 + i * 16)).take 16) = cI a
  rw [← List.drop_drop, show (cI x ++ fI xs).drop 16 = fI xs from rfl]
  exact ih
theorem rowF_at {w : World} {b o k c q i : Nat} {xs : List IDV} {a : IDV} (h : Row w (.slice (some ⟨b, o, none⟩) k c) k (fI xs)) (hi : xs[i]? = some a) (hq : q = o + i * 16) : Cells w b q (cI a) := by
 have hl : i < xs.length := (List.getElem?_eq_some_iff.1 hi).1
 have hlen := fI_length xs
 obtain ⟨b', o', c', hv, _, hc⟩ := Row.some h (by omega)
 simp only [Value.slice.injEq, Option.some.injEq, Addr.mk.injEq] at hv
 obtain ⟨⟨rfl, rfl, _⟩, _, rfl⟩ := hv
 subst hq
 intro j hj
 have hj16 : j < 16 := hj
 rw [Nat.add_assoc, hc (i * 16 + j) (by omega)]
 have e := fI_at hi
 have : (cI a)[j]? = (((fI xs).drop (i * 16)).take 16)[j]? := by rw [e]
 rw [this, List.getElem?_take_of_lt hj16, List.getElem?_drop]
theorem bcompare_spec (v1 v2 : Value) (xs ys : List UInt8) (w : World) (hr1 : Row w v1 xs.length (xs.map u8)) (hr2 : Row w v2 ys.length (ys.map u8)) :
  Calls Try.prog 59 [v1, v2].toArray w fun r w' => r = .returned (.int .i64 (Extern.BytealgCompare.cmp (str xs) (str ys))) ∧ Bel w w' := by
 refine calls_of_J (args := [v1, v2]) (e := [(0, v1), (1, v2)]) Try.func59 rfl rfl ⟨rfl, rfl, trivial⟩ (St.start w) ?_; refine JC.seq (fun K0 hK0 => ?_); refine JC.region ?_; refine J.assign rfl rfl ?_; refine J.nil ?_; refine JX.thenN (hK0 _ _ ?_); refine JC.seq (fun K1 hK1 => ?_); refine JC.region ?_; refine J.move rfl rfl ?_; refine J.move rfl rfl ?_; refine J.callX (v := .int .i64 (Extern.BytealgCompare.cmp (str xs) (str ys))) Try.func75 (by kernel_rfl) (by kernel_rfl) (by kernel_rfl) (ex := Extern.BytealgCompare.compare) (by kernel_rfl) rfl rfl (fun w1 hw => run_compare (hr1.below hw.below) (hr2.below hw.below)) ?_; refine J.assign rfl rfl ?_; refine J.nil ?_; refine JX.thenN (hK1 _ _ ?_); refine JC.ret ?_; refine JX.ret1 rfl rfl (fun w hw => ?_)
 exact ⟨rfl, hw.below⟩

theorem compare_spec (a b : IDV) (w : World) :
  Calls Try.prog 43 [.agg (cI a).toArray, .agg (cI b).toArray].toArray w fun r w' => r = .returned (.int .i64 (cmpI a b)) ∧ Bel w w' := by
 refine calls_of_J (args := [.agg (cI a).toArray, .agg (cI b).toArray]) (e := [(0, .agg (cI a).toArray), (1, .agg (cI b).toArray)]) Try.func43 rfl rfl ⟨rfl, rfl, trivial⟩ (St.start w) ?_; refine JC.seq (fun K0 hK0 => ?_); refine JC.region ?_; refine J.box rfl rfl rfl (fun b2 => ?_); refine J.box rfl rfl rfl (fun b3 => ?_); refine J.assign rfl rfl ?_; refine J.nil ?_; refine JX.thenN (hK0 _ _ ?_); refine JC.seq (fun K1 hK1 => ?_)
 apply JC.drawL 3 [Eqv (.slice (some ⟨b2, 0, none⟩) 16 16), Eqv (.slice (some ⟨b3, 0, none⟩) 16 16), Eqv (.int .i64 (cmpI a b))] Ty.mixed rfl rfl rfl (by kernel_rfl) rfl rfl (fun w w' hw hb => hw.step hb) ⟨fun _ _ _ h _ => h, fun _ _ _ h _ => h, fun _ _ _ h _ => h, trivial⟩ ?hstep ?htail
 case hstep =>
  refine ⟨fun wi => ?_, fun wi => ?_, fun wi => ?_, trivial⟩
  ·refine Fin.nil ?_; refine J.sliceAll Ty.ar23 (by rw [Ty.s5]; rfl) rfl rfl ?_
   exact J.finP rfl
  ·refine Fin.nil ?_; refine J.sliceAll Ty.ar23 (by rw [Ty.s5]; rfl) rfl rfl ?_
   exact J.finP rfl
  ·refine Fin.consE rfl (Fin.consE rfl (Fin.nil ?_))
   refine J.callD (v := .int .i64 (cmpI a b)) Ty.bd59 rfl rfl (fun w1 hw => by
    have h := bcompare_spec (.slice (some ⟨b2, 0, none⟩) 16 16) (.slice (some ⟨b3, 0, none⟩) 16 16) (bI a) (bI b) w1 (Row.own hw (.tail _ (.head _)) rfl (Nat.le_refl _)) (Row.own hw (.head _) rfl (Nat.le_refl _))
    rw [cmp_bI] at h
    exact h) ?_
   exact J.finQ rfl
 case htail =>
  refine Fin.consE rfl (Fin.consE rfl (Fin.consE rfl (Fin.nil ?_)))
  refine J.assign rfl rfl ?_; refine J.nil ?_; refine JX.thenN (hK1 _ _ ?_); refine JC.ret ?_; refine JX.ret1 rfl rfl (fun w hw => ?_)
  exact ⟨rfl, hw.below⟩

end Go.Proofs.Ytoaenmlhehcjfaa
/-
 The document's identities as two words: Wide, Less: contracts.
-/
namespace Go.Proofs.Ytoaenmlhehcjfaa
open Go.J Go.RowKit
set_option linter.unusedVariables false
set_option linter.unusedSimpArgs false
set_option maxRecDepth 4000
theorem valB_append : ∀ (xs ys : List UInt8), valB (xs ++ ys) = valB xs * 256 ^ ys.length + valB ys
 | [], ys => by simp [valB]
 | x :: xs, ys => by
  simp only [List.cons_append, valB, valB_append xs ys, List.length_append, Nat.pow_add]
  rw [Nat.add_mul, Nat.mul_assoc, Nat.add_assoc]
theorem valB_snoc (xs : List UInt8) (b : UInt8) : valB (xs ++ [b]) = valB xs * 256 + b.toNat := by
 rw [valB_append]; simp [valB]
def hiI (a : IDV) : Nat := valB ((bI a).take 8)
def loI (a : IDV) : Nat := valB ((bI a).drop 8)
theorem valI_hl (a : IDV) : valI a = hiI a * 2 ^ 64 + loI a := by
 have : bI a = (bI a).take 8 ++ (bI a).drop 8 := (List.take_append_drop 8 _).symm
 unfold valI
 rw [this, valB_append, show ((bI a).drop 8).length = 8 from rfl, show (256 : Nat) ^ 8 = 2 ^ 64 by decide]
 rfl
theorem loI_lt (a : IDV) : loI a < 18446744073709551616 := by
 have := valB_lt ((bI a).drop 8)
 simpa [loI] using this
theorem valB_take_lt (l : List UInt8) (k : Nat) : valB (l.take k) < 256 ^ k := by
 have h := valB_lt (l.take k)
 refine Nat.lt_of_lt_of_le h (Nat.pow_le_pow_right (by omega) ?_)
 rw [List.length_take]; omega
theorem valB_take_succ {l : List UInt8} {k : Nat} (h : k < l.length) : valB (l.take (k + 1)) = valB (l.take k) * 256 + (l[k]).toNat := by
 rw [take_add_one h, valB_snoc]
theorem muladd_u64 (n x : Nat) : Value.int .u64 (IntKind.u64.wrap (IntKind.u64.wrap ((n : Int) * 256) + IntKind.u64.wrap (x : Int))) = .int .u64 (((n * 256 + x) % 18446744073709551616 : Nat) : Int) := by
 congr 1
 rw [wrap_u64m, wrap_u64m, wrap_u64m]; omega
theorem take_bound {l : List UInt8} {k : Nat} (hk : k < 8) (h : k < l.length) : (valB (l.take k) * 256 + (l[k]).toNat) % 18446744073709551616 = valB (l.take (k + 1)) := by
 rw [← valB_take_succ h]
 refine Nat.mod_eq_of_lt (Nat.lt_of_lt_of_le (valB_take_lt l (k + 1)) ?_)
 exact Nat.le_trans (Nat.pow_le_pow_right (by omega) (show k + 1 ≤ 8 by omega)) (by decide)
theorem less_hl (a b : IDV) : (decide (hiI a < hiI b) || (decide (hiI a = hiI b) && decide (loI a < loI b))) = decide (valI a < valI b) := by
 have h1 := loI_lt a
 have h2 := loI_lt b
 rw [← Bool.decide_and, ← Bool.decide_or]
 refine decide_eq_decide.2 ?_
 rw [valI_hl a, valI_hl b]
 omega

theorem wide_spec (a : IDV) (w : World) :
  Calls Try.prog 50 [.agg (cI a).toArray].toArray w fun r w' => r = .returned (.tuple #[.int .u64 ((hiI a : Nat) : Int), .int .u64 ((loI a : Nat) : Int)]) ∧ Bel w w' := by
 refine calls_of_J (args := [.agg (cI a).toArray]) (e := [(0, .agg (cI a).toArray)]) Try.func50 rfl rfl ⟨rfl, trivial⟩ (St.start w) ?_; refine JC.seq (fun K0 hK0 => ?_); refine JC.region ?_; refine J.box rfl rfl rfl (fun b1 => ?_); refine J.assign rfl rfl ?_; refine J.assign rfl rfl ?_; refine J.nil ?_; refine JX.thenN (hK0 _ _ ?_); refine JC.seq (fun K1 hK1 => ?_); refine JC.region ?_; refine J.assign rfl rfl ?_; refine J.assign rfl rfl ?_; refine J.nil ?_; refine JX.thenN (hK1 _ _ ?_); refine JC.seq (fun K2 hK2 => ?_); refine JC.seq (fun K3 hK3 => ?_); refine JC.region ?_; refine J.assign rfl rfl ?_; refine J.nil ?_; refine JX.thenN (hK3 _ _ ?_); refine JC.block ?_
 refine JC.conseq (JC.cov (f := (fun k => [(1, .pointer (some ⟨b1, 0, none⟩)), (4, .int .u64 ((valB ((bI a).take k) : Nat) : Int)), (5, .int .u64 ((valB (((bI a).drop 8).take k) : Nat) : Int)), (6, .int .i64 ((k : Nat) : Int))]) 0) ⟨rfl, rfl, rfl, rfl, trivial⟩ (JC.loop (α := Nat) (fun k => [(1, .pointer (some ⟨b1, 0, none⟩)), (4, .int .u64 ((valB ((bI a).take k) : Nat) : Int)), (5, .int .u64 ((valB (((bI a).drop 8).take k) : Nat) : Int)), (6, .int .i64 ((k : Nat) : Int))]) (fun k w' => (k ≤ 8) ∧ St w [] [(b1, cb (cI a) 23)] w') (fun k => 8 - k) 0 (fun k => ?_))) (fun w hw => ⟨by omega, hw⟩)
 refine JC.pr (fun hk8 => ?_); refine JC.seq (fun K4 hK4 => ?_); refine JC.seq (fun K5 hK5 => ?_); refine JC.region ?_; refine J.move rfl rfl ?_; refine J.bin rfl rfl rfl rfl ?_; refine J.nil ?_; refine JX.thenN (hK5 _ _ ?_); refine JC.cond rfl (fun h0 => ?_) (fun h0 => ?_)
 ·have hlt : k < 8 := by simp at h0; omega
  refine JC.skip ?_; refine JX.thenN (hK4 _ _ ?_); refine JC.seq (fun K6 hK6 => ?_); refine JC.block ?_; refine JC.seq (fun K7 hK7 => ?_); refine JC.region ?_; refine J.move rfl rfl ?_; refine J.bin rfl rfl rfl rfl ?_; refine J.move rfl rfl ?_; refine J.indexAddrA Ty.ar23 Ty.s5 rfl rfl (by omega) (by omega) rfl ?_; refine J.load1 (v := u8 ((bI a)[k]'(by show _ < 16; omega))) Ty.a5 rfl (fun w1 hw => (cell_of (hw.own _ (.head _))).trans (by rw [show 0 + ((k : Int) : Int).toNat * 1 = k by omega]; show ((bI a).map u8)[k]? = _; rw [List.getElem?_map, List.getElem?_eq_getElem (show k < (bI a).length by show _ < 16; omega)]; rfl)) rfl ?_; refine J.convInt Ty.u5 Ty.u81 rfl rfl ?_; refine J.bin rfl rfl rfl rfl ?_; refine J.name 17 rfl ((muladd_u64 _ ((bI a)[k]'(by show _ < 16; omega)).toNat).trans (by rw [take_bound hlt])) ?_; refine J.assign rfl rfl ?_; refine J.nil ?_; refine JX.thenN (hK7 _ _ ?_); refine JC.region ?_; refine J.move rfl rfl ?_; refine J.bin rfl rfl rfl rfl ?_; refine J.move rfl rfl ?_
  (first | refine J.addN rfl rfl (by omega) (by omega) rfl ?_ | refine J.bin rfl rfl rfl rfl ?_)
  refine J.indexAddrA Ty.ar23 Ty.s5 rfl rfl (by omega) (by omega) rfl ?_; refine J.load1 (v := u8 ((bI a)[8 + k]'(by show _ < 16; omega))) Ty.a5 rfl (fun w1 hw => (cell_of (hw.own _ (.head _))).trans (by rw [show 0 + (8 + (k : Int) : Int).toNat * 1 = 8 + k by omega]; show ((bI a).map u8)[8 + k]? = _; rw [List.getElem?_map, List.getElem?_eq_getElem (show 8 + k < (bI a).length by show _ < 16; omega)]; rfl)) rfl ?_; refine J.convInt Ty.u5 Ty.u81 rfl rfl ?_; refine J.bin rfl rfl rfl rfl ?_
  refine J.name 25 rfl ((muladd_u64 _ ((bI a)[8 + k]'(by show _ < 16; omega)).toNat).trans (by
   have e : (bI a)[8 + k]'(by show _ < 16; omega) = ((bI a).drop 8)[k]'(by show k < 8; omega) := by rw [List.getElem_drop]
   rw [e, take_bound hlt (by show k < 8; omega)])) ?_
  refine J.assign rfl rfl ?_; refine J.nil ?_; refine JX.blockN ?_; refine JX.thenN (hK6 _ _ ?_); refine JC.region ?_; refine J.move rfl rfl ?_
  (first | refine J.addN rfl rfl (by omega) (by omega) rfl ?_ | refine J.bin rfl rfl rfl rfl ?_)
  refine J.assign rfl rfl ?_; refine J.nil ?_; refine JX.thenN ?_; refine JX.again (k + 1) ?_ ?_ ?_
  ·omega
  ·exact ⟨rfl, rfl, rfl, rfl, trivial⟩
  ·exact fun w1 hw => ⟨hlt, hw⟩
 ·have hge : k = 8 := by simp at h0; omega
  subst hge
  refine JC.exit ?_; refine JX.thenE ?_; refine JX.thenE ?_; refine JX.blockE ?_; refine JX.thenN (hK2 _ _ ?_); refine JC.seq (fun K8 hK8 => ?_); refine JC.region ?_; refine J.move rfl rfl ?_; refine J.move rfl rfl ?_; refine J.assign rfl rfl ?_; refine J.assign rfl rfl ?_; refine J.nil ?_; refine JX.thenN (hK8 _ _ ?_); refine JC.ret ?_; refine JX.ret2 rfl rfl rfl (fun w hw => ?_)
  exact ⟨rfl, hw.below⟩

theorem less_spec (a b : IDV) (w : World) :
  Calls Try.prog 21 [.agg (cI a).toArray, .agg (cI b).toArray].toArray w fun r w' => r = .returned (.bool (decide (valI a < valI b))) ∧ Bel w w' := by
 refine calls_of_J (args := [.agg (cI a).toArray, .agg (cI b).toArray]) (e := [(0, .agg (cI a).toArray), (1, .agg (cI b).toArray)]) Try.func21 rfl rfl ⟨rfl, rfl, trivial⟩ (St.start w) ?_; refine JC.seq (fun K0 hK0 => ?_); refine JC.region ?_; refine J.box rfl rfl rfl (fun b2 => ?_); refine J.box rfl rfl rfl (fun b3 => ?_); refine J.assign rfl rfl ?_; refine J.nil ?_; refine JX.thenN (hK0 _ _ ?_); refine JC.seq (fun K1 hK1 => ?_); refine JC.region ?_; refine J.loadOA (vs := cI a) Ty.a23 Ty.s23 rfl zm (by exact rfl) rfl rfl ?_; refine J.callB (v := .tuple #[.int .u64 ((hiI a : Nat) : Int), .int .u64 ((loI a : Nat) : Int)]) (fun w1 w2 hw hb => hw.step hb) Ty.bd50 rfl rfl (fun w1 hw => wide_spec a w1) ?_; refine J.move rfl rfl ?_; refine J.extract rfl rfl rfl ?_; refine J.extract rfl rfl rfl ?_; refine J.assign rfl rfl ?_; refine J.assign rfl rfl ?_; refine J.nil ?_; refine JX.thenN (hK1 _ _ ?_); refine JC.seq (fun K2 hK2 => ?_); refine JC.region ?_; refine J.loadOA (vs := cI b) Ty.a23 Ty.s23 rfl zm (by exact rfl) rfl rfl ?_; refine J.callB (v := .tuple #[.int .u64 ((hiI b : Nat) : Int), .int .u64 ((loI b : Nat) : Int)]) (fun w1 w2 hw hb => hw.step hb) Ty.bd50 rfl rfl (fun w1 hw => wide_spec b w1) ?_; refine J.move rfl rfl ?_; refine J.extract rfl rfl rfl ?_; refine J.extract rfl rfl rfl ?_; refine J.assign rfl rfl ?_; refine J.assign rfl rfl ?_; refine J.nil ?_; refine JX.thenN (hK2 _ _ ?_); refine JC.seq (fun K3 hK3 => ?_); refine JC.region ?_; refine J.move rfl rfl ?_; refine J.move rfl rfl ?_; refine J.bin rfl rfl rfl rfl ?_; refine J.name 21 rfl (show _ = Value.bool (decide (hiI a < hiI b)) by first | (congr 1; refine decide_eq_decide.2 ?_; omega) | (simp; done) | (simp; omega)) ?_; refine J.move rfl rfl ?_; refine J.split 22 rfl (fun hs22 => ?_) (fun hs22 => ?_)
 ·try simp only [decide_eq_true_eq, decide_eq_false_iff_not, beq_iff_eq, bne_iff_ne, bne_eq_false_iff_eq, ne_eq, beq_eq_false_iff_ne, Bool.not_eq_true, Bool.not_eq_false, Int.not_lt, Int.not_le] at hs22
  first
  | exact absurd hs22 (by decide)
  |skip
   first | refine J.skip rfl rfl rfl rfl rfl ?_ | refine J.skipU rfl rfl rfl rfl ?_ | (refine J.unguard rfl rfl rfl ?_; refine J.move rfl rfl ?_)
   first | refine J.skip rfl rfl rfl rfl rfl ?_ | refine J.skipU rfl rfl rfl rfl ?_ | (refine J.unguard rfl rfl rfl ?_; refine J.move rfl rfl ?_)
   first | refine J.skip rfl rfl rfl rfl rfl ?_ | refine J.skipU rfl rfl rfl rfl ?_ | (refine J.unguard rfl rfl rfl ?_; refine J.bin rfl rfl rfl rfl ?_; refine J.name 25 rfl (show _ = Value.bool (decide (hiI a = hiI b)) by first | (congr 1; refine decide_eq_decide.2 ?_; omega) | (simp; done) | (simp; omega)) ?_)
   first | refine J.skip rfl rfl rfl rfl rfl ?_ | refine J.skipU rfl rfl rfl rfl ?_ | (refine J.unguard rfl rfl rfl ?_; refine J.move rfl rfl ?_)
   first | refine J.skip rfl rfl rfl rfl rfl ?_ | refine J.skipU rfl rfl rfl rfl ?_ | (refine J.unguard rfl rfl rfl ?_; refine J.move rfl rfl ?_)
   first | refine J.skip rfl rfl rfl rfl rfl ?_ | refine J.skipU rfl rfl rfl rfl ?_ | (refine J.unguard rfl rfl rfl ?_; refine J.move rfl rfl ?_)
   first | refine J.skip rfl rfl rfl rfl rfl ?_ | refine J.skipU rfl rfl rfl rfl ?_ | (refine J.unguard rfl rfl rfl ?_; refine J.bin rfl rfl rfl rfl ?_; refine J.name 29 rfl (show _ = Value.bool (decide (loI a < loI b)) by first | (congr 1; refine decide_eq_decide.2 ?_; omega) | (simp; done) | (simp; omega)) ?_)
   first | refine J.skip rfl rfl rfl rfl rfl ?_ | refine J.skipU rfl rfl rfl rfl ?_ | (refine J.unguard rfl rfl rfl ?_; (first | refine J.pickT rfl rfl rfl ?_ | refine J.pickF rfl rfl rfl ?_))
   (first | refine J.pickT rfl rfl rfl ?_ | refine J.pickF rfl rfl rfl ?_)
   refine J.assign rfl rfl ?_; refine J.nil ?_; refine JX.thenN (hK3 _ _ ?_); refine JC.ret ?_; refine JX.ret1 rfl rfl (fun w hw => ?_)
   refine ⟨?_, hw.below⟩
   rw [← less_hl]
   simp_all
 ·try simp only [decide_eq_true_eq, decide_eq_false_iff_not, beq_iff_eq, bne_iff_ne, bne_eq_false_iff_eq, ne_eq, beq_eq_false_iff_ne, Bool.not_eq_true, Bool.not_eq_false, Int.not_lt, Int.not_le] at hs22
  first
  | exact absurd hs22 (by decide)
  |skip
   first | refine J.skip rfl rfl rfl rfl rfl ?_ | refine J.skipU rfl rfl rfl rfl ?_ | (refine J.unguard rfl rfl rfl ?_; refine J.move rfl rfl ?_)
   first | refine J.skip rfl rfl rfl rfl rfl ?_ | refine J.skipU rfl rfl rfl rfl ?_ | (refine J.unguard rfl rfl rfl ?_; refine J.move rfl rfl ?_)
   first | refine J.skip rfl rfl rfl rfl rfl ?_ | refine J.skipU rfl rfl rfl rfl ?_ | (refine J.unguard rfl rfl rfl ?_; refine J.bin rfl rfl rfl rfl ?_; refine J.name 25 rfl (show _ = Value.bool (decide (hiI a = hiI b)) by first | (congr 1; refine decide_eq_decide.2 ?_; omega) | (simp; done) | (simp; omega)) ?_)
   first | refine J.skip rfl rfl rfl rfl rfl ?_ | refine J.skipU rfl rfl rfl rfl ?_ | (refine J.unguard rfl rfl rfl ?_; refine J.move rfl rfl ?_)
   refine J.split 26 rfl (fun hs26 => ?_) (fun hs26 => ?_)
   ·try simp only [decide_eq_true_eq, decide_eq_false_iff_not, beq_iff_eq, bne_iff_ne, bne_eq_false_iff_eq, ne_eq, beq_eq_false_iff_ne, Bool.not_eq_true, Bool.not_eq_false, Int.not_lt, Int.not_le] at hs26
    first
    | exact absurd hs26 (by decide)
    |skip
     first | refine J.skip rfl rfl rfl rfl rfl ?_ | refine J.skipU rfl rfl rfl rfl ?_ | (refine J.unguard rfl rfl rfl ?_; refine J.move rfl rfl ?_)
     first | refine J.skip rfl rfl rfl rfl rfl ?_ | refine J.skipU rfl rfl rfl rfl ?_ | (refine J.unguard rfl rfl rfl ?_; refine J.move rfl rfl ?_)
     first | refine J.skip rfl rfl rfl rfl rfl ?_ | refine J.skipU rfl rfl rfl rfl ?_ | (refine J.unguard rfl rfl rfl ?_; refine J.bin rfl rfl rfl rfl ?_; refine J.name 29 rfl (show _ = Value.bool (decide (loI a < loI b)) by first | (congr 1; refine decide_eq_decide.2 ?_; omega) | (simp; done) | (simp; omega)) ?_)
     first | refine J.skip rfl rfl rfl rfl rfl ?_ | refine J.skipU rfl rfl rfl rfl ?_ | (refine J.unguard rfl rfl rfl ?_; (first | refine J.pickT rfl rfl rfl ?_ | refine J.pickF rfl rfl rfl ?_))
     (first | refine J.pickT rfl rfl rfl ?_ | refine J.pickF rfl rfl rfl ?_)
     refine J.assign rfl rfl ?_; refine J.nil ?_; refine JX.thenN (hK3 _ _ ?_); refine JC.ret ?_; refine JX.ret1 rfl rfl (fun w hw => ?_)
     refine ⟨?_, hw.below⟩
     rw [← less_hl]
     simp_all
   ·try simp only [decide_eq_true_eq, decide_eq_false_iff_not, beq_iff_eq, bne_iff_ne, bne_eq_false_iff_eq, ne_eq, beq_eq_false_iff_ne, Bool.not_eq_true, Bool.not_eq_false, Int.not_lt, Int.not_le] at hs26
    first
    | exact absurd hs26 (by decide)
    |skip
     first | refine J.skip rfl rfl rfl rfl rfl ?_ | refine J.skipU rfl rfl rfl rfl ?_ | (refine J.unguard rfl rfl rfl ?_; refine J.move rfl rfl ?_)
     first | refine J.skip rfl rfl rfl rfl rfl ?_ | refine J.skipU rfl rfl rfl rfl ?_ | (refine J.unguard rfl rfl rfl ?_; refine J.move rfl rfl ?_)
     first | refine J.skip rfl rfl rfl rfl rfl ?_ | refine J.skipU rfl rfl rfl rfl ?_ | (refine J.unguard rfl rfl rfl ?_; refine J.bin rfl rfl rfl rfl ?_; refine J.name 29 rfl (show _ = Value.bool (decide (loI a < loI b)) by first | (congr 1; refine decide_eq_decide.2 ?_; omega) | (simp; done) | (simp; omega)) ?_)
     first | refine J.skip rfl rfl rfl rfl rfl ?_ | refine J.skipU rfl rfl rfl rfl ?_ | (refine J.unguard rfl rfl rfl ?_; (first | refine J.pickT rfl rfl rfl ?_ | refine J.pickF rfl rfl rfl ?_))
     (first | refine J.pickT rfl rfl rfl ?_ | refine J.pickF rfl rfl rfl ?_)
     refine J.assign rfl rfl ?_; refine J.nil ?_; refine JX.thenN (hK3 _ _ ?_); refine JC.ret ?_; refine JX.ret1 rfl rfl (fun w hw => ?_)
     refine ⟨?_, hw.below⟩
     rw [← less_hl]
     simp_all

end Go.Proofs.Ytoaenmlhehcjfaa
/-
 Numbers and texts in bytes: wire.PutNum, PutText: contracts.
-/
namespace Go.Proofs.Ytoaenmlhehcjfaa
open Go.J Go.RowKit
set_option linter.unusedVariables false
set_option linter.unusedSimpArgs false
set_option maxRecDepth 8000
/-- how many bytes a number takes -/
def widF : Nat → Nat → Nat
 | 0, _ => 0
 | f + 1, n => if n = 0 then 0 else widF f (n / 256) + 1
def wid (n : Nat) : Nat := widF 8 n
theorem widF_le : ∀ f n, widF f n ≤ f
 | 0, _ => Nat.le_refl _
 | f + 1, n => by
  unfold widF
  have := widF_le f (n / 256)
  split <;> omega
theorem wid_le (n : Nat) : wid n ≤ 8 := widF_le 8 n
theorem widF_lt : ∀ (f n k : Nat), k < f → (k < widF f n ↔ 0 < n / 256 ^ k)
 | 0, _, k, h => by omega
 | f + 1, n, 0, _ => by
  unfold widF
  rw [Nat.pow_zero, Nat.div_one]
  split <;> omega
 | f + 1, n, k + 1, h => by
  unfold widF
  by_cases h0 : n = 0
  ·rw [if_pos h0, h0, Nat.zero_div]; omega
  ·rw [if_neg h0, Nat.add_lt_add_iff_right, widF_lt f (n / 256) k (by omega), Nat.div_div_eq_div_mul, Nat.pow_succ, Nat.mul_comm]
theorem wid_lt {n k : Nat} (h : k < 8) : k < wid n ↔ 0 < n / 2 ^ (8 * k) := by
 rw [Nat.pow_mul]
 exact widF_lt 8 n k h
theorem wid_pow : ∀ (f n : Nat), n < 256 ^ f → n < 256 ^ widF f n
 | 0, n, h => h
 | f + 1, n, h => by
  unfold widF
  by_cases h0 : n = 0
  ·rw [if_pos h0, h0]; decide
  ·rw [if_neg h0, Nat.pow_succ]
   have := wid_pow f (n / 256) (by rw [Nat.pow_succ] at h; omega)
   omega
theorem wid_ub {n : Nat} (h : n < 18446744073709551616) : n < 256 ^ wid n := wid_pow 8 n h
/-- a number's bytes -/
def numB (n : Nat) : List UInt8 := UInt8.ofNat (wid n) :: (List.range (wid n)).map (fun i => UInt8.ofNat (n / 2 ^ (8 * (wid n - 1 - i))))
def textB (bs : List UInt8) : List UInt8 := numB bs.length ++ bs
theorem numB_len (n : Nat) : (numB n).length = 1 + wid n := by simp [numB]; omega
theorem numB_le (n : Nat) : (numB n).length ≤ 9 := by
 have := wid_le n
 rw [numB_len]; omega
theorem numB_0 (n : Nat) : (numB n).take 1 = [UInt8.ofNat (wid n)] := rfl
theorem numB_snoc {n i : Nat} (h : i < wid n) : (numB n).take (1 + (i + 1)) = (numB n).take (1 + i) ++ [UInt8.ofNat (n / 2 ^ (8 * (wid n - 1 - i)))] := by
 rw [show 1 + (i + 1) = (1 + i) + 1 by omega, take_add_one (by rw [numB_len]; omega)]
 congr 2
 simp only [numB, Nat.add_comm 1 i, List.getElem_cons_succ, List.getElem_map, List.getElem_range]
theorem nums_le (ns : List Nat) : (ns.flatMap numB).length ≤ 9 * ns.length := by
 induction ns with
 | nil => exact Nat.le_refl _
 | cons n ns ih =>
  rw [List.flatMap_cons, List.length_append, List.length_cons]
  have := numB_le n
  omega
theorem nums_snoc {ns : List Nat} {k n : Nat} (h : ns[k]? = some n) : (ns.take (k + 1)).flatMap numB = (ns.take k).flatMap numB ++ numB n := by
 rw [List.take_add_one, h, List.flatMap_append]
 simp
theorem shr_nat (n j : Nat) {q : Int} (hq : q = ((8 * j : Nat) : Int)) (hj : j ≤ 7) : Int.fdiv ((n : Nat) : Int) (2 ^ (min q.toNat IntKind.u64.bits)) = ((n / 2 ^ (8 * j) : Nat) : Int) := by
 have e1 : min q.toNat IntKind.u64.bits = 8 * j := by
  have : IntKind.u64.bits = 64 := rfl
  omega
 have e2 : ((2 : Int) ^ (8 * j)) = ((2 ^ (8 * j) : Nat) : Int) := by simp
 rw [e1, e2, Int.fdiv_eq_ediv_of_nonneg _ (Int.natCast_nonneg _)]
 rfl
theorem conv_u8 (n : Nat) : Value.int .u8 (IntKind.u8.wrap ((n : Nat) : Int)) = u8 (UInt8.ofNat n) := by
 rw [wrap_u8m]
 show Value.int .u8 _ = Value.int .u8 _
 congr 1 <;> simp
theorem byte_num (n i : Nat) (h : i < wid n) {q : Int} (hq : q = 8 * ((wid n : Int) - 1 - (i : Int))) : Value.int .u8 (IntKind.u8.wrap (Int.fdiv ((n : Nat) : Int) (2 ^ (min q.toNat IntKind.u64.bits)))) = u8 (UInt8.ofNat (n / 2 ^ (8 * (wid n - 1 - i)))) := by
 have := wid_le n
 rw [shr_nat n (wid n - 1 - i) (by omega) (by omega), conv_u8]
structure ByS where
 i : Nat
 v : Value
 lp : List (Nat × Obj)

theorem putNum_spec (v : Value) (ns : List Nat) (w : World) (hr : Row w v ns.length (ns.map fun n => .int .u64 ((n : Nat) : Int))) (hn : ns.length ≤ 1000) :
  Calls Try.prog 39 [v].toArray w fun r w' => ∃ x : Value × List (Nat × Obj), r = .returned x.1 ∧ Vec 5 1 x.1 (ns.flatMap numB).length ((ns.flatMap numB).map u8) x.2 ∧ St w [] x.2 w' := by
 obtain ⟨a, c, rfl, hc, hra⟩ := hr
 refine calls_of_J (args := [.slice a ns.length c]) (e := [(0, .slice a ns.length c)]) Try.func39 rfl rfl ⟨rfl, trivial⟩ (St.start w) ?_; refine JC.seq (fun K0 hK0 => ?_); refine JC.region ?_; refine J.assign rfl rfl ?_; refine J.nil ?_; refine JX.thenN (hK0 _ _ ?_); refine JC.seq (fun K1 hK1 => ?_); refine JC.region ?_; refine J.assign rfl rfl ?_; refine J.nil ?_; refine JX.thenN (hK1 _ _ ?_); refine JC.seq (fun K2 hK2 => ?_); refine JC.seq (fun K3 hK3 => ?_); refine JC.region ?_; refine J.move rfl rfl ?_; refine J.lenS rfl Ty.u118 rfl rfl ?_; refine J.move rfl rfl ?_; refine J.nil ?_; refine JX.thenN (hK3 _ _ ?_); refine JC.block ?_
 refine JC.conseq (JC.cov (f := (fun st => [(8, .slice a ns.length c), (9, .int .i64 ((ns.length : Nat) : Int)), (10, .int .i64 ((st.i : Nat) : Int)), (3, st.v)]) (⟨0, .slice none 0 0, []⟩ : ByS)) ⟨rfl, rfl, rfl, rfl, trivial⟩ (JC.loop (α := ByS) (fun st => [(8, .slice a ns.length c), (9, .int .i64 ((ns.length : Nat) : Int)), (10, .int .i64 ((st.i : Nat) : Int)), (3, st.v)]) (fun st w' => (st.i ≤ ns.length ∧ Vec 5 1 st.v (((ns.take st.i).flatMap numB)).length ((((ns.take st.i).flatMap numB)).map u8) st.lp) ∧ St w [] st.lp w') (fun st => ns.length - st.i) (⟨0, .slice none 0 0, []⟩ : ByS) (fun st => ?_))) (fun w hw => ⟨⟨Nat.zero_le _, Vec.nil _ _⟩, hw⟩)
 obtain ⟨k, v3, l3⟩ := st
 refine JC.pr (fun hI => ?_)
 obtain ⟨hk, hv3⟩ := hI
 try simp only at hk hv3 ⊢
 refine JC.seq (fun K4 hK4 => ?_); refine JC.region ?_; refine J.bin rfl rfl rfl rfl ?_; refine J.nil ?_; refine JX.thenN (hK4 _ _ ?_); refine JC.seq (fun K5 hK5 => ?_); refine JC.cond rfl (fun h0 => ?_) (fun h0 => ?_)
 ·have hlt : k < ns.length := by simp at h0; omega
  obtain ⟨nk, hnk⟩ : ∃ x, ns[k]? = some x := ⟨_, List.getElem?_eq_getElem hlt⟩
  obtain ⟨b, o, rfl, hcl⟩ : ∃ b o, a = some ⟨b, o, none⟩ ∧ Cells w b o (ns.map fun n => .int .u64 ((n : Nat) : Int)) := by
   rcases hra with h | h
   ·have h2 := congrArg List.length h; simp at h2; rw [h2] at hlt; simp at hlt
   ·exact h
  have hcell : w.cell? ⟨b, o + (k : Int).toNat * 1, none⟩ = some (.int .u64 ((nk : Nat) : Int)) := by
   rw [Int.toNat_natCast, Nat.mul_one, hcl k (by rw [List.length_map]; exact hlt), List.getElem?_map, hnk]; rfl
  have hwl := wid_le nk
  have hfl : ((ns.take k).flatMap numB).length ≤ 9000 := by
   have := nums_le (ns.take k)
   rw [List.length_take] at this
   omega
  refine JC.skip ?_; refine JX.thenN (hK5 _ _ ?_); refine JC.seq (fun K6 hK6 => ?_); refine JC.block ?_; refine JC.seq (fun K7 hK7 => ?_); refine JC.region ?_; refine J.indexAddrS Ty.el118 Ty.s81 rfl rfl (by omega) (by omega) rfl ?_; refine J.loadR Ty.a81 rfl hcell (by simp) rfl ?_; refine J.assign rfl rfl ?_; refine J.nil ?_; refine JX.thenN (hK7 _ _ ?_); refine JC.seq (fun K8 hK8 => ?_); refine JC.region ?_; refine J.assign rfl rfl ?_; refine J.nil ?_; refine JX.thenN (hK8 _ _ ?_); refine JC.seqCut (α := Unit) (fun _ => [(8, .slice (some ⟨b, o, none⟩) ns.length c), (9, .int .i64 ((ns.length : Nat) : Int)), (10, .int .i64 ((k : Nat) : Int)), (3, v3), (5, .int .u64 ((nk : Nat) : Int)), (6, .int .i64 ((wid nk : Nat) : Int))]) (fun _ w' => St w [] l3 w') (fun _ => ?_) (fun K9 hK9 => ?_)
  ·refine JC.seq (fun K10 hK10 => ?_); refine JC.region ?_; refine J.move rfl rfl ?_; refine J.move rfl rfl ?_; refine J.convInt Ty.u3 Ty.u5 rfl rfl ?_; refine J.name 27 rfl (conv_u8 (wid nk)) ?_; refine J.buildSl Ty.el26 Ty.s5 Ty.z5 rfl rfl rfl rfl rfl rfl rfl (fun b28 => ?_); refine J.perm (l3 ++ ((b28, cb ([UInt8.ofNat (wid nk)].map u8) 5) :: [])) zp ?_; refine J.append (lp := l3) (xs := (((ns.take k).flatMap numB)).map u8) (ys := ([UInt8.ofNat (wid nk)]).map u8) (k := (((ns.take k).flatMap numB)).length) (m := ([UInt8.ofNat (wid nk)]).length) Ty.el26 Ty.s5 Ty.b5 Ty.z5 rfl (.inl ⟨5, Ty.u26⟩) rfl rfl hv3 (fun w1 hw => .inl (Row.own (cs := ([UInt8.ofNat (wid nk)]).map u8) (tb := 5) (fr := (0, 0)) hw (List.mem_append_right _ (.head _)) (List.take_of_length_le (Nat.le_refl _)) (Nat.le_refl _))) (by rw [List.length_map, Nat.mul_one]) (one_u8 _) (by simp only [List.length_singleton]; omega) (by simp only [List.length_singleton]; omega) rfl (fun v29 l29 hv29 => ?_)
   rw [← List.map_append, ← List.length_append] at hv29
   rw [← numB_0] at hv29
   refine J.assign rfl rfl ?_; refine J.nil ?_; refine JX.thenN (hK10 _ _ ?_); refine JC.seq (fun K11 hK11 => ?_); refine JC.region ?_; refine J.move rfl rfl ?_; refine J.move rfl rfl ?_; refine J.nil ?_; refine JX.thenN (hK11 _ _ ?_); refine JC.block ?_
   refine JC.conseq (JC.cov (f := (fun st => [(8, .slice (some ⟨b, o, none⟩) ns.length c), (9, .int .i64 ((ns.length : Nat) : Int)), (10, .int .i64 ((k : Nat) : Int)), (5, .int .u64 ((nk : Nat) : Int)), (6, .int .i64 ((wid nk : Nat) : Int)), (30, .int .i64 ((wid nk : Nat) : Int)), (31, .int .i64 ((st.i : Nat) : Int)), (3, st.v)]) (⟨0, v29, l29⟩ : ByS)) ⟨rfl, rfl, rfl, rfl, rfl, rfl, rfl, rfl, trivial⟩ (JC.loop (α := ByS) (fun st => [(8, .slice (some ⟨b, o, none⟩) ns.length c), (9, .int .i64 ((ns.length : Nat) : Int)), (10, .int .i64 ((k : Nat) : Int)), (5, .int .u64 ((nk : Nat) : Int)), (6, .int .i64 ((wid nk : Nat) : Int)), (30, .int .i64 ((wid nk : Nat) : Int)), (31, .int .i64 ((st.i : Nat) : Int)), (3, st.v)]) (fun st w' => (st.i ≤ wid nk ∧ Vec 5 1 st.v ((((ns.take k).flatMap numB) ++ (numB nk).take (1 + st.i))).length (((((ns.take k).flatMap numB) ++ (numB nk).take (1 + st.i))).map u8) st.lp) ∧ St w [] st.lp w') (fun st => wid nk - st.i) (⟨0, v29, l29⟩ : ByS) (fun st => ?_))) (fun w hw => ⟨⟨Nat.zero_le _, hv29⟩, hw.drop (List.sublist_append_left _ _)⟩)
   obtain ⟨i, v4, l4⟩ := st
   refine JC.pr (fun hI => ?_)
   obtain ⟨hi, hv4⟩ := hI
   try simp only at hi hv4 ⊢
   have hwl := wid_le nk
   have hfl : ((ns.take k).flatMap numB).length ≤ 9000 := by
    have := nums_le (ns.take k)
    rw [List.length_take] at this
    omega
   have hnl := numB_len nk
   refine JC.seq (fun K12 hK12 => ?_); refine JC.region ?_; refine J.bin rfl rfl rfl rfl ?_; refine J.nil ?_; refine JX.thenN (hK12 _ _ ?_); refine JC.seq (fun K13 hK13 => ?_); refine JC.cond rfl (fun h2 => ?_) (fun h2 => ?_)
   ·have hil : i < wid nk := by simp at h2; omega
    refine JC.skip ?_; refine JX.thenN (hK13 _ _ ?_); refine JC.seq (fun K14 hK14 => ?_); refine JC.block ?_; refine JC.seq (fun K15 hK15 => ?_); refine JC.region ?_; refine J.move rfl rfl ?_; refine J.assign rfl rfl ?_; refine J.nil ?_; refine JX.thenN (hK15 _ _ ?_); refine JC.region ?_; refine J.move rfl rfl ?_; refine J.move rfl rfl ?_; refine J.move rfl rfl ?_; refine J.subN rfl rfl (by omega) (by omega) rfl ?_; refine J.move rfl rfl ?_; refine J.subN rfl rfl (by omega) (by omega) rfl ?_; refine J.mulN rfl rfl (by omega) (by omega) rfl ?_; refine J.shrN rfl rfl (by omega) rfl ?_; refine J.convInt Ty.u81 Ty.u5 rfl rfl ?_; refine J.name 42 rfl (byte_num nk i hil rfl) ?_; refine J.buildSl Ty.el26 Ty.s5 Ty.z5 rfl rfl rfl rfl rfl rfl rfl (fun b43 => ?_); refine J.perm (l4 ++ ((b43, cb ([UInt8.ofNat (nk / 2 ^ (8 * (wid nk - 1 - i)))].map u8) 5) :: [])) zp ?_; refine J.append (lp := l4) (xs := ((((ns.take k).flatMap numB) ++ (numB nk).take (1 + i))).map u8) (ys := ([UInt8.ofNat (nk / 2 ^ (8 * (wid nk - 1 - i)))]).map u8) (k := ((((ns.take k).flatMap numB) ++ (numB nk).take (1 + i))).length) (m := ([UInt8.ofNat (nk / 2 ^ (8 * (wid nk - 1 - i)))]).length) Ty.el26 Ty.s5 Ty.b5 Ty.z5 rfl (.inl ⟨5, Ty.u26⟩) rfl rfl hv4 (fun w1 hw => .inl (Row.own (cs := ([UInt8.ofNat (nk / 2 ^ (8 * (wid nk - 1 - i)))]).map u8) (tb := 5) (fr := (0, 0)) hw (List.mem_append_right _ (.head _)) (List.take_of_length_le (Nat.le_refl _)) (Nat.le_refl _))) (by rw [List.length_map, Nat.mul_one]) (one_u8 _) (by simp only [List.length_singleton, List.length_append, List.length_take]; omega) (by simp only [List.length_singleton, List.length_append, List.length_take]; omega) rfl (fun v44 l44 hv44 => ?_)
    rw [← List.map_append, ← List.length_append] at hv44
    rw [List.append_assoc, ← numB_snoc hil] at hv44
    refine J.assign rfl rfl ?_; refine J.nil ?_; refine JX.blockN ?_; refine JX.thenN (hK14 _ _ ?_); refine JC.region ?_
    (first | refine J.addN rfl rfl (by omega) (by omega) rfl ?_ | refine J.bin rfl rfl rfl rfl ?_)
    refine J.move rfl rfl ?_; refine J.nil ?_; refine JX.thenN ?_; refine JX.again (⟨i + 1, v44, l44⟩ : ByS) ?_ ?_ ?_
    ·simp only; omega
    ·exact ⟨rfl, rfl, rfl, rfl, rfl, rfl, rfl, rfl, trivial⟩
    ·exact fun w1 hw => ⟨⟨hil, hv44⟩, hw.drop (List.sublist_append_left _ _)⟩
   ·have hie : i = wid nk := by simp at h2; omega
    rw [hie, List.take_of_length_le (l := numB nk) (by rw [numB_len]; exact Nat.le_refl _), ← nums_snoc hnk] at hv4
    refine JC.exit ?_; refine JX.thenE ?_; refine JX.thenE ?_; refine JX.blockE ?_; refine JX.blockN ?_; refine JX.thenN (hK6 _ _ ?_); refine JC.region ?_
    (first | refine J.addN rfl rfl (by omega) (by omega) rfl ?_ | refine J.bin rfl rfl rfl rfl ?_)
    refine J.move rfl rfl ?_; refine J.nil ?_; refine JX.thenN ?_; refine JX.again (⟨k + 1, v4, l4⟩ : ByS) ?_ ?_ ?_
    ·simp only; omega
    ·exact ⟨rfl, rfl, rfl, rfl, trivial⟩
    ·exact fun w1 hw => ⟨⟨hlt, hv4⟩, hw⟩
  ·refine JC.block ?_
   refine JC.conseq (JC.cov (f := (fun j => [(8, .slice (some ⟨b, o, none⟩) ns.length c), (9, .int .i64 ((ns.length : Nat) : Int)), (10, .int .i64 ((k : Nat) : Int)), (3, v3), (5, .int .u64 ((nk : Nat) : Int)), (6, .int .i64 ((j : Nat) : Int))]) 0) ⟨rfl, rfl, rfl, rfl, rfl, rfl, trivial⟩ (JC.loop (α := Nat) (fun j => [(8, .slice (some ⟨b, o, none⟩) ns.length c), (9, .int .i64 ((ns.length : Nat) : Int)), (10, .int .i64 ((k : Nat) : Int)), (3, v3), (5, .int .u64 ((nk : Nat) : Int)), (6, .int .i64 ((j : Nat) : Int))]) (fun j w' => (j ≤ wid nk) ∧ St w [] l3 w') (fun j => wid nk - j) 0 (fun j => ?_))) (fun w hw => ⟨Nat.zero_le _, hw⟩)
   refine JC.pr (fun hj => ?_); refine JC.seq (fun K16 hK16 => ?_); refine JC.seq (fun K17 hK17 => ?_)
   by_cases h8 : j < 8
   ·refine JC.region ?_; refine J.move rfl rfl ?_; refine J.bin rfl rfl rfl rfl ?_; refine J.name 15 rfl (show _ = Value.bool true by simp; omega) ?_; refine J.move rfl rfl ?_
    first | refine J.skip rfl rfl rfl rfl rfl ?_ | refine J.skipU rfl rfl rfl rfl ?_ | (refine J.unguard rfl rfl rfl ?_; refine J.move rfl rfl ?_)
    first | refine J.skip rfl rfl rfl rfl rfl ?_ | refine J.skipU rfl rfl rfl rfl ?_ | (refine J.unguard rfl rfl rfl ?_; refine J.move rfl rfl ?_)
    refine J.unguard rfl rfl rfl ?_; refine J.mulN rfl rfl (by omega) (by omega) rfl ?_; refine J.name 19 rfl (show _ = Value.int .i64 ((8 * j : Nat) : Int) from congrArg (Value.int .i64) (by omega)) ?_; refine J.unguard rfl rfl rfl ?_; refine J.shrN rfl rfl (by omega) rfl ?_; refine J.name 20 rfl (show _ = Value.int .u64 ((nk / 2 ^ (8 * j) : Nat) : Int) from congrArg (Value.int .u64) (shr_nat nk j rfl (by omega))) ?_; refine J.unguard rfl rfl rfl ?_; refine J.bin rfl rfl rfl rfl ?_; refine J.name 21 rfl (show _ = Value.bool (decide (j < wid nk)) from congrArg Value.bool (decide_eq_decide.2 ((show ((nk / 2 ^ (8 * j) : Nat) : Int) > 0 ↔ 0 < nk / 2 ^ (8 * j) by omega).trans (wid_lt h8).symm))) ?_
    (first | refine J.pickT rfl rfl rfl ?_ | refine J.pickF rfl rfl rfl ?_)
    refine J.nil ?_; refine JX.thenN (hK17 _ _ ?_); refine JC.cond rfl (fun h1 => ?_) (fun h1 => ?_)
    ·have hjl : j < wid nk := by simpa using h1
     refine JC.skip ?_; refine JX.thenN (hK16 _ _ ?_); refine JC.block ?_; refine JC.region ?_; refine J.move rfl rfl ?_
     (first | refine J.addN rfl rfl (by omega) (by omega) rfl ?_ | refine J.bin rfl rfl rfl rfl ?_)
     refine J.assign rfl rfl ?_; refine J.nil ?_; refine JX.blockN ?_; refine JX.thenN ?_; refine JX.again (j + 1) ?_ ?_ ?_
     ·omega
     ·exact ⟨rfl, rfl, rfl, rfl, rfl, rfl, trivial⟩
     ·exact fun w1 hw => ⟨hjl, hw⟩
    ·have hje : j = wid nk := by simp at h1; omega
     refine JC.exit ?_; refine JX.thenE ?_; refine JX.thenE ?_; refine JX.blockE ?_; refine JX.thenN ?_
     exact JX.cut (hK9 ()) ⟨rfl, rfl, rfl, rfl, rfl, by rw [← hje]; rfl, trivial⟩ (fun w1 hw => hw)
   ·have hje : j = wid nk := by have := wid_le nk; omega
    refine JC.region ?_; refine J.move rfl rfl ?_; refine J.bin rfl rfl rfl rfl ?_; refine J.name 15 rfl (show _ = Value.bool false by simp; omega) ?_; refine J.move rfl rfl ?_
    first | refine J.skip rfl rfl rfl rfl rfl ?_ | refine J.skipU rfl rfl rfl rfl ?_ | (refine J.unguard rfl rfl rfl ?_; refine J.move rfl rfl ?_)
    first | refine J.skip rfl rfl rfl rfl rfl ?_ | refine J.skipU rfl rfl rfl rfl ?_ | (refine J.unguard rfl rfl rfl ?_; refine J.move rfl rfl ?_)
    first | refine J.skip rfl rfl rfl rfl rfl ?_ | refine J.skipU rfl rfl rfl rfl ?_ | (refine J.unguard rfl rfl rfl ?_; (first | refine J.mulN rfl rfl (by omega) (by omega) rfl ?_ | refine J.bin rfl rfl rfl rfl ?_))
    first | refine J.skip rfl rfl rfl rfl rfl ?_ | refine J.skipU rfl rfl rfl rfl ?_ | (refine J.unguard rfl rfl rfl ?_; refine J.bin rfl rfl rfl rfl ?_)
    first | refine J.skip rfl rfl rfl rfl rfl ?_ | refine J.skipU rfl rfl rfl rfl ?_ | (refine J.unguard rfl rfl rfl ?_; refine J.bin rfl rfl rfl rfl ?_)
    (first | refine J.pickT rfl rfl rfl ?_ | refine J.pickF rfl rfl rfl ?_)
    refine J.nil ?_; refine JX.thenN (hK17 _ _ ?_)
    first | refine JC.condF rfl ?_ | refine JC.cond rfl (fun h => by first | (exfalso; simp at h; omega) | (simp at h)) (fun _ => ?_)
    refine JC.exit ?_; refine JX.thenE ?_; refine JX.thenE ?_; refine JX.blockE ?_; refine JX.thenN ?_
    exact JX.cut (hK9 ()) ⟨rfl, rfl, rfl, rfl, rfl, by rw [← hje]; rfl, trivial⟩ (fun w1 hw => hw)
 ·have hge : k = ns.length := by simp at h0; omega
  rw [hge, List.take_of_length_le (Nat.le_refl _)] at hv3
  refine JC.exit ?_; refine JX.thenE ?_; refine JX.thenE ?_; refine JX.blockE ?_; refine JX.thenN (hK2 _ _ ?_); refine JC.seq (fun K18 hK18 => ?_); refine JC.region ?_; refine J.move rfl rfl ?_; refine J.assign rfl rfl ?_; refine J.nil ?_; refine JX.thenN (hK18 _ _ ?_); refine JC.ret ?_; refine JX.ret1 rfl rfl (fun w hw => ?_)
  exact ⟨(v3, l3), rfl, hv3, hw⟩

theorem putText_spec (v sv : Value) (bs : List UInt8) (w : World) (hr : Row w v 1 [sv]) (hs : Row w sv bs.length (bs.map u8)) (hl : bs.length ≤ 140737488351232) :
  Calls Try.prog 40 [v].toArray w fun r w' => ∃ x : Value × List (Nat × Obj), r = .returned x.1 ∧ Vec 5 1 x.1 (textB bs).length ((textB bs).map u8) x.2 ∧ St w [] x.2 w' := by
 obtain ⟨b, o, c, rfl, hc, hcl⟩ := hr.some (by simp)
 obtain ⟨as_, cs_, rfl, hcs, _⟩ := id hs
 refine calls_of_J (args := [.slice (some ⟨b, o, none⟩) 1 c]) (e := [(0, .slice (some ⟨b, o, none⟩) 1 c)]) Try.func40 rfl rfl ⟨rfl, trivial⟩ (St.start w) ?_; refine JC.seq (fun K0 hK0 => ?_); refine JC.region ?_; refine J.assign rfl rfl ?_; refine J.nil ?_; refine JX.thenN (hK0 _ _ ?_); refine JC.seq (fun K1 hK1 => ?_); refine JC.region ?_; refine J.assign rfl rfl ?_; refine J.nil ?_; refine JX.thenN (hK1 _ _ ?_); refine JC.seq (fun K2 hK2 => ?_); refine JC.seq (fun K3 hK3 => ?_); refine JC.region ?_; refine J.move rfl rfl ?_; refine J.lenS rfl Ty.u57 rfl rfl ?_; refine J.move rfl rfl ?_; refine J.nil ?_; refine JX.thenN (hK3 _ _ ?_); refine JC.block ?_
 refine JC.conseq (JC.cov (f := (fun st => [(6, .slice (some ⟨b, o, none⟩) 1 c), (7, .int .i64 1), (8, .int .i64 ((st.i : Nat) : Int)), (3, st.v)]) (⟨0, .slice none 0 0, []⟩ : ByS)) ⟨rfl, rfl, rfl, rfl, trivial⟩ (JC.loop (α := ByS) (fun st => [(6, .slice (some ⟨b, o, none⟩) 1 c), (7, .int .i64 1), (8, .int .i64 ((st.i : Nat) : Int)), (3, st.v)]) (fun st w' => (st.i ≤ 1 ∧ Vec 5 1 st.v (((List.replicate st.i bs).flatMap textB)).length ((((List.replicate st.i bs).flatMap textB)).map u8) st.lp) ∧ St w [] st.lp w') (fun st => 1 - st.i) (⟨0, .slice none 0 0, []⟩ : ByS) (fun st => ?_))) (fun w hw => ⟨⟨Nat.zero_le _, Vec.nil _ _⟩, hw⟩)
 obtain ⟨k, v3, l3⟩ := st
 refine JC.pr (fun hI => ?_)
 obtain ⟨hk, hv3⟩ := hI
 try simp only at hk hv3 ⊢
 refine JC.seq (fun K4 hK4 => ?_); refine JC.region ?_; refine J.bin rfl rfl rfl rfl ?_; refine J.nil ?_; refine JX.thenN (hK4 _ _ ?_); refine JC.seq (fun K5 hK5 => ?_); refine JC.cond rfl (fun h0 => ?_) (fun h0 => ?_)
 ·have hk0 : k = 0 := by simp at h0; omega
  subst hk0
  refine JC.skip ?_; refine JX.thenN (hK5 _ _ ?_); refine JC.seq (fun K6 hK6 => ?_); refine JC.block ?_; refine JC.seq (fun K7 hK7 => ?_); refine JC.region ?_; refine J.indexAddrS Ty.el57 Ty.s26 rfl rfl (by omega) (by omega) rfl ?_; refine J.loadR (v := .slice as_ bs.length cs_) Ty.a26 rfl (hcl 0 Nat.one_pos) (by simp) rfl ?_; refine J.assign rfl rfl ?_; refine J.nil ?_; refine JX.thenN (hK7 _ _ ?_); refine JC.region ?_; refine J.move rfl rfl ?_; refine J.move rfl rfl ?_; refine J.lenS rfl Ty.u26 rfl rfl ?_; refine J.convInt Ty.u3 Ty.u81 rfl rfl ?_; refine J.name 15 rfl (show _ = Value.int .u64 ((bs.length : Nat) : Int) from congrArg (Value.int .u64) (wrap_u64 (by omega) (by omega))) ?_; refine J.buildSl Ty.el118 Ty.s81 Ty.z81 rfl rfl rfl rfl rfl rfl rfl (fun b16 => ?_); refine J.perm ([] ++ ((b16, cb [.int .u64 ((bs.length : Nat) : Int)] 81) :: l3)) (.refl _) ?_; refine J.callS (α := Value × List (Nat × Obj)) (V := (·.1)) (Pr := fun x => Vec 5 1 x.1 ([bs.length].flatMap numB).length (([bs.length].flatMap numB).map u8) x.2) (L := (·.2)) (l1 := []) Ty.bd39 rfl rfl (fun w1 hw => putNum_spec _ [bs.length] w1 (Row.own (cs := [.int .u64 ((bs.length : Nat) : Int)]) (tb := 81) (fr := (0, 0)) hw (.head _) rfl (Nat.le_refl _)) (by simp)) (fun x hv17 => ?_)
  obtain ⟨v17, l17⟩ := x
  simp only at hv17 ⊢
  rw [show [bs.length].flatMap numB = (numB bs.length) by simp] at hv17
  have hnl := numB_le bs.length
  refine J.perm (l3 ++ (l17 ++ [(b16, cb [.int .u64 ((bs.length : Nat) : Int)] 81)])) zp ?_; refine J.append (lp := l3) (xs := (((List.replicate 0 bs).flatMap textB)).map u8) (ys := ((numB bs.length)).map u8) (k := (((List.replicate 0 bs).flatMap textB)).length) (m := ((numB bs.length)).length) Ty.el26 Ty.s5 Ty.b5 Ty.z5 rfl (.inl ⟨5, Ty.u26⟩) rfl rfl hv3 (fun w1 hw => .inl (hv17.row (l := l3 ++ [(b16, cb [.int .u64 ((bs.length : Nat) : Int)] 81)]) (hw.perm zp))) (by rw [List.length_map, Nat.mul_one]) (one_u8 _) (by simp only [List.replicate_zero, List.flatMap_nil, List.length_nil]; omega) (by simp only [List.replicate_zero, List.flatMap_nil, List.length_nil]; omega) rfl (fun v18 l18 hv18 => ?_)
  rw [← List.map_append, ← List.length_append] at hv18
    
  refine J.move rfl rfl ?_; refine J.perm (l18 ++ (l17 ++ [(b16, cb [.int .u64 ((bs.length : Nat) : Int)] 81)])) zp ?_; refine J.append (lp := l18) (xs := (((List.replicate 0 bs).flatMap textB) ++ (numB bs.length)).map u8) (ys := (bs).map u8) (k := (((List.replicate 0 bs).flatMap textB) ++ (numB bs.length)).length) (m := (bs).length) Ty.el26 Ty.s5 Ty.b5 Ty.z5 rfl (.inl ⟨5, Ty.u26⟩) rfl rfl hv18 (fun w1 hw => .inl (hs.below (hw.drop (List.nil_sublist _)).below)) (by rw [List.length_map, Nat.mul_one]) (one_u8 _) (by simp only [List.replicate_zero, List.flatMap_nil, List.nil_append]; omega) (by simp only [List.replicate_zero, List.flatMap_nil, List.nil_append]; omega) rfl (fun v20 l20 hv20 => ?_)
  rw [← List.map_append, ← List.length_append] at hv20
  rw [show ((List.replicate 0 bs).flatMap textB) ++ (numB bs.length) ++ bs = ((List.replicate (0 + 1) bs).flatMap textB) by simp [textB]] at hv20
  refine J.assign rfl rfl ?_; refine J.nil ?_; refine JX.blockN ?_; refine JX.thenN (hK6 _ _ ?_); refine JC.region ?_
  (first | refine J.addN rfl rfl (by omega) (by omega) rfl ?_ | refine J.bin rfl rfl rfl rfl ?_)
  refine J.move rfl rfl ?_; refine J.nil ?_; refine JX.thenN ?_; refine JX.again (⟨0 + 1, v20, l20⟩ : ByS) ?_ ?_ ?_
  ·simp only; omega
  ·exact ⟨rfl, rfl, rfl, rfl, trivial⟩
  ·exact fun w1 hw => ⟨⟨Nat.le_refl _, hv20⟩, hw.drop (List.sublist_append_left _ _)⟩
 ·have hk1 : k = 1 := by simp at h0; omega
  subst hk1
  rw [show ((List.replicate 1 bs).flatMap textB) = textB bs by simp] at hv3
  refine JC.exit ?_; refine JX.thenE ?_; refine JX.thenE ?_; refine JX.blockE ?_; refine JX.thenN (hK2 _ _ ?_); refine JC.seq (fun K8 hK8 => ?_); refine JC.region ?_; refine J.move rfl rfl ?_; refine J.assign rfl rfl ?_; refine J.nil ?_; refine JX.thenN (hK8 _ _ ?_); refine JC.ret ?_; refine JX.ret1 rfl rfl (fun w hw => ?_)
  exact ⟨(v3, l3), rfl, hv3, hw⟩

end Go.Proofs.Ytoaenmlhehcjfaa
/-
 Numbers, identities and texts out of bytes: wire.GetNum, GetID, GetText: contracts.
-/
namespace Go.Proofs.Ytoaenmlhehcjfaa
open Go.J Go.RowKit
set_option linter.unusedVariables false
set_option linter.unusedSimpArgs false
set_option maxRecDepth 8000
theorem row_subB {w : World} {a : Option Addr} {c n : Nat} {bs : List UInt8} (h : Row w (.slice a n c) n (bs.map u8)) (hl : bs.length = n) {i j : Nat} (hij : i ≤ j) (hj : j ≤ n) :
  Row w (.slice (if c = i then a else a.map (·.add (i * 1))) (j - i) (c - i)) (j - i) (((bs.drop i).take (j - i)).map u8) := by
 have h1 := h.slice (sz := 1) (i := i) (j := j) (by simp [hl]) hij hj
 have e : (((bs.map u8).drop (i * 1)).take ((j - i) * 1)) = ((bs.drop i).take (j - i)).map u8 := by rw [Nat.mul_one, Nat.mul_one, List.map_take, List.map_drop]
 rw [e] at h1
 exact h1
/-- a number that lies at a place -/
def getN (bs : List UInt8) (at_ : Nat) : Nat × Nat × Int :=
 if bs.length < at_ then (0, 0, 1) else if at_ = bs.length then (0, 0, 3) else
 if 8 < (bs.getD at_ 0).toNat then (0, 0, 2) else if bs.length - at_ - 1 < (bs.getD at_ 0).toNat then (0, 0, 3) else
 if 0 < (bs.getD at_ 0).toNat ∧ (bs.getD (at_ + 1) 0).toNat = 0 then (0, 0, 2) else
 (num ((bs.drop (at_ + 1)).take (bs.getD at_ 0).toNat), at_ + 1 + (bs.getD at_ 0).toNat, 0)
/-- an identity out of its bytes -/
def idB (l : List UInt8) : IDV := fun i => l.getD i.val 0
theorem list16B {l : List UInt8} (h : l.length = 16) : l = [l.getD 0 0, l.getD 1 0, l.getD 2 0, l.getD 3 0, l.getD 4 0, l.getD 5 0, l.getD 6 0, l.getD 7 0, l.getD 8 0, l.getD 9 0, l.getD 10 0, l.getD 11 0, l.getD 12 0, l.getD 13 0, l.getD 14 0, l.getD 15 0] := by
 match l, h with
 | [_, _, _, _, _, _, _, _, _, _, _, _, _, _, _, _], _ => rfl
theorem cI_idB {l : List UInt8} (h : l.length = 16) : cI (idB l) = l.map u8 := by
 conv => rhs; rw [list16B h]
 rfl
theorem one_cI (a : IDV) : ∀ y, y ∈ cI a → y.oneCell' = true := fun y hy => by
 simp only [List.mem_cons, List.not_mem_nil, or_false] at hy
 rcases hy with rfl | rfl | rfl | rfl | rfl | rfl | rfl | rfl | rfl | rfl | rfl | rfl | rfl | rfl | rfl | rfl <;> rfl
theorem idB_bI (a : IDV) : idB (bI a) = a := by
 apply cI_eq.1
 rw [cI_idB rfl]
 rfl
def getI (bs : List UInt8) (at_ : Nat) : IDV × Nat × Int :=
 if bs.length < at_ then (zI, 0, 1) else if bs.length - at_ < 16 then (zI, 0, 3) else (idB ((bs.drop at_).take 16), at_ + 16, 0)
def getT (bs : List UInt8) (at_ most : Nat) : List UInt8 × Nat × Int :=
 if (getN bs at_).2.2 ≠ 0 then ([], 0, (getN bs at_).2.2) else
 if most < (getN bs at_).1 then ([], 0, 4) else
 if bs.length - (getN bs at_).2.1 < (getN bs at_).1 then ([], 0, 3) else
 ((bs.drop (getN bs at_).2.1).take (getN bs at_).1, (getN bs at_).2.1 + (getN bs at_).1, 0)
theorem getN_cases (bs : List UInt8) (at_ : Nat) : getN bs at_ = (0, 0, 1) ∨ getN bs at_ = (0, 0, 2) ∨ getN bs at_ = (0, 0, 3) ∨ (getN bs at_ = (num ((bs.drop (at_ + 1)).take (bs.getD at_ 0).toNat), at_ + 1 + (bs.getD at_ 0).toNat, 0) ∧ at_ < bs.length ∧ (bs.getD at_ 0).toNat ≤ 8 ∧ at_ + 1 + (bs.getD at_ 0).toNat ≤ bs.length) := by
 unfold getN
 split
 ·exact .inl rfl
 ·split
  ·exact .inr (.inr (.inl rfl))
  ·split
   ·exact .inr (.inl rfl)
   ·split
    ·exact .inr (.inr (.inl rfl))
    ·split
     ·exact .inr (.inl rfl)
     ·exact .inr (.inr (.inr ⟨rfl, by omega, by omega, by omega⟩))
theorem getN_u64 (bs : List UInt8) (at_ : Nat) : (getN bs at_).1 < 18446744073709551616 := by
 rcases getN_cases bs at_ with h | h | h | ⟨h, h1, h2, h3⟩
 ·rw [h]; decide
 ·rw [h]; decide
 ·rw [h]; decide
 ·rw [h]
  have h4 := num_lt ((bs.drop (at_ + 1)).take (bs.getD at_ 0).toNat) (bs.getD at_ 0).toNat (by rw [List.length_take, List.length_drop]; omega)
  rw [List.take_of_length_le (by rw [List.length_take]; exact Nat.min_le_left _ _)] at h4
  have h5 : 256 ^ (bs.getD at_ 0).toNat ≤ 256 ^ 8 := Nat.pow_le_pow_right (by omega) h2
  have h6 : (256 : Nat) ^ 8 = 18446744073709551616 := by decide
  simp only
  omega
theorem getN_end (bs : List UInt8) (at_ : Nat) : (getN bs at_).2.1 ≤ bs.length := by
 rcases getN_cases bs at_ with h | h | h | ⟨h, h1, h2, h3⟩
 ·rw [h]; exact Nat.zero_le _
 ·rw [h]; exact Nat.zero_le _
 ·rw [h]; exact Nat.zero_le _
 ·rw [h]; exact h3
theorem JX.retCTT {P : Program} {fn : Func} {R : Ending → World → Prop} {n : Nat} {e : Env} {I : World → Prop} {t u u2 ty k b o : Nat} {vs : List Value} {v v2 : Value} (hr : fn.results = #[.cell t ty, .tmp u, .tmp u2]) (hv : get e t = some (.pointer (some ⟨b, o, none⟩))) (hv' : get e u = some v) (hv2 : get e u2 = some v2)
  (ha : aggT P ty = some true) (hs : sizeT P ty = some k) (hl : vs.length = k) (hc : ∀ w, I w → Cells w b o vs) (h : ∀ w, I w → R (.returned (.tuple #[.agg vs.toArray, v, v2])) w) :
  JX (bodyPost P fn R) n .ret e I := by
 intro T w ht hw
 refine ⟨rfl, .tuple #[.agg vs.toArray, v, v2], ?_, h w hw⟩
 have ht0 : T.getD t undef = .pointer (some ⟨b, o, none⟩) := by rw [Array.getD_eq_getD_getElem?, ht.2 t _ hv]; rfl
 have hld := run_loadVar_agg (P := P) ha hs hl (hc w hw)
 have haa : (asAddr (.pointer (some ⟨b, o, none⟩))).run P w = .ok ⟨b, o, none⟩ w := by simp [asAddr]
 have e1 : T.getD u undef = v := by rw [Array.getD_eq_getD_getElem?, ht.2 u v hv']; rfl
 have e2 : T.getD u2 undef = v2 := by rw [Array.getD_eq_getD_getElem?, ht.2 u2 v2 hv2]; rfl
 rw [Array.getD_eq_getD_getElem?] at ht0 e1 e2
 simp only [results, hr, Sem.run_bind]
 simp [ht0, haa, hld, e1, e2]

theorem getN_ok {bs : List UInt8} {at_ : Nat} {x0 : UInt8} (hat : at_ < bs.length) (h8 : x0.toNat ≤ 8) (hsh : x0.toNat ≤ bs.length - at_ - 1) (h : x0.toNat = 0 ∨ ¬ (bs.getD (at_ + 1) 0).toNat = 0) (hkk : (bs.getD at_ 0).toNat = x0.toNat) : getN bs at_ = (num ((bs.drop (at_ + 1)).take (bs.getD at_ 0).toNat), at_ + 1 + (bs.getD at_ 0).toNat, 0) := by
 unfold getN
 rw [if_neg (by omega), if_neg (by omega), if_neg (by omega), if_neg (by omega), if_neg (by omega)]
theorem getN_bad {bs : List UInt8} {at_ : Nat} {x0 : UInt8} (hat : at_ < bs.length) (h8 : x0.toNat ≤ 8) (hsh : x0.toNat ≤ bs.length - at_ - 1) (h : 0 < x0.toNat) (h1 : (bs.getD (at_ + 1) 0).toNat = 0) (hkk : (bs.getD at_ 0).toNat = x0.toNat) : getN bs at_ = (0, 0, 2) := by
 unfold getN
 rw [if_neg (by omega), if_neg (by omega), if_neg (by omega), if_neg (by omega), if_pos (by omega)]

theorem getNum_spec (v : Value) (bs : List UInt8) (at_ : Nat) (w : World) (hr : Row w v bs.length (bs.map u8)) (hl : bs.length ≤ 100000) (hal : at_ ≤ 1000000) :
  Calls Try.prog 64 [v, .int .i64 ((at_ : Nat) : Int)].toArray w fun r w' => r = .returned (.tuple #[.int .u64 (((getN bs at_).1 : Nat) : Int), .int .i64 (((getN bs at_).2.1 : Nat) : Int), .int .i64 (getN bs at_).2.2]) ∧ Bel w w' := by
 obtain ⟨a, c, rfl, hc, hra⟩ := id hr
 refine calls_of_J (args := [.slice a bs.length c, .int .i64 ((at_ : Nat) : Int)]) (e := [(0, .slice a bs.length c), (1, .int .i64 ((at_ : Nat) : Int))]) Try.func64 rfl rfl ⟨rfl, rfl, trivial⟩ (St.start w) ?_; refine JC.seq (fun K0 hK0 => ?_); refine JC.region ?_; refine J.assign rfl rfl ?_; refine J.assign rfl rfl ?_; refine J.assign rfl rfl ?_; refine J.nil ?_; refine JX.thenN (hK0 _ _ ?_); refine JC.seqCut (α := Unit) (fun _ => [(0, .slice a bs.length c), (1, .int .i64 ((at_ : Nat) : Int))]) (fun _ w' => (at_ < bs.length ∧ (bs.getD at_ 0).toNat ≤ 8 ∧ at_ + 1 + (bs.getD at_ 0).toNat ≤ bs.length ∧ getN bs at_ = (num ((bs.drop (at_ + 1)).take (bs.getD at_ 0).toNat), at_ + 1 + (bs.getD at_ 0).toNat, 0)) ∧ St w [] [] w') (fun _ => ?_) (fun K1 hK1 => ?_)
 ·refine JC.pr (fun hP => ?_)
  obtain ⟨hat, hk8, hend, hg⟩ := hP
  obtain ⟨kk, hkk⟩ : ∃ k, (bs.getD at_ 0).toNat = k := ⟨_, rfl⟩
  rw [hkk] at hk8 hend hg
  have hr1 := row_subB hr rfl (i := at_ + 1) (j := bs.length) (by omega) (Nat.le_refl _)
  obtain ⟨q1, hq1⟩ : ∃ q, (if c = at_ + 1 then a else a.map (·.add ((at_ + 1) * 1))) = q := ⟨_, rfl⟩
  rw [hq1] at hr1
  have hd1 : ((bs.drop (at_ + 1)).take (bs.length - (at_ + 1))).length = bs.length - (at_ + 1) := by simp
  have hr2 := row_subB hr1 hd1 (i := 0) (j := kk) (by omega) (by omega)
  rw [List.drop_zero, List.take_take, Nat.min_eq_left (by omega), Nat.sub_zero, Nat.sub_zero] at hr2
  obtain ⟨q2, hq2⟩ : ∃ q, (if c - (at_ + 1) = 0 then q1 else q1.map (·.add (0 * 1))) = q := ⟨_, rfl⟩
  rw [hq2] at hr2
  obtain ⟨xs, hxs⟩ : ∃ l, (bs.drop (at_ + 1)).take kk = l := ⟨_, rfl⟩
  rw [hxs] at hr2 hg
  have hxl : xs.length = kk := by rw [← hxs, List.length_take, List.length_drop]; omega
  obtain ⟨b, o, rfl, hcl⟩ : ∃ b o, a = some ⟨b, o, none⟩ ∧ Cells w b o (bs.map u8) := by
   rcases hra with h | h
   ·have h2 := congrArg List.length h; rw [List.length_map, List.length_nil] at h2; omega
   ·exact h
  have hcell : w.cell? ⟨b, o + ((at_ : Nat) : Int).toNat * 1, none⟩ = some (u8 (bs[at_]'hat)) := by
   rw [Int.toNat_natCast, Nat.mul_one]; exact hcl.at_u8 hat rfl
  obtain ⟨x0, hx0⟩ : ∃ x, bs[at_]'hat = x := ⟨_, rfl⟩
  rw [hx0] at hcell
  have hxk : x0.toNat = kk := by rw [← hkk, List.getD_eq_getElem?_getD, List.getElem?_eq_getElem hat, hx0]; rfl
  refine JC.seq (fun K2 hK2 => ?_); refine JC.region ?_; refine J.assign rfl rfl ?_; refine J.nil ?_; refine JX.thenN (hK2 _ _ ?_); refine JC.seq (fun K3 hK3 => ?_); refine JC.seq (fun K4 hK4 => ?_)
  apply JC.drawX (α := Nat × Unit) 11 (fun x => match x with | ⟨xu, uu⟩ => [.slice (some ⟨b, o, none⟩) bs.length c, .int .i64 ((at_ : Nat) : Int), .int .i64 ((at_ + 1 : Nat) : Int), .slice q1 (bs.length - (at_ + 1)) (c - (at_ + 1)), .slice (some ⟨b, o, none⟩) bs.length c, .int .i64 ((at_ : Nat) : Int), .pointer (some ⟨b, o + ((at_ : Nat) : Int).toNat * 1, none⟩), u8 x0, .slice q2 kk (c - (at_ + 1)), .int .i64 ((kk : Nat) : Int), .int .i64 0]) (fun m x => match x with | ⟨xu, uu⟩ => fun w1 => (True) ∧ St w [] ([]) w1) Ty.mixed rfl rfl rfl (by kernel_rfl) rfl rfl ?hinit ?hstep ?htail
  case hinit => exact fun w1 hw => ⟨(0, ()), trivial, hw.drew⟩
  case hstep =>
   refine ⟨fun m x hm hp => ?_, fun m x hm hp => ?_, fun m x hm hp => ?_, fun m x hm hp => ?_, fun m x hm hp => ?_, fun m x hm hp => ?_, fun m x hm hp => ?_, fun m x hm hp => ?_, fun m x hm hp => ?_, fun m x hm hp => ?_, fun m x hm hp => ?_, trivial⟩
   ·obtain ⟨xu, uu⟩ := x
    show J _ _ _ _ _ (_) _
    refine J.pr (fun hF => ?_); refine J.move rfl rfl ?_
    exact J.finX rfl (fun _ hw => ⟨⟨xu, uu⟩, rfl, fun _ _ _ => rfl, hF, hw⟩)
   ·obtain ⟨xu, uu⟩ := x
    show J _ _ _ _ _ (_) _
    refine J.pr (fun hF => ?_); refine J.move rfl rfl ?_
    exact J.finX rfl (fun _ hw => ⟨⟨xu, uu⟩, rfl, fun _ _ _ => rfl, hF, hw⟩)
   ·obtain ⟨xu, uu⟩ := x
    show J _ _ _ _ _ ((57, .int .i64 ((at_ : Nat) : Int)) :: _) _
    refine J.pr (fun hF => ?_); refine J.addN rfl rfl (by omega) (by omega) rfl ?_; refine J.name 58 rfl (show _ = Value.int .i64 ((at_ + 1 : Nat) : Int) from congrArg (Value.int .i64) (by omega)) ?_
    exact J.finX rfl (fun _ hw => ⟨⟨xu, uu⟩, rfl, fun _ _ _ => rfl, hF, hw⟩)
   ·obtain ⟨xu, uu⟩ := x
    show J _ _ _ _ _ ((58, .int .i64 ((at_ + 1 : Nat) : Int)) :: (56, .slice (some ⟨b, o, none⟩) bs.length c) :: _) _
    refine J.pr (fun hF => ?_); refine J.sliceS (i := at_ + 1) (j := bs.length) Ty.el26 Ty.s5 rfl rfl rfl (by simp [bnd]; omega) rfl (by omega) (by omega) (by omega) rfl ?_; refine J.name 59 rfl (show _ = Value.slice q1 (bs.length - (at_ + 1)) (c - (at_ + 1)) by rw [hq1]) ?_
    exact J.finX rfl (fun _ hw => ⟨⟨xu, uu⟩, rfl, fun _ _ _ => rfl, hF, hw⟩)
   ·obtain ⟨xu, uu⟩ := x
    show J _ _ _ _ _ (_) _
    refine J.pr (fun hF => ?_); refine J.move rfl rfl ?_
    exact J.finX rfl (fun _ hw => ⟨⟨xu, uu⟩, rfl, fun _ _ _ => rfl, hF, hw⟩)
   ·obtain ⟨xu, uu⟩ := x
    show J _ _ _ _ _ (_) _
    refine J.pr (fun hF => ?_); refine J.move rfl rfl ?_
    exact J.finX rfl (fun _ hw => ⟨⟨xu, uu⟩, rfl, fun _ _ _ => rfl, hF, hw⟩)
   ·obtain ⟨xu, uu⟩ := x
    show J _ _ _ _ _ ((61, .int .i64 ((at_ : Nat) : Int)) :: (60, .slice (some ⟨b, o, none⟩) bs.length c) :: _) _
    refine J.pr (fun hF => ?_); refine J.indexAddrS Ty.el26 Ty.s5 rfl rfl (by omega) (by omega) rfl ?_
    exact J.finX rfl (fun _ hw => ⟨⟨xu, uu⟩, rfl, fun _ _ _ => rfl, hF, hw⟩)
   ·obtain ⟨xu, uu⟩ := x
    show J _ _ _ _ _ ((62, .pointer (some ⟨b, o + ((at_ : Nat) : Int).toNat * 1, none⟩)) :: _) _
    refine J.pr (fun hF => ?_); refine J.loadR (v := u8 x0) Ty.a5 rfl hcell (by simp) rfl ?_
    exact J.finX rfl (fun _ hw => ⟨⟨xu, uu⟩, rfl, fun _ _ _ => rfl, hF, hw⟩)
   ·obtain ⟨xu, uu⟩ := x
    show J _ _ _ _ _ ((63, u8 x0) :: (59, .slice q1 (bs.length - (at_ + 1)) (c - (at_ + 1))) :: _) _
    refine J.pr (fun hF => ?_); refine J.sliceS (i := 0) (j := kk) Ty.el26 Ty.s5 rfl rfl rfl rfl (by simp [bnd]; exact hxk) (by omega) (by omega) (by omega) rfl ?_; refine J.name 64 rfl (show _ = Value.slice q2 kk (c - (at_ + 1)) by rw [hq2]; rfl) ?_
    exact J.finX rfl (fun _ hw => ⟨⟨xu, uu⟩, rfl, fun _ _ _ => rfl, hF, hw⟩)
   ·obtain ⟨xu, uu⟩ := x
    show J _ _ _ _ _ ((64, .slice q2 kk (c - (at_ + 1))) :: _) _
    refine J.pr (fun hF => ?_); refine J.lenS rfl Ty.u26 rfl rfl ?_
    exact J.finX rfl (fun _ hw => ⟨⟨xu, uu⟩, rfl, fun _ _ _ => rfl, hF, hw⟩)
   ·obtain ⟨xu, uu⟩ := x
    show J _ _ _ _ _ (_) _
    refine J.pr (fun hF => ?_); refine J.move rfl rfl ?_
    exact J.finX rfl (fun _ hw => ⟨⟨xu, uu⟩, rfl, fun _ _ _ => rfl, hF, hw⟩)
  case htail =>
   intro x
   obtain ⟨xu, uu⟩ := x
   show J _ _ _ _ _ ((66, .int .i64 0) :: (65, .int .i64 ((kk : Nat) : Int)) :: (64, .slice q2 kk (c - (at_ + 1))) :: (63, u8 x0) :: (62, .pointer (some ⟨b, o + ((at_ : Nat) : Int).toNat * 1, none⟩)) :: (61, .int .i64 ((at_ : Nat) : Int)) :: (60, .slice (some ⟨b, o, none⟩) bs.length c) :: (59, .slice q1 (bs.length - (at_ + 1)) (c - (at_ + 1))) :: (58, .int .i64 ((at_ + 1 : Nat) : Int)) :: (57, .int .i64 ((at_ : Nat) : Int)) :: (56, .slice (some ⟨b, o, none⟩) bs.length c) :: _) (fun w1 => (True) ∧ St w [] ([]) w1)
   refine J.pr (fun hF => ?_); refine J.nil ?_; refine JX.thenN (hK4 _ _ ?_); refine JC.block ?_
   refine JC.conseq (JC.cov (f := (fun i => [(0, .slice (some ⟨b, o, none⟩) bs.length c), (1, .int .i64 ((at_ : Nat) : Int)), (64, .slice q2 kk (c - (at_ + 1))), (65, .int .i64 ((kk : Nat) : Int)), (66, .int .i64 ((i : Nat) : Int)), (7, .int .u64 ((num (xs.take i) : Nat) : Int))]) 0) ⟨rfl, rfl, rfl, rfl, rfl, rfl, trivial⟩ (JC.loop (α := Nat) (fun i => [(0, .slice (some ⟨b, o, none⟩) bs.length c), (1, .int .i64 ((at_ : Nat) : Int)), (64, .slice q2 kk (c - (at_ + 1))), (65, .int .i64 ((kk : Nat) : Int)), (66, .int .i64 ((i : Nat) : Int)), (7, .int .u64 ((num (xs.take i) : Nat) : Int))]) (fun i w' => (i ≤ kk) ∧ St w [] [] w') (fun i => kk - i) 0 (fun i => ?_))) (fun w hw => ⟨Nat.zero_le _, hw⟩)
   refine JC.pr (fun hi => ?_); refine JC.seq (fun K5 hK5 => ?_); refine JC.region ?_; refine J.bin rfl rfl rfl rfl ?_; refine J.nil ?_; refine JX.thenN (hK5 _ _ ?_); refine JC.seq (fun K6 hK6 => ?_); refine JC.cond rfl (fun h5 => ?_) (fun h5 => ?_)
   ·have hil : i < kk := by simp at h5; omega
    obtain ⟨b2, o2, c2, hv2, hcc2, hcl2⟩ := hr2.some (by rw [List.length_map]; omega)
    simp only [Value.slice.injEq] at hv2
    obtain ⟨rfl, -, rfl⟩ := hv2
    refine JC.skip ?_; refine JX.thenN (hK6 _ _ ?_); refine JC.seq (fun K7 hK7 => ?_); refine JC.block ?_; refine JC.seq (fun K8 hK8 => ?_); refine JC.region ?_; refine J.indexAddrS Ty.el26 Ty.s5 rfl rfl (by omega) (by omega) rfl ?_; refine J.loadR (v := u8 (xs[i]'(by omega))) Ty.a5 rfl (hcl2.at_u8 (by omega) (by simp)) (by simp) rfl ?_; refine J.assign rfl rfl ?_; refine J.nil ?_; refine JX.thenN (hK8 _ _ ?_); refine JC.region ?_; refine J.move rfl rfl ?_; refine J.bin rfl rfl rfl rfl ?_; refine J.move rfl rfl ?_; refine J.convInt Ty.u5 Ty.u81 rfl rfl ?_; refine J.bin rfl rfl rfl rfl ?_; refine J.name 74 rfl (or_u64 _ _ (UInt8.toNat_lt _) (num_step (bs := xs) (i := i) (by omega) (by omega))) ?_; refine J.name 74 rfl (show _ = Value.int .u64 ((num (xs.take (i + 1)) : Nat) : Int) by rw [num_succ (by omega)]) ?_; refine J.assign rfl rfl ?_; refine J.nil ?_; refine JX.blockN ?_; refine JX.thenN (hK7 _ _ ?_); refine JC.region ?_
    (first | refine J.addN rfl rfl (by omega) (by omega) rfl ?_ | refine J.bin rfl rfl rfl rfl ?_)
    refine J.move rfl rfl ?_; refine J.nil ?_; refine JX.thenN ?_; refine JX.again (i + 1) ?_ ?_ ?_
    ·omega
    ·exact ⟨rfl, rfl, rfl, rfl, rfl, rfl, trivial⟩
    ·exact fun w1 hw => ⟨hil, hw⟩
   ·have hie : i = kk := by simp at h5; omega
    have hti : xs.take i = xs := List.take_of_length_le (by omega)
    refine JC.exit ?_; refine JX.thenE ?_; refine JX.thenE ?_; refine JX.blockE ?_; refine JX.thenN (hK3 _ _ ?_); refine JC.seq (fun K9 hK9 => ?_)
    apply JC.drawX (α := Nat × Unit) 10 (fun x => match x with | ⟨xu, uu⟩ => [.int .u64 ((num (xs.take i) : Nat) : Int), .int .i64 ((at_ : Nat) : Int), .int .i64 ((at_ + 1 : Nat) : Int), .slice (some ⟨b, o, none⟩) bs.length c, .int .i64 ((at_ : Nat) : Int), .pointer (some ⟨b, o + ((at_ : Nat) : Int).toNat * 1, none⟩), u8 x0, .int .i64 ((kk : Nat) : Int), .int .i64 ((at_ + 1 + kk : Nat) : Int), .int .u64 ((num (xs.take i) : Nat) : Int)]) (fun m x => match x with | ⟨xu, uu⟩ => fun w1 => (True) ∧ St w [] ([]) w1) Ty.mixed rfl rfl rfl (by kernel_rfl) rfl rfl ?hinit ?hstep ?htail
    case hinit => exact fun w1 hw => ⟨(0, ()), trivial, hw.drew⟩
    case hstep =>
     refine ⟨fun m x hm hp => ?_, fun m x hm hp => ?_, fun m x hm hp => ?_, fun m x hm hp => ?_, fun m x hm hp => ?_, fun m x hm hp => ?_, fun m x hm hp => ?_, fun m x hm hp => ?_, fun m x hm hp => ?_, fun m x hm hp => ?_, trivial⟩
     ·obtain ⟨xu, uu⟩ := x
      show J _ _ _ _ _ (_) _
      refine J.pr (fun hF => ?_); refine J.move rfl rfl ?_
      exact J.finX rfl (fun _ hw => ⟨⟨xu, uu⟩, rfl, fun _ _ _ => rfl, hF, hw⟩)
     ·obtain ⟨xu, uu⟩ := x
      show J _ _ _ _ _ (_) _
      refine J.pr (fun hF => ?_); refine J.move rfl rfl ?_
      exact J.finX rfl (fun _ hw => ⟨⟨xu, uu⟩, rfl, fun _ _ _ => rfl, hF, hw⟩)
     ·obtain ⟨xu, uu⟩ := x
      show J _ _ _ _ _ ((77, .int .i64 ((at_ : Nat) : Int)) :: _) _
      refine J.pr (fun hF => ?_); refine J.addN rfl rfl (by omega) (by omega) rfl ?_; refine J.name 78 rfl (show _ = Value.int .i64 ((at_ + 1 : Nat) : Int) from congrArg (Value.int .i64) (by omega)) ?_
      exact J.finX rfl (fun _ hw => ⟨⟨xu, uu⟩, rfl, fun _ _ _ => rfl, hF, hw⟩)
     ·obtain ⟨xu, uu⟩ := x
      show J _ _ _ _ _ (_) _
      refine J.pr (fun hF => ?_); refine J.move rfl rfl ?_
      exact J.finX rfl (fun _ hw => ⟨⟨xu, uu⟩, rfl, fun _ _ _ => rfl, hF, hw⟩)
     ·obtain ⟨xu, uu⟩ := x
      show J _ _ _ _ _ (_) _
      refine J.pr (fun hF => ?_); refine J.move rfl rfl ?_
      exact J.finX rfl (fun _ hw => ⟨⟨xu, uu⟩, rfl, fun _ _ _ => rfl, hF, hw⟩)
     ·obtain ⟨xu, uu⟩ := x
      show J _ _ _ _ _ ((80, .int .i64 ((at_ : Nat) : Int)) :: (79, .slice (some ⟨b, o, none⟩) bs.length c) :: _) _
      refine J.pr (fun hF => ?_); refine J.indexAddrS Ty.el26 Ty.s5 rfl rfl (by omega) (by omega) rfl ?_
      exact J.finX rfl (fun _ hw => ⟨⟨xu, uu⟩, rfl, fun _ _ _ => rfl, hF, hw⟩)
     ·obtain ⟨xu, uu⟩ := x
      show J _ _ _ _ _ ((81, .pointer (some ⟨b, o + ((at_ : Nat) : Int).toNat * 1, none⟩)) :: _) _
      refine J.pr (fun hF => ?_); refine J.loadR (v := u8 x0) Ty.a5 rfl hcell (by simp) rfl ?_
      exact J.finX rfl (fun _ hw => ⟨⟨xu, uu⟩, rfl, fun _ _ _ => rfl, hF, hw⟩)
     ·obtain ⟨xu, uu⟩ := x
      show J _ _ _ _ _ ((82, u8 x0) :: _) _
      refine J.pr (fun hF => ?_); refine J.convInt Ty.u5 Ty.u3 rfl rfl ?_; refine J.name 83 rfl (congrArg (Value.int .i64) (show _ = ((kk : Nat) : Int) by rw [← hxk]; exact wrap_i64 (by omega) (by omega))) ?_
      exact J.finX rfl (fun _ hw => ⟨⟨xu, uu⟩, rfl, fun _ _ _ => rfl, hF, hw⟩)
     ·obtain ⟨xu, uu⟩ := x
      show J _ _ _ _ _ ((83, .int .i64 ((kk : Nat) : Int)) :: (78, .int .i64 ((at_ + 1 : Nat) : Int)) :: _) _
      refine J.pr (fun hF => ?_); refine J.addN rfl rfl (by omega) (by omega) rfl ?_; refine J.name 84 rfl (show _ = Value.int .i64 ((at_ + 1 + kk : Nat) : Int) from congrArg (Value.int .i64) (by omega)) ?_
      exact J.finX rfl (fun _ hw => ⟨⟨xu, uu⟩, rfl, fun _ _ _ => rfl, hF, hw⟩)
     ·obtain ⟨xu, uu⟩ := x
      show J _ _ _ _ _ ((76, .int .u64 ((num (xs.take i) : Nat) : Int)) :: (76, .int .u64 ((num (xs.take i) : Nat) : Int)) :: _) _
      refine J.pr (fun hF => ?_); refine J.assign rfl rfl ?_
      exact J.finX rfl (fun _ hw => ⟨⟨xu, uu⟩, rfl, fun _ _ _ => rfl, hF, hw⟩)
    case htail =>
     intro x
     obtain ⟨xu, uu⟩ := x
     show J _ _ _ _ _ ((4, .int .u64 ((num (xs.take i) : Nat) : Int)) :: (84, .int .i64 ((at_ + 1 + kk : Nat) : Int)) :: (83, .int .i64 ((kk : Nat) : Int)) :: (82, u8 x0) :: (81, .pointer (some ⟨b, o + ((at_ : Nat) : Int).toNat * 1, none⟩)) :: (80, .int .i64 ((at_ : Nat) : Int)) :: (79, .slice (some ⟨b, o, none⟩) bs.length c) :: (78, .int .i64 ((at_ + 1 : Nat) : Int)) :: (77, .int .i64 ((at_ : Nat) : Int)) :: (76, .int .u64 ((num (xs.take i) : Nat) : Int)) :: _) (fun w1 => (True) ∧ St w [] ([]) w1)
     refine J.pr (fun hF => ?_); refine J.assign rfl rfl ?_; refine J.assign rfl rfl ?_; refine J.nil ?_; refine JX.thenN (hK9 _ _ ?_); refine JC.ret ?_; refine JX.ret3 rfl rfl rfl rfl (fun w1 hw => ?_)
     first
     | exact ⟨by rw [hg, hti] <;> rfl, hw.below⟩
     | exact ⟨by rw [hg] <;> rfl, hw.below⟩
 ·refine JC.block ?_; refine JC.seq (fun K10 hK10 => ?_); refine JC.region ?_; refine J.move rfl rfl ?_; refine J.bin rfl rfl rfl rfl ?_; refine J.name 12 rfl (show _ = Value.bool false by simp) ?_; refine J.move rfl rfl ?_
  first | refine J.skip rfl rfl rfl rfl rfl ?_ | refine J.skipU rfl rfl rfl rfl ?_ | (refine J.unguard rfl rfl rfl ?_; refine J.move rfl rfl ?_)
  first | refine J.skip rfl rfl rfl rfl rfl ?_ | refine J.skipU rfl rfl rfl rfl ?_ | (refine J.unguard rfl rfl rfl ?_; refine J.move rfl rfl ?_)
  first | refine J.skip rfl rfl rfl rfl rfl ?_ | refine J.skipU rfl rfl rfl rfl ?_ | (refine J.unguard rfl rfl rfl ?_; refine J.lenS rfl Ty.u26 rfl rfl ?_)
  first | refine J.skip rfl rfl rfl rfl rfl ?_ | refine J.skipU rfl rfl rfl rfl ?_ | (refine J.unguard rfl rfl rfl ?_; refine J.bin rfl rfl rfl rfl ?_)
  (first | refine J.pickT rfl rfl rfl ?_ | refine J.pickF rfl rfl rfl ?_)
  refine J.assign rfl rfl ?_; refine J.nil ?_; refine JX.thenN (hK10 _ _ ?_); refine JC.cond rfl (fun h0 => ?_) (fun h0 => ?_)
  ·have hg : getN bs at_ = (0, 0, 1) := by unfold getN; rw [if_pos (by simp at h0; omega)]
   refine JC.seq (fun K11 hK11 => ?_); refine JC.region ?_; refine J.assign rfl rfl ?_; refine J.assign rfl rfl ?_; refine J.assign rfl rfl ?_; refine J.nil ?_; refine JX.thenN (hK11 _ _ ?_); refine JC.ret ?_; refine JX.blockR ?_; refine JX.thenR ?_; refine JX.ret3 rfl rfl rfl rfl (fun w1 hw => ?_)
   first
   | exact ⟨by rw [hg, hti] <;> rfl, hw.below⟩
   | exact ⟨by rw [hg] <;> rfl, hw.below⟩
  ·have hal2 : at_ ≤ bs.length := by simp at h0; omega
   refine JC.seq (fun K12 hK12 => ?_); refine JC.region ?_; refine J.move rfl rfl ?_; refine J.move rfl rfl ?_; refine J.lenS rfl Ty.u26 rfl rfl ?_; refine J.bin rfl rfl rfl rfl ?_; refine J.assign rfl rfl ?_; refine J.nil ?_; refine JX.thenN (hK12 _ _ ?_); refine JC.cond rfl (fun h1 => ?_) (fun h1 => ?_)
   ·have hg : getN bs at_ = (0, 0, 3) := by unfold getN; rw [if_neg (by omega), if_pos (by simp at h1; omega)]
    refine JC.seq (fun K13 hK13 => ?_); refine JC.region ?_; refine J.assign rfl rfl ?_; refine J.assign rfl rfl ?_; refine J.assign rfl rfl ?_; refine J.nil ?_; refine JX.thenN (hK13 _ _ ?_); refine JC.ret ?_; refine JX.blockR ?_; refine JX.thenR ?_; refine JX.ret3 rfl rfl rfl rfl (fun w1 hw => ?_)
    first
    | exact ⟨by rw [hg, hti] <;> rfl, hw.below⟩
    | exact ⟨by rw [hg] <;> rfl, hw.below⟩
   ·have hat : at_ < bs.length := by simp at h1; omega
    obtain ⟨b, o, rfl, hcl⟩ : ∃ b o, a = some ⟨b, o, none⟩ ∧ Cells w b o (bs.map u8) := by
     rcases hra with h | h
     ·have h2 := congrArg List.length h; rw [List.length_map, List.length_nil] at h2; omega
     ·exact h
    obtain ⟨x0, hx0⟩ : ∃ x, bs[at_]'hat = x := ⟨_, rfl⟩
    have hcell : w.cell? ⟨b, o + ((at_ : Nat) : Int).toNat * 1, none⟩ = some (u8 x0) := by
     rw [Int.toNat_natCast, Nat.mul_one, ← hx0]; exact hcl.at_u8 hat rfl
    have hkk : (bs.getD at_ 0).toNat = x0.toNat := by rw [List.getD_eq_getElem?_getD, List.getElem?_eq_getElem hat, hx0]; rfl
    have hx8 := UInt8.toNat_lt x0
    refine JC.seq (fun K14 hK14 => ?_); refine JC.region ?_; refine J.move rfl rfl ?_; refine J.move rfl rfl ?_; refine J.indexAddrS Ty.el26 Ty.s5 rfl rfl (by omega) (by omega) rfl ?_; refine J.loadR (v := u8 x0) Ty.a5 rfl hcell (by simp) rfl ?_; refine J.bin rfl rfl rfl rfl ?_; refine J.assign rfl rfl ?_; refine J.nil ?_; refine JX.thenN (hK14 _ _ ?_); refine JC.cond rfl (fun h2 => ?_) (fun h2 => ?_)
    ·have hg : getN bs at_ = (0, 0, 2) := by unfold getN; rw [if_neg (by omega), if_neg (by omega), if_pos (by rw [hkk]; simp at h2; omega)]
     refine JC.seq (fun K15 hK15 => ?_); refine JC.region ?_; refine J.assign rfl rfl ?_; refine J.assign rfl rfl ?_; refine J.assign rfl rfl ?_; refine J.nil ?_; refine JX.thenN (hK15 _ _ ?_); refine JC.ret ?_; refine JX.blockR ?_; refine JX.thenR ?_; refine JX.ret3 rfl rfl rfl rfl (fun w1 hw => ?_)
     first
     | exact ⟨by rw [hg, hti] <;> rfl, hw.below⟩
     | exact ⟨by rw [hg] <;> rfl, hw.below⟩
    ·have h8 : x0.toNat ≤ 8 := by simp at h2; omega
     refine JC.seq (fun K16 hK16 => ?_); refine JC.region ?_; refine J.move rfl rfl ?_; refine J.move rfl rfl ?_; refine J.indexAddrS Ty.el26 Ty.s5 rfl rfl (by omega) (by omega) rfl ?_; refine J.loadR (v := u8 x0) Ty.a5 rfl hcell (by simp) rfl ?_; refine J.convInt Ty.u5 Ty.u3 rfl rfl ?_; refine J.name 35 rfl (congrArg (Value.int .i64) (show _ = ((x0.toNat : Nat) : Int) from wrap_i64 (by omega) (by omega))) ?_; refine J.move rfl rfl ?_; refine J.lenS rfl Ty.u26 rfl rfl ?_; refine J.move rfl rfl ?_; refine J.subN rfl rfl (by omega) (by omega) rfl ?_; refine J.subN rfl rfl (by omega) (by omega) rfl ?_; refine J.bin rfl rfl rfl rfl ?_; refine J.assign rfl rfl ?_; refine J.nil ?_; refine JX.thenN (hK16 _ _ ?_); refine JC.cond rfl (fun h3 => ?_) (fun h3 => ?_)
     ·have hg : getN bs at_ = (0, 0, 3) := by unfold getN; rw [if_neg (by omega), if_neg (by omega), if_neg (by omega), if_pos (by rw [hkk]; simp at h3; omega)]
      refine JC.seq (fun K17 hK17 => ?_); refine JC.region ?_; refine J.assign rfl rfl ?_; refine J.assign rfl rfl ?_; refine J.assign rfl rfl ?_; refine J.nil ?_; refine JX.thenN (hK17 _ _ ?_); refine JC.ret ?_; refine JX.blockR ?_; refine JX.thenR ?_; refine JX.ret3 rfl rfl rfl rfl (fun w1 hw => ?_)
      first
      | exact ⟨by rw [hg, hti] <;> rfl, hw.below⟩
      | exact ⟨by rw [hg] <;> rfl, hw.below⟩
     ·have hsh : x0.toNat ≤ bs.length - at_ - 1 := by simp at h3; omega
      refine JC.seq (fun K18 hK18 => ?_)
      by_cases hz : x0.toNat = 0
      ·have hg := getN_ok hat h8 hsh (.inl hz) hkk
       refine JC.region ?_; refine J.move rfl rfl ?_; refine J.move rfl rfl ?_; refine J.indexAddrS Ty.el26 Ty.s5 rfl rfl (by omega) (by omega) rfl ?_; refine J.loadR (v := u8 x0) Ty.a5 rfl hcell (by simp) rfl ?_; refine J.bin rfl rfl rfl rfl ?_; refine J.name 47 rfl (show _ = Value.bool false by simp [hz]) ?_; refine J.move rfl rfl ?_
       first | refine J.skip rfl rfl rfl rfl rfl ?_ | refine J.skipU rfl rfl rfl rfl ?_ | (refine J.unguard rfl rfl rfl ?_; refine J.move rfl rfl ?_)
       first | refine J.skip rfl rfl rfl rfl rfl ?_ | refine J.skipU rfl rfl rfl rfl ?_ | (refine J.unguard rfl rfl rfl ?_; refine J.move rfl rfl ?_)
       first | refine J.skip rfl rfl rfl rfl rfl ?_ | refine J.skipU rfl rfl rfl rfl ?_ | (refine J.unguard rfl rfl rfl ?_; (first | refine J.addN rfl rfl (by omega) (by omega) rfl ?_ | refine J.bin rfl rfl rfl rfl ?_))
       first | refine J.skip rfl rfl rfl rfl rfl ?_ | refine J.skipU rfl rfl rfl rfl ?_ | (refine J.unguard rfl rfl rfl ?_; refine J.indexAddrS Ty.el26 Ty.s5 rfl rfl (by omega) (by omega) rfl ?_)
       first | refine J.skip rfl rfl rfl rfl rfl ?_ | refine J.skipU rfl rfl rfl rfl ?_ | (refine J.unguard rfl rfl rfl ?_; refine J.loadO Ty.a5 rfl zm (by exact rfl) rfl ?_)
       first | refine J.skip rfl rfl rfl rfl rfl ?_ | refine J.skipU rfl rfl rfl rfl ?_ | (refine J.unguard rfl rfl rfl ?_; refine J.bin rfl rfl rfl rfl ?_)
       (first | refine J.pickT rfl rfl rfl ?_ | refine J.pickF rfl rfl rfl ?_)
       refine J.assign rfl rfl ?_; refine J.nil ?_; refine JX.thenN (hK18 _ _ ?_)
       first | refine JC.condF rfl ?_ | refine JC.cond rfl (fun h => by first | (exfalso; simp at h; omega) | (simp at h)) (fun _ => ?_)
       refine JC.skip ?_; refine JX.blockN ?_; refine JX.thenN ?_
       exact JX.cut (hK1 ()) ⟨rfl, rfl, trivial⟩ (fun w1 hw => ⟨⟨hat, by omega, by omega, hg⟩, hw⟩)
      ·have h1l : at_ + 1 < bs.length := by omega
       obtain ⟨x1, hx1⟩ : ∃ x, bs[at_ + 1]'h1l = x := ⟨_, rfl⟩
       have hcell1 : w.cell? ⟨b, o + ((at_ + 1 : Nat) : Int).toNat * 1, none⟩ = some (u8 x1) := by
        rw [Int.toNat_natCast, Nat.mul_one, ← hx1]; exact hcl.at_u8 h1l rfl
       have hk1 : (bs.getD (at_ + 1) 0).toNat = x1.toNat := by rw [List.getD_eq_getElem?_getD, List.getElem?_eq_getElem h1l, hx1]; rfl
       refine JC.region ?_; refine J.move rfl rfl ?_; refine J.move rfl rfl ?_; refine J.indexAddrS Ty.el26 Ty.s5 rfl rfl (by omega) (by omega) rfl ?_; refine J.loadR (v := u8 x0) Ty.a5 rfl hcell (by simp) rfl ?_; refine J.bin rfl rfl rfl rfl ?_; refine J.name 47 rfl (show _ = Value.bool true by simp; omega) ?_; refine J.move rfl rfl ?_
       first | refine J.skip rfl rfl rfl rfl rfl ?_ | refine J.skipU rfl rfl rfl rfl ?_ | (refine J.unguard rfl rfl rfl ?_; refine J.move rfl rfl ?_)
       first | refine J.skip rfl rfl rfl rfl rfl ?_ | refine J.skipU rfl rfl rfl rfl ?_ | (refine J.unguard rfl rfl rfl ?_; refine J.move rfl rfl ?_)
       refine J.unguard rfl rfl rfl ?_; refine J.addN rfl rfl (by omega) (by omega) rfl ?_; refine J.name 51 rfl (show _ = Value.int .i64 ((at_ + 1 : Nat) : Int) from congrArg (Value.int .i64) (by omega)) ?_; refine J.unguard rfl rfl rfl ?_; refine J.indexAddrS Ty.el26 Ty.s5 rfl rfl (by omega) (by omega) rfl ?_; refine J.unguard rfl rfl rfl ?_; refine J.loadR (v := u8 x1) Ty.a5 rfl hcell1 (by simp) rfl ?_; refine J.unguard rfl rfl rfl ?_; refine J.bin rfl rfl rfl rfl ?_; refine J.name 54 rfl (show _ = Value.bool (decide (x1.toNat = 0)) from congrArg Value.bool (by rw [Bool.eq_iff_iff]; simp <;> omega)) ?_
       (first | refine J.pickT rfl rfl rfl ?_ | refine J.pickF rfl rfl rfl ?_)
       refine J.assign rfl rfl ?_; refine J.nil ?_; refine JX.thenN (hK18 _ _ ?_); refine JC.cond rfl (fun h4 => ?_) (fun h4 => ?_)
       ·have hg := getN_bad hat h8 hsh (by omega) (hk1.trans (by simpa using h4)) hkk
        refine JC.seq (fun K19 hK19 => ?_); refine JC.region ?_; refine J.assign rfl rfl ?_; refine J.assign rfl rfl ?_; refine J.assign rfl rfl ?_; refine J.nil ?_; refine JX.thenN (hK19 _ _ ?_); refine JC.ret ?_; refine JX.blockR ?_; refine JX.thenR ?_; refine JX.ret3 rfl rfl rfl rfl (fun w1 hw => ?_)
        first
        | exact ⟨by rw [hg, hti] <;> rfl, hw.below⟩
        | exact ⟨by rw [hg] <;> rfl, hw.below⟩
       ·have hg := getN_ok hat h8 hsh (.inr (fun e => by have e2 := hk1.symm.trans e; simp [e2] at h4)) hkk
        refine JC.skip ?_; refine JX.blockN ?_; refine JX.thenN ?_
        exact JX.cut (hK1 ()) ⟨rfl, rfl, trivial⟩ (fun w1 hw => ⟨⟨hat, by omega, by omega, hg⟩, hw⟩)

theorem getID_spec (v : Value) (bs : List UInt8) (at_ : Nat) (w : World) (hr : Row w v bs.length (bs.map u8)) (hl : bs.length ≤ 100000) (hal : at_ ≤ 1000000) :
  Calls Try.prog 65 [v, .int .i64 ((at_ : Nat) : Int)].toArray w fun r w' => r = .returned (.tuple #[.agg (cI (getI bs at_).1).toArray, .int .i64 (((getI bs at_).2.1 : Nat) : Int), .int .i64 (getI bs at_).2.2]) ∧ Bel w w' := by
 obtain ⟨a, c, rfl, hc, hra⟩ := id hr
 refine calls_of_J (args := [.slice a bs.length c, .int .i64 ((at_ : Nat) : Int)]) (e := [(0, .slice a bs.length c), (1, .int .i64 ((at_ : Nat) : Int))]) Try.func65 rfl rfl ⟨rfl, rfl, trivial⟩ (St.start w) ?_; refine JC.seq (fun K0 hK0 => ?_); refine JC.region ?_; refine J.alloc Ty.zID rfl rfl (fun b4 => ?_); refine J.assign rfl rfl ?_; refine J.assign rfl rfl ?_; refine J.nil ?_; refine JX.thenN (hK0 _ _ ?_); refine JC.seq (fun K1 hK1 => ?_); refine JC.region ?_; refine J.alloc Ty.zID rfl rfl (fun b7 => ?_); refine J.nil ?_; refine JX.thenN (hK1 _ _ ?_); refine JC.seq (fun K2 hK2 => ?_); refine JC.block ?_; refine JC.seq (fun K3 hK3 => ?_); refine JC.region ?_; refine J.move rfl rfl ?_; refine J.bin rfl rfl rfl rfl ?_; refine J.name 10 rfl (show _ = Value.bool false by simp) ?_; refine J.move rfl rfl ?_
 first | refine J.skip rfl rfl rfl rfl rfl ?_ | refine J.skipU rfl rfl rfl rfl ?_ | (refine J.unguard rfl rfl rfl ?_; refine J.move rfl rfl ?_)
 first | refine J.skip rfl rfl rfl rfl rfl ?_ | refine J.skipU rfl rfl rfl rfl ?_ | (refine J.unguard rfl rfl rfl ?_; refine J.move rfl rfl ?_)
 first | refine J.skip rfl rfl rfl rfl rfl ?_ | refine J.skipU rfl rfl rfl rfl ?_ | (refine J.unguard rfl rfl rfl ?_; refine J.lenS rfl Ty.u26 rfl rfl ?_)
 first | refine J.skip rfl rfl rfl rfl rfl ?_ | refine J.skipU rfl rfl rfl rfl ?_ | (refine J.unguard rfl rfl rfl ?_; refine J.bin rfl rfl rfl rfl ?_)
 (first | refine J.pickT rfl rfl rfl ?_ | refine J.pickF rfl rfl rfl ?_)
 refine J.assign rfl rfl ?_; refine J.nil ?_; refine JX.thenN (hK3 _ _ ?_); refine JC.cond rfl (fun h0 => ?_) (fun h0 => ?_)
 ·have hg : getI bs at_ = (zI, 0, 1) := by unfold getI; rw [if_pos (by simp at h0; omega)]
  refine JC.seq (fun K4 hK4 => ?_); refine JC.region ?_; refine J.loadA (vs := cI zI) Ty.a23 Ty.s23 rfl rfl (fun w1 hw => Cells.of_block (hw.own (b7, cb (cI zI) 23) zm) rfl) rfl ?_; refine J.storeW (cs := cI zI) (vs := cI zI) Ty.s23 rfl rfl rfl rfl rfl (one_cI _) (.there .here) ?_; refine J.assign rfl rfl ?_; refine J.assign rfl rfl ?_; refine J.nil ?_; refine JX.thenN (hK4 _ _ ?_); refine JC.ret ?_; refine JX.blockR ?_; refine JX.thenR ?_; refine JX.retCTT (vs := cI zI) rfl rfl rfl rfl Ty.a23 Ty.s23 rfl (fun w1 hw => Cells.of_block (hw.own (b4, cb (cI zI) 23) zm) rfl) (fun w1 hw => ?_)
  exact ⟨by rw [hg] <;> rfl, (hw.drop (List.nil_sublist _)).below⟩
 ·have hal2 : at_ ≤ bs.length := by simp at h0; omega
  refine JC.seq (fun K5 hK5 => ?_); refine JC.region ?_; refine J.move rfl rfl ?_; refine J.lenS rfl Ty.u26 rfl rfl ?_; refine J.move rfl rfl ?_; refine J.subN rfl rfl (by omega) (by omega) rfl ?_; refine J.bin rfl rfl rfl rfl ?_; refine J.assign rfl rfl ?_; refine J.nil ?_; refine JX.thenN (hK5 _ _ ?_); refine JC.cond rfl (fun h1 => ?_) (fun h1 => ?_)
  ·have hg : getI bs at_ = (zI, 0, 3) := by unfold getI; rw [if_neg (by omega), if_pos (by simp at h1; omega)]
   refine JC.seq (fun K6 hK6 => ?_); refine JC.region ?_; refine J.loadA (vs := cI zI) Ty.a23 Ty.s23 rfl rfl (fun w1 hw => Cells.of_block (hw.own (b7, cb (cI zI) 23) zm) rfl) rfl ?_; refine J.storeW (cs := cI zI) (vs := cI zI) Ty.s23 rfl rfl rfl rfl rfl (one_cI _) (.there .here) ?_; refine J.assign rfl rfl ?_; refine J.assign rfl rfl ?_; refine J.nil ?_; refine JX.thenN (hK6 _ _ ?_); refine JC.ret ?_; refine JX.blockR ?_; refine JX.thenR ?_; refine JX.retCTT (vs := cI zI) rfl rfl rfl rfl Ty.a23 Ty.s23 rfl (fun w1 hw => Cells.of_block (hw.own (b4, cb (cI zI) 23) zm) rfl) (fun w1 hw => ?_)
   exact ⟨by rw [hg] <;> rfl, (hw.drop (List.nil_sublist _)).below⟩
  ·have h16 : 16 ≤ bs.length - at_ := by simp at h1; omega
   have hg : getI bs at_ = ((idB ((bs.drop at_).take 16)), at_ + 16, 0) := by unfold getI; rw [if_neg (by omega), if_neg (by omega)]
   have hr1 := row_subB hr rfl (i := at_) (j := bs.length) (by omega) (Nat.le_refl _)
   obtain ⟨q1, hq1⟩ : ∃ q, (if c = at_ then a else a.map (·.add (at_ * 1))) = q := ⟨_, rfl⟩
   rw [hq1] at hr1
   rw [show (bs.drop at_).take (bs.length - at_) = bs.drop at_ from List.take_of_length_le (by rw [List.length_drop]; exact Nat.le_refl _)] at hr1
   have hx16 : ((bs.drop at_).take 16).length = 16 := by rw [List.length_take, List.length_drop]; omega
   refine JC.skip ?_; refine JX.blockN ?_; refine JX.thenN (hK2 _ _ ?_); refine JC.seq (fun K7 hK7 => ?_)
   apply JC.drawX (α := Nat × Unit) 4 (fun x => match x with | ⟨xu, uu⟩ => [.slice (some ⟨b7, 0, none⟩) 16 16, .slice a bs.length c, .int .i64 ((at_ : Nat) : Int), .slice q1 (bs.length - at_) (c - at_)]) (fun m x => match x with | ⟨xu, uu⟩ => fun w1 => (True) ∧ St w [] ((b7, cb (cI zI) 23) :: (b4, cb (cI zI) 23) :: []) w1) Ty.mixed rfl rfl rfl (by kernel_rfl) rfl rfl ?hinit ?hstep ?htail
   case hinit => exact fun w1 hw => ⟨(0, ()), trivial, hw.drew⟩
   case hstep =>
    refine ⟨fun m x hm hp => ?_, fun m x hm hp => ?_, fun m x hm hp => ?_, fun m x hm hp => ?_, trivial⟩
    ·obtain ⟨xu, uu⟩ := x
     show J _ _ _ _ _ (_) _
     refine J.pr (fun hF => ?_); refine J.sliceA (i := 0) (j := 16) Ty.ar23 Ty.s5 rfl rfl rfl rfl rfl (by omega) (by omega) rfl ?_
     exact J.finX rfl (fun _ hw => ⟨⟨xu, uu⟩, rfl, fun _ _ _ => rfl, hF, hw⟩)
    ·obtain ⟨xu, uu⟩ := x
     show J _ _ _ _ _ (_) _
     refine J.pr (fun hF => ?_); refine J.move rfl rfl ?_
     exact J.finX rfl (fun _ hw => ⟨⟨xu, uu⟩, rfl, fun _ _ _ => rfl, hF, hw⟩)
    ·obtain ⟨xu, uu⟩ := x
     show J _ _ _ _ _ (_) _
     refine J.pr (fun hF => ?_); refine J.move rfl rfl ?_
     exact J.finX rfl (fun _ hw => ⟨⟨xu, uu⟩, rfl, fun _ _ _ => rfl, hF, hw⟩)
    ·obtain ⟨xu, uu⟩ := x
     show J _ _ _ _ _ ((27, .int .i64 ((at_ : Nat) : Int)) :: (26, .slice a bs.length c) :: _) _
     refine J.pr (fun hF => ?_); refine J.sliceS (i := at_) (j := bs.length) Ty.el26 Ty.s5 rfl rfl rfl (by simp [bnd]) rfl (by omega) (by omega) (by omega) rfl ?_; refine J.name 28 rfl (show _ = Value.slice q1 (bs.length - at_) (c - at_) by rw [hq1]) ?_
     exact J.finX rfl (fun _ hw => ⟨⟨xu, uu⟩, rfl, fun _ _ _ => rfl, hF, hw⟩)
   case htail =>
    intro x
    obtain ⟨xu, uu⟩ := x
    show J _ _ _ _ _ ((28, .slice q1 (bs.length - at_) (c - at_)) :: (27, .int .i64 ((at_ : Nat) : Int)) :: (26, .slice a bs.length c) :: (25, .slice (some ⟨b7, 0, none⟩) 16 16) :: _) (fun w1 => (True) ∧ St w [] ((b7, cb (cI zI) 23) :: (b4, cb (cI zI) 23) :: []) w1)
    refine J.pr (fun hF => ?_); refine J.copy (m := bs.length - at_) (kb := 16) (cs := cI zI) (ys := (bs.drop at_).map u8) (tb := 23) (o := 0) Ty.el26 Ty.s5 rfl rfl (fun w1 hw => ⟨hr1.below (hw.drop (List.nil_sublist _)).below, _, _, rfl⟩) (by rw [List.length_map, List.length_drop]) (one_u8 _) (by omega) .here (by decide) (.inr ⟨_, rfl, rfl⟩) ?_
    rw [show setMany (cI zI) 0 (((bs.drop at_).map u8).take 16) = cI (idB ((bs.drop at_).take 16)) by rw [← List.map_take, cI_idB hx16]; exact setMany_all (by rw [List.length_map, hx16]; rfl)]
    refine J.nil ?_; refine JX.thenN (hK7 _ _ ?_); refine JC.seq (fun K8 hK8 => ?_); refine JC.region ?_; refine J.loadA (vs := cI (idB ((bs.drop at_).take 16))) Ty.a23 Ty.s23 rfl rfl (fun w1 hw => Cells.of_block (hw.own (b7, cb (cI (idB ((bs.drop at_).take 16))) 23) zm) rfl) rfl ?_; refine J.move rfl rfl ?_; refine J.addN rfl rfl (by omega) (by omega) rfl ?_; refine J.name 32 rfl (show _ = Value.int .i64 ((at_ + 16 : Nat) : Int) from congrArg (Value.int .i64) (by omega)) ?_; refine J.storeW (cs := cI zI) (vs := cI (idB ((bs.drop at_).take 16))) Ty.s23 rfl rfl rfl rfl rfl (one_cI _) (.there .here) ?_; refine J.assign rfl rfl ?_; refine J.assign rfl rfl ?_; refine J.nil ?_; refine JX.thenN (hK8 _ _ ?_); refine JC.ret ?_; refine JX.retCTT (vs := cI (idB ((bs.drop at_).take 16))) rfl rfl rfl rfl Ty.a23 Ty.s23 rfl (fun w1 hw => Cells.of_block (hw.own (b4, cb (cI (idB ((bs.drop at_).take 16))) 23) zm) rfl) (fun w1 hw => ?_)
    exact ⟨by rw [hg] <;> rfl, (hw.drop (List.nil_sublist _)).below⟩

theorem getText_spec (v : Value) (bs : List UInt8) (at_ most : Nat) (w : World) (hr : Row w v bs.length (bs.map u8)) (hl : bs.length ≤ 100000) (hal : at_ ≤ 1000000) (hmo : most ≤ 100000) :
  Calls Try.prog 66 [v, .int .i64 ((at_ : Nat) : Int), .int .i64 ((most : Nat) : Int)].toArray w fun r w' => ∃ x : Value × List (Nat × Obj), r = .returned (.tuple #[x.1, .int .i64 (((getT bs at_ most).2.1 : Nat) : Int), .int .i64 (getT bs at_ most).2.2]) ∧ Vec 5 1 x.1 ((getT bs at_ most).1).length (((getT bs at_ most).1).map u8) x.2 ∧ St w [] x.2 w' := by
 obtain ⟨a, c, rfl, hc, hra⟩ := id hr
 obtain ⟨⟨n0, p0, e0⟩, hG⟩ : ∃ x, getN bs at_ = x := ⟨_, rfl⟩
 have hn0 := getN_u64 bs at_
 have hp0 := getN_end bs at_
 rw [hG] at hn0 hp0
 simp only at hn0 hp0
 refine calls_of_J (args := [.slice a bs.length c, .int .i64 ((at_ : Nat) : Int), .int .i64 ((most : Nat) : Int)]) (e := [(0, .slice a bs.length c), (1, .int .i64 ((at_ : Nat) : Int)), (2, .int .i64 ((most : Nat) : Int))]) Try.func66 rfl rfl ⟨rfl, rfl, rfl, trivial⟩ (St.start w) ?_; refine JC.seq (fun K0 hK0 => ?_); refine JC.region ?_; refine J.assign rfl rfl ?_; refine J.assign rfl rfl ?_; refine J.assign rfl rfl ?_; refine J.nil ?_; refine JX.thenN (hK0 _ _ ?_); refine JC.seq (fun K1 hK1 => ?_); refine JC.region ?_; refine J.move rfl rfl ?_; refine J.move rfl rfl ?_; refine J.callB (v := .tuple #[.int .u64 ((n0 : Nat) : Int), .int .i64 ((p0 : Nat) : Int), .int .i64 e0]) (fun w1 w2 hw hb => hw.step hb) Ty.bd64 rfl rfl (fun w1 hw => by have h9 := getNum_spec _ bs at_ w1 (hr.below (hw.drop (List.nil_sublist _)).below) hl hal; rw [hG] at h9; exact h9) ?_; refine J.move rfl rfl ?_; refine J.extract rfl rfl rfl ?_; refine J.extract rfl rfl rfl ?_; refine J.extract rfl rfl rfl ?_; refine J.assign rfl rfl ?_; refine J.assign rfl rfl ?_; refine J.assign rfl rfl ?_; refine J.nil ?_; refine JX.thenN (hK1 _ _ ?_); refine JC.seq (fun K2 hK2 => ?_); refine JC.block ?_; refine JC.seq (fun K3 hK3 => ?_); refine JC.region ?_; refine J.move rfl rfl ?_; refine J.bin rfl rfl rfl rfl ?_; refine J.assign rfl rfl ?_; refine J.nil ?_; refine JX.thenN (hK3 _ _ ?_); refine JC.cond rfl (fun h0 => ?_) (fun h0 => ?_)
 ·have hne : e0 ≠ 0 := by simpa using h0
  have hg : getT bs at_ most = ([], 0, e0) := by unfold getT; rw [hG]; exact if_pos hne
  refine JC.seq (fun K4 hK4 => ?_); refine JC.region ?_; refine J.move rfl rfl ?_; refine J.assign rfl rfl ?_; refine J.assign rfl rfl ?_; refine J.assign rfl rfl ?_; refine J.nil ?_; refine JX.thenN (hK4 _ _ ?_); refine JC.ret ?_; refine JX.blockR ?_; refine JX.thenR ?_; refine JX.ret3 rfl rfl rfl rfl (fun w1 hw => ?_)
  rw [hg]
  first
  | exact ⟨(_, []), rfl, Vec.nil _ _, hw⟩
  | exact ⟨(v47, l47), rfl, by rw [hxl]; exact hv47, by simpa using hw⟩
 ·have hz : e0 = 0 := by simpa using h0
  subst hz
  refine JC.seq (fun K5 hK5 => ?_); refine JC.region ?_; refine J.move rfl rfl ?_; refine J.bin rfl rfl rfl rfl ?_; refine J.name 24 rfl (show _ = Value.bool false by simp) ?_; refine J.move rfl rfl ?_
  first | refine J.skip rfl rfl rfl rfl rfl ?_ | refine J.skipU rfl rfl rfl rfl ?_ | (refine J.unguard rfl rfl rfl ?_; refine J.move rfl rfl ?_)
  first | refine J.skip rfl rfl rfl rfl rfl ?_ | refine J.skipU rfl rfl rfl rfl ?_ | (refine J.unguard rfl rfl rfl ?_; refine J.move rfl rfl ?_)
  refine J.unguard rfl rfl rfl ?_; refine J.convInt Ty.u3 Ty.u81 rfl rfl ?_; refine J.name 28 rfl (show _ = Value.int .u64 ((most : Nat) : Int) from congrArg (Value.int .u64) (wrap_u64 (by omega) (by omega))) ?_
  first | refine J.skip rfl rfl rfl rfl rfl ?_ | refine J.skipU rfl rfl rfl rfl ?_ | (refine J.unguard rfl rfl rfl ?_; refine J.bin rfl rfl rfl rfl ?_)
  (first | refine J.pickT rfl rfl rfl ?_ | refine J.pickF rfl rfl rfl ?_)
  refine J.assign rfl rfl ?_; refine J.nil ?_; refine JX.thenN (hK5 _ _ ?_); refine JC.cond rfl (fun h1 => ?_) (fun h1 => ?_)
  ·have hg : getT bs at_ most = ([], 0, 4) := by unfold getT; rw [hG]; simp only; rw [if_neg (by simp), if_pos (by simp at h1; omega)]
   refine JC.seq (fun K6 hK6 => ?_); refine JC.region ?_; refine J.assign rfl rfl ?_; refine J.assign rfl rfl ?_; refine J.assign rfl rfl ?_; refine J.nil ?_; refine JX.thenN (hK6 _ _ ?_); refine JC.ret ?_; refine JX.blockR ?_; refine JX.thenR ?_; refine JX.ret3 rfl rfl rfl rfl (fun w1 hw => ?_)
   rw [hg]
   first
   | exact ⟨(_, []), rfl, Vec.nil _ _, hw⟩
   | exact ⟨(v47, l47), rfl, by rw [hxl]; exact hv47, by simpa using hw⟩
  ·have hn1 : n0 ≤ most := by simp at h1; omega
   refine JC.seq (fun K7 hK7 => ?_); refine JC.region ?_; refine J.move rfl rfl ?_; refine J.move rfl rfl ?_; refine J.lenS rfl Ty.u26 rfl rfl ?_; refine J.move rfl rfl ?_; refine J.subN rfl rfl (by omega) (by omega) rfl ?_; refine J.convInt Ty.u3 Ty.u81 rfl rfl ?_; refine J.name 37 rfl (show _ = Value.int .u64 ((bs.length - p0 : Nat) : Int) from congrArg (Value.int .u64) ((wrap_u64 (by omega) (by omega)).trans (by omega))) ?_; refine J.bin rfl rfl rfl rfl ?_; refine J.assign rfl rfl ?_; refine J.nil ?_; refine JX.thenN (hK7 _ _ ?_); refine JC.cond rfl (fun h2 => ?_) (fun h2 => ?_)
   ·have hg : getT bs at_ most = ([], 0, 3) := by unfold getT; rw [hG]; simp only; rw [if_neg (by simp), if_neg (by omega), if_pos (by simp at h2; omega)]
    refine JC.seq (fun K8 hK8 => ?_); refine JC.region ?_; refine J.assign rfl rfl ?_; refine J.assign rfl rfl ?_; refine J.assign rfl rfl ?_; refine J.nil ?_; refine JX.thenN (hK8 _ _ ?_); refine JC.ret ?_; refine JX.blockR ?_; refine JX.thenR ?_; refine JX.ret3 rfl rfl rfl rfl (fun w1 hw => ?_)
    rw [hg]
    first
    | exact ⟨(_, []), rfl, Vec.nil _ _, hw⟩
    | exact ⟨(v47, l47), rfl, by rw [hxl]; exact hv47, by simpa using hw⟩
   ·have hn2 : n0 ≤ bs.length - p0 := by simp at h2; omega
    have hg : getT bs at_ most = ((bs.drop p0).take n0, p0 + n0, 0) := by unfold getT; rw [hG]; simp only; rw [if_neg (by simp), if_neg (by omega), if_neg (by omega)]
    have hr1 := row_subB hr rfl (i := p0) (j := p0 + n0) (by omega) (by omega)
    obtain ⟨q1, hq1⟩ : ∃ q, (if c = p0 then a else a.map (·.add (p0 * 1))) = q := ⟨_, rfl⟩
    rw [hq1, Nat.add_sub_cancel_left] at hr1
    have hxl : ((bs.drop p0).take n0).length = n0 := by rw [List.length_take, List.length_drop]; omega
    refine JC.skip ?_; refine JX.blockN ?_; refine JX.thenN (hK2 _ _ ?_); refine JC.seq (fun K9 hK9 => ?_); refine JC.region ?_; refine J.buildSl (cs := []) Ty.el26 Ty.s5 Ty.z5 rfl rfl rfl rfl rfl rfl rfl (fun b39 => ?_); refine J.move rfl rfl ?_; refine J.move rfl rfl ?_; refine J.move rfl rfl ?_; refine J.move rfl rfl ?_; refine J.convInt Ty.u81 Ty.u3 rfl rfl ?_; refine J.name 44 rfl (show _ = Value.int .i64 ((n0 : Nat) : Int) from congrArg (Value.int .i64) (wrap_i64 (by omega) (by omega))) ?_; refine J.addN rfl rfl (by omega) (by omega) rfl ?_; refine J.name 45 rfl (show _ = Value.int .i64 ((p0 + n0 : Nat) : Int) from congrArg (Value.int .i64) (by omega)) ?_; refine J.sliceS (i := p0) (j := p0 + n0) Ty.el26 Ty.s5 rfl rfl rfl (by simp [bnd]) (by simp [bnd]; omega) (by omega) (by omega) (by omega) rfl ?_; refine J.name 46 rfl (show _ = Value.slice q1 n0 (c - p0) by rw [hq1, Nat.add_sub_cancel_left]) ?_; refine J.append (lp := [(b39, cb [] 5)]) (xs := []) (ys := ((bs.drop p0).take n0).map u8) (k := 0) (m := n0) Ty.el26 Ty.s5 Ty.b5 Ty.z5 rfl (.inl ⟨5, Ty.u26⟩) rfl rfl ⟨rfl, .inr ⟨b39, 0, [], rfl, rfl, rfl, Nat.le_refl _⟩⟩ (fun w1 hw => .inl (hr1.below (hw.drop (List.nil_sublist _)).below)) (by rw [List.length_map, hxl, Nat.mul_one]) (one_u8 _) (by omega) (by omega) rfl (fun v47 l47 hv47 => ?_)
    rw [Nat.zero_add, List.nil_append] at hv47
    refine J.move rfl rfl ?_; refine J.move rfl rfl ?_; refine J.convInt Ty.u81 Ty.u3 rfl rfl ?_; refine J.name 50 rfl (show _ = Value.int .i64 ((n0 : Nat) : Int) from congrArg (Value.int .i64) (wrap_i64 (by omega) (by omega))) ?_; refine J.addN rfl rfl (by omega) (by omega) rfl ?_; refine J.name 51 rfl (show _ = Value.int .i64 ((p0 + n0 : Nat) : Int) from congrArg (Value.int .i64) (by omega)) ?_; refine J.assign rfl rfl ?_; refine J.assign rfl rfl ?_; refine J.assign rfl rfl ?_; refine J.nil ?_; refine JX.thenN (hK9 _ _ ?_); refine JC.ret ?_; refine JX.ret3 rfl rfl rfl rfl (fun w1 hw => ?_)
    rw [hg]
    first
    | exact ⟨(_, []), rfl, Vec.nil _ _, hw⟩
    | exact ⟨(v47, l47), rfl, by rw [hxl]; exact hv47, by simpa using hw⟩

end Go.Proofs.Ytoaenmlhehcjfaa
/-
 The calculus: ranging over a map; a range over an iterator function, and its rounds. Proved over any program.
-/
namespace Go.J
open Go.RowKit
open Go.ChangeMaps (setBlock)
set_option linter.unusedVariables false
set_option linter.unusedSimpArgs false

/- ranging over a map -/
/-- where an iterator over a map stands: the stamps of the entries that came -/
def IterAt (b : Nat) (es : Array MapEntry) (clock : Nat) (sn : List Nat) (o : Obj) : Prop :=
 ∃ since c0, o = .mapIter (some b) since sn.toArray c0 ∧ since ≤ c0 ∧ since ≤ clock ∧ ∀ x, x ∈ es.toList → x.born < since
/-- it has just handed out an entry -/
def IterOn (b : Nat) (es : Array MapEntry) (clock : Nat) (sn : List Nat) (en : MapEntry) (o : Obj) : Prop :=
 ∃ since, o = .mapIter (some b) since (sn.toArray.push en.born) clock ∧ since ≤ clock ∧ ∀ x, x ∈ es.toList → x.born < since
theorem IterOn.at {b : Nat} {es : Array MapEntry} {clock : Nat} {sn : List Nat} {en : MapEntry} {o : Obj} (h : IterOn b es clock sn en o) : IterAt b es clock (sn ++ [en.born]) o := by
 obtain ⟨since, h1, h2, h3⟩ := h
 exact ⟨since, clock, by rw [h1]; simp, h2, h2, h3⟩
def nextA : Option MapEntry → Array Value
 | none => #[.bool false]
 | some e => #[.bool true, e.key, e.val]
theorem nextA_0 (eo : Option MapEntry) : (nextA eo)[0]? = some (.bool eo.isSome) := by cases eo <;> rfl
/-- what a step of it does -/
def NextTo (b : Nat) (es : Array MapEntry) (clock : Nat) (sn : List Nat) (o : Obj) : Option MapEntry → Obj → Prop
 | none, o' => o' = o ∧ ∀ x, x ∈ es.toList → x.born ∈ sn
 | some en, o' => en ∈ es.toList ∧ en.born ∉ sn ∧ IterOn b es clock sn en o'

section
variable {P : Program} {ops : Array Oper} {Q : Exit → Act → World → Prop} {n : Nat} {e : Env} {I I' : World → Prop} {rest : List Oper}
variable {d t : Nat} {p : String} {af : Array Edge} {x y z : Operand} {v v1 v2 : Value} {w0 : World} {S : List Nat} {l l' : List (Nat × Obj)}

theorem J.range {ty kt et b clock : Nat} {es : Array MapEntry} (hu : P.underlying ty = some (.map kt et)) (hx : ev e x = some (.map (some b))) (hb : ∀ w, St w0 S l w → w.heap[b]? = some (.map es clock))
  (hst : ∀ x, x ∈ es.toList → x.born < clock) (hd : Nat.blt d n = true)
  (h : ∀ r o, IterAt b es clock [] o → J P ops Q n rest ((d, .pointer (some ⟨r, 0, none⟩)) :: e) (St w0 S ((r, o) :: l))) :
  J P ops Q n (⟨some d, .range ty x, t, p, af, none⟩ :: rest) e (St w0 S l) := by
 refine J.valueEx (V := fun r => .pointer (some ⟨r, 0, none⟩)) (I' := fun r => St w0 S ((r, .mapIter (some b) clock #[] clock) :: l)) hd (fun T w ht hw => ⟨w.heap.size, w.alloc (.mapIter (some b) clock #[] clock), ?_, ?_⟩) (fun r => h r _ ⟨clock, clock, rfl, Nat.le_refl _, Nat.le_refl _, hst⟩)
 ·simp [execOp, ht.eval hx, run_range_map w ty kt et b es clock hu (hb w hw)]
 ·exact hw.new (below_alloc' w _) (Nat.le_refl _) (alloc_at w _)

theorem J.next {b r clock : Nat} {es : Array MapEntry} {sn : List Nat} {o : Obj} {l' : Obj → List (Nat × Obj)} (hx : ev e x = some (.pointer (some ⟨r, 0, none⟩))) (hu : ∀ o', Up l r o o' (l' o')) (hI : IterAt b es clock sn o)
  (hb : ∀ w, St w0 S l w → w.heap[b]? = some (.map es clock)) (hd : Nat.blt d n = true)
  (h : ∀ eo o', NextTo b es clock sn o eo o' → J P ops Q n rest ((d, .tuple (nextA eo)) :: e) (St w0 S (l' o'))) :
  J P ops Q n (⟨some d, .next x false, t, p, af, none⟩ :: rest) e (St w0 S l) := by
 refine J.valueEx (α := Option MapEntry × Obj) (V := fun q => .tuple (nextA q.1)) (I' := fun q w => NextTo b es clock sn o q.1 q.2 ∧ St w0 S (l' q.2) w) hd (fun T w ht hw => ?_) (fun q => J.pr fun hq => h q.1 q.2 hq)
 obtain ⟨since, c0, rfl, h1, h2, h3⟩ := hI
 have hr := hw.own _ (hu (.mapIter (some b) since sn.toArray c0)).mem
 rcases run_next_at (P := P) w t r b since c0 sn.toArray es clock hr (hb w hw) h3 h1 with ⟨h0, hrun⟩ | ⟨en, he, w1, hal, hrun⟩
 ·refine ⟨(none, _), w, ?_, ⟨rfl, fun x hx => ?_⟩, hw.set (hu _) rfl rfl rfl (Nat.le_refl _) rfl hr (fun _ _ _ => rfl)⟩
  ·simp [execOp, ht.eval hx, hrun, nextA]
  ·have := all_seen es sn.toArray h0 x hx
   simpa using this
 ·obtain ⟨hem, hes⟩ := mem_left he
  have hw1 : St w0 S l w1 := by
   rcases hal with rfl | rfl
   ·exact hw
   ·exact hw.step ((Bel.refl w).drew)
  have hr1 := hw1.own _ (hu (.mapIter (some b) since sn.toArray c0)).mem
  refine ⟨(some en, .mapIter (some b) since (sn.toArray.push en.born) clock), setBlock w1 r (.mapIter (some b) since (sn.toArray.push en.born) clock), ?_, ⟨hem, by simpa using hes, since, rfl, h2, h3⟩, hw1.wrote (hu _) (wrote_set hr1)⟩
  simp [execOp, ht.eval hx, hrun, nextA]
theorem J.entry {b r clock : Nat} {es : Array MapEntry} {sn : List Nat} {en : MapEntry} {o : Obj} (hx : ev e x = some (.pointer (some ⟨r, 0, none⟩))) (hm : (r, o) ∈ l) (hI : IterOn b es clock sn en o) (he : en ∈ es.toList) (hn : (es.toList.map (·.born)).Nodup)
  (hb : ∀ w, St w0 S l w → w.heap[b]? = some (.map es clock)) (hd : Nat.blt d n = true)
  (h : J P ops Q n rest ((d, .tuple #[en.key, en.val]) :: e) (St w0 S l)) :
  J P ops Q n (⟨some d, .entry x, t, p, af, none⟩ :: rest) e (St w0 S l) := by
 obtain ⟨since, rfl, h1, h2⟩ := hI
 refine J.value hd (fun T w ht hw => ⟨w, ?_, hw⟩) h
 have hrun := run_entry_at (P := P) w r b since sn.toArray es clock en (hw.own _ hm) (hb w hw) he hn
 simp [execOp, ht.eval hx, hrun]

end
/- taking an entry out of a map -/
section
variable {P : Program} {ops : Array Oper} {Q : Exit → Act → World → Prop} {n : Nat} {e : Env} {I I' : World → Prop} {rest : List Oper}
variable {d t : Nat} {p : String} {af : Array Edge} {x y z : Operand} {v v1 v2 : Value} {w0 : World} {S : List Nat} {l l' : List (Nat × Obj)}
/- operations in a round's frame; yield -/
/-- a call of yield: its run, and the round -/
def YieldTo (F : Fence) (m : Nat) (P : Program) (l : Nat) (args : Array Value) (W : World) (R : Ending → World → Prop) : Prop :=
 ∃ fn tmps assign body, (Instr.yield l args).run P W = .ok (.round l fn tmps assign body) W ∧ RoundIn F m P l fn tmps assign body W R
abbrev FW (r : Option Nat) : Fence := { fn := fun _ => True, depth := none, alive := false, round := r }
theorem calls_fw {r : Option Nat} {m : Nat} {f : FuncId} {args : Array Value} {w : World} {R : Ending → World → Prop} : CallsIn (FW r) m P f args w R ↔ Calls P f args w R :=
 (callsIn_wide (n := m) (P := P) (f := f) (args := args) (w := w) (R := R))
theorem rows_fw {r : Option Nat} {m : Nat} {row : String} {args : Array Value} {w : World} {R : Value → World → Prop} (h : Rows P row args w R) : RowsIn (FW r) m P row args w R :=
 fun c cs _ => let ⟨v, w', r, s⟩ := h c cs; ⟨v, w', r, stepsIn_wide.2 s⟩
def noDefB (o : Oper) : Bool := match o.op with
 | .defer _ => false
 | _ => true
theorem noDefB.ne {o : Oper} (h : noDefB o = true) : ∀ c, o.op ≠ .defer c := by
 intro c hc
 unfold noDefB at h
 rw [hc] at h
 cases h
theorem uponIn_of {r : Option Nat} {m : Nat} {o : Oper} {a : Act} {next next' : Act → World → Prop} {Q Q' : Exit → Act → World → Prop} {res : Result Next} (hn : ∀ a w, next a w → next' a w) (hQ : ∀ x a w, Q x a w → x = .normal)
  (h : o.upon P a next Q res) : o.uponIn (FW r) m P a next' Q' res := by
 match res, h with
 | .ok (.value v) w', h => exact hn _ _ h
 | .ok .skip w', h => exact hn _ _ h
 | .ok (.defer d) w', h => exact hn _ _ h
 | .ok (.enter f args) w', h =>
  refine ⟨(fun h => by cases h), calls_fw.2 (Calls.mono h fun r w'' hr => ?_)⟩
  match r, hr with
  | .returned v, hr => exact hn _ _ hr
  | .panicked c, hr => cases hQ _ _ _ hr
  | .outgrown, hr => obtain ⟨_, _, hr⟩ := hr; cases hQ _ _ _ hr
 | .ok (.row row args) w', h => exact ⟨(fun h => by cases h), rows_fw (Rows.mono h fun v w'' hr => hn _ _ hr)⟩
 | .halt (.panic v) w', h => cases hQ _ _ _ h
theorem wpListIn_of {r : Option Nat} {Q Q' : Exit → Act → World → Prop} (hQ : ∀ x a w, Q x a w → x = .normal) (hk : ∀ a w, Q .normal a w → wpListIn (FW r) 0 P ops Q' rest a w) :
  ∀ {os : List Oper}, os.all noDefB = true → ∀ a w, wpList P ops Q os a w → wpListIn (FW r) 0 P ops Q' (os ++ rest) a w
 | [], _, a, w, h => hk a w h
 | o :: os, hnd, a, w, h => by
  simp only [List.all_cons, Bool.and_eq_true] at hnd
  have ih := wpListIn_of hQ hk hnd.2
  simp only [wpList] at h
  show (if Region.wanted o (yielded ops a.tmps) then o.wpIn (FW r) 0 P a w (wpListIn (FW r) 0 P ops Q' (os ++ rest)) Q' else (∀ f, o.about P w a.eval = some f → (FW r).fn f) ∧ wpListIn (FW r) 0 P ops Q' (os ++ rest) (a.put o.dst undef) w)
  split
  ·rename_i hw
   rw [if_pos hw] at h
   rcases h with h | ⟨_, _, _, h⟩
   ·refine ⟨fun _ _ => trivial, ?_⟩
    rw [Oper.semAt_eq _ _ _ (noDefB.ne hnd.1)]
    exact uponIn_of ih hQ h
   ·cases hQ _ _ _ h
  ·rename_i hw
   rw [if_neg hw] at h
   exact ⟨fun _ _ => trivial, ih _ _ h⟩
def QX {α : Type} (n : Nat) (E : α → Env) (I' : α → World → Prop) : Exit → Act → World → Prop := fun x a w => x = .normal ∧ ∃ z, a.defers = [] ∧ Rep n a.tmps (E z) ∧ I' z w
theorem QX.normal {α : Type} {n : Nat} {E : α → Env} {I' : α → World → Prop} : ∀ x a w, QX n E I' x a w → x = .normal := fun _ _ _ h => h.1
def JI (P : Program) (r : Option Nat) (ops : Array Oper) (Q : Exit → Act → World → Prop) (n : Nat) (rest : List Oper) (e : Env) (I : World → Prop) : Prop := ∀ T w, Rep n T e → I w → wpListIn (FW r) 0 P ops Q rest (act T) w
theorem JI.steps {α : Type} {r : Option Nat} {os : List Oper} (E : α → Env) (I' : α → World → Prop) (hnd : os.all noDefB = true) (h1 : J P ops (QX n E I') n os e I) (h2 : ∀ z, JI P r ops Q n rest (E z) (I' z)) : JI P r ops Q n (os ++ rest) e I := by
 intro T w ht hw
 refine wpListIn_of QX.normal (fun a w h => ?_) hnd (act T) w (h1 T w ht hw)
 obtain ⟨_, z, hd, hr, hi⟩ := h
 obtain ⟨t1, d1⟩ := a
 simp only at hd hr
 subst hd
 exact h2 z t1 w hr hi
theorem JI.nil {r : Option Nat} (h : JX Q n .normal e I) : JI P r ops Q n [] e I := fun T w ht hw => h T w ht hw
theorem JX.qx {α : Type} {E : α → Env} {I' : α → World → Prop} (z : α) (hc : Cov e (E z)) (hi : ∀ w, I w → I' z w) : JX (QX n E I') n .normal e I := fun T w ht hw => ⟨rfl, z, rfl, ht.cov hc, hi w hw⟩
theorem JC.regionI {id : Nat} {l : List Oper} (h : JI P none l.toArray Q n l e I) : JC P Q n (.region id l.toArray false) e I :=
 fun T w ht hw => (wpIn_wide (n := 0)).1 (wpIn_region_lit (h T w ht hw))
/-- a call of yield -/
theorem JI.yield {lb : Nat} {xs : List Operand} {ats : Array TypeId} {vs : List Value} {R : Value → World → Prop} (hy : ev e y = some (.func (.yield lb) #[] #[])) (hx : evs e xs = some vs) (hd : Nat.blt d n = true)
  (hc : ∀ w, I w → YieldTo (FW none) 0 P lb vs.toArray w fun r w' => ∃ v, r = .returned v ∧ R v w')
  (h : ∀ v, JI P none ops Q n rest ((d, v) :: e) (R v)) : JI P none ops Q n (⟨some d, .call ⟨.value y, xs.toArray, ats⟩, t, p, af, none⟩ :: rest) e I := by
 intro T w ht hw
 obtain ⟨fn, tmps, assign, body, hyr, hR⟩ := hc w hw
 have hr : (execOp (act T).eval ⟨some d, .call ⟨.value y, xs.toArray, ats⟩, t, p, af, none⟩).run P w = .ok (.round lb fn tmps assign body) w := by
  have := ht.evals hx
  simp [execOp, resolve, ht.eval hy, Deferred.ofValue, invoke, this, hyr]
 show (if Region.wanted _ (yielded ops T) then Oper.wpIn (FW none) 0 P _ (act T) w (wpListIn (FW none) 0 P ops Q rest) Q else _)
 rw [if_pos (by simp [Region.wanted])]
 refine ⟨fun _ _ => trivial, ?_⟩
 rw [Oper.semAt_eq _ _ _ (fun c hc => by cases hc), hr]
 refine ⟨(fun h => by cases h), hR.mono fun r w' ⟨v, hv, hRv⟩ => ?_⟩
 subst hv
 exact h v _ w' (ht.put hd v) hRv
end

/- one round out of its two regions -/
theorem wp_assign_of {α : Type} {P : Program} {r : Option Nat} {n id : Nat} {la : List Oper} {e : Env} {I : World → Prop} {E : α → Env} {I' : α → World → Prop} {Q : Exit → Act → World → Prop} (hnd : la.all noDefB = true) (h1 : J P la.toArray (QX n E I') n la e I)
  {T : Array Value} {w : World} (ht : Rep n T e) (hw : I w) (hk : ∀ z T w, Rep n T (E z) → I' z w → Q .normal (act T) w) : (Code.region id la.toArray false).wpIn (FW r) 0 P Q (act T) w := by
 have h := wpListIn_of (P := P) (ops := la.toArray) (rest := []) (r := r) (Q' := Q) QX.normal (fun a w h => by
  obtain ⟨_, z, hd, hr, hi⟩ := h
  obtain ⟨t1, d1⟩ := a
  simp only at hd hr
  subst hd
  exact hk z t1 w hr hi) hnd (act T) w (h1 T w ht hw)
 rw [List.append_nil] at h
 exact wpIn_region_lit h
theorem roundIn_of_J {α β : Type} {P : Program} {l f n ida idb idc : Nat} {la lb : List Oper} {e : Env} {I : World → Prop} (E1 : α → Env) (I1 I2 : α → World → Prop) (I3 : β → World → Prop) {R : Ending → World → Prop}
  (na : la.all noDefB = true) (nb : lb.all noDefB = true) (h1 : J P la.toArray (QX n E1 I1) n la e I)
  (hb : ∀ z w, I1 z w → ∃ rec, w.heap[l]? = some (.loop rec) ∧ rec.state = .ready ∧ I2 z (w.putObj l (.loop { rec with state := .busy })))
  (h2 : ∀ z, J P lb.toArray (QX n (fun _ : β => []) I3) n lb (E1 z) (I2 z))
  (h3 : ∀ z w, I3 z w → ∃ rec, w.heap[l]? = some (.loop rec) ∧ R (.returned (.bool true)) (w.putObj l (.loop { rec with state := .ready, pending := none })))
  {T : Array Value} {w : World} (ht : Rep n T e) (hw : I w) : RoundIn (FW none) 0 P l f T (.region ida la.toArray false) (.block idb (.region idc lb.toArray false)) w R := by
 refine roundIn_of_wpIn (F := FW none) trivial ?_
 refine wp_assign_of (r := some l) na h1 ht hw fun z T w ht hw => ?_
 obtain ⟨rec, hr1, hr2, hi2⟩ := hb z w hw
 refine ⟨_, run_beginRound hr1 hr2, ?_⟩
 refine wpIn_block (F := FW (some l)) ?_
 refine wp_assign_of (r := some l) nb (h2 z) ht hi2 fun z T w ht hw => ?_
 obtain ⟨rec, hr1, hR⟩ := h3 z w hw
 exact ⟨_, _, run_endRound none hr1, hR⟩

/- the statement; what stands behind it -/
theorem JC.seqRaw {P : Program} {Q : Exit → Act → World → Prop} {n : Nat} {e : Env} {I : World → Prop} {x y : Code} (h : JC P (Exit.then (fun a w => y.wp P Q a w) Q) n x e I) : JC P Q n (.seq x y) e I := fun T w ht hw => wp_seq (h T w ht hw)
def markOf (D : Nat) : List Deferred := [{ target := .collected D, args := #[] }]
theorem JC.rangeF {P : Program} {Q : Exit → Act → World → Prop} {n : Nat} {e : Env} {I : World → Prop} {g : Operand} {f : FuncId} {cs : Array Value} {ps : Array Tmp} {assign body : Code} (hg : ev e g = some (.func (.func f) #[] cs)) (hb : bodyT P f = true)
  (h : ∀ fn T w, Rep n T e → I w → Calls P f (#[.func (.yield (w.heap.size + 1)) #[] #[]] ++ cs) ((w.alloc (.deferred (some []))).alloc (.loop { state := .ready, pending := none, fn, tmps := T, params := ps, assign, body, defers := w.heap.size }))
   (fun r w3 => ∃ v rec, r = .returned v ∧ w3.heap[w.heap.size + 1]? = some (.loop rec) ∧ rec.state = .ready ∧ rec.pending = none ∧ Q .normal ⟨T, markOf w.heap.size⟩ (w3.putObj (w.heap.size + 1) (.loop { rec with state := .exhausted })))) :
  JC P Q n (.rangeFunc g ps assign body) e I := by
 intro T w ht hw
 refine (wpIn_wide (n := 0)).1 (wpIn_rangeFunc (F := Fence.wide) (n := 0) fun fn _ => ?_)
 have hent := run_enterLoop_outer (P := P) (w := w) fn T ps assign body
 have hcall := h fn T w ht hw
 generalize (w.alloc (.deferred (some []))).alloc (.loop { state := .ready, pending := none, fn, tmps := T, params := ps, assign, body, defers := w.heap.size }) = W1 at hent hcall
 refine ⟨w.heap.size + 1, markOf w.heap.size, W1, { target := .fn (.func f) cs, args := #[.func (.yield (w.heap.size + 1)) #[] #[]] }, W1, f, #[.func (.yield (w.heap.size + 1)) #[] #[]] ++ cs, W1, hent, ?_, fun _ _ => trivial, ?_, (fun h => by cases h), ?_⟩
 ·have he := ht.eval hg
  have hc : (act T).eval (.const (.func (.yield (w.heap.size + 1)) #[] #[])) = .func (.yield (w.heap.size + 1)) #[] #[] := rfl
  simp [rangeCall, resolve, he, hc, Deferred.ofValue]
 ·simp [invoke, run_callFunc hb]
 ·refine callsIn_wide.2 (hcall.mono ?_)
  rintro r w3 ⟨v, rec, rfl, hr, hs, hp, hq⟩
  refine ⟨none, _, ?_, hq⟩
  have := run_endLoop (P := P) hr (by rw [hs]; intro h; cases h)
  refine this.trans ?_
  rw [hp]
/-- the same, told by known blocks; the loop's record by its fields -/
structure RecIs (rec : Loop) (fn : FuncId) (T : Array Value) (ps : Array Tmp) (assign body : Code) (D : Nat) : Prop where
 state : rec.state = .ready
 pending : rec.pending = none
 fn : rec.fn = fn
 tmps : rec.tmps = T
 params : rec.params = ps
 assign : rec.assign = assign
 body : rec.body = body
theorem JC.rangeFS {P : Program} {Q : Exit → Act → World → Prop} {n : Nat} {e : Env} {w0 : World} {S : List Nat} {l : List (Nat × Obj)} {g : Operand} {f : FuncId} {cs : Array Value} {ps : Array Tmp} {assign body : Code} (hg : ev e g = some (.func (.func f) #[] cs)) (hb : bodyT P f = true)
  (h : ∀ fn T lb D rec W1, Rep n T e → RecIs rec fn T ps assign body D → St w0 S ((lb, .loop rec) :: (D, .deferred (some [])) :: l) W1 → Calls P f (#[.func (.yield lb) #[] #[]] ++ cs) W1
   (fun r w3 => ∃ v, r = .returned v ∧ w3.heap[lb]? = some (.loop rec) ∧ Q .normal ⟨T, markOf D⟩ (w3.putObj lb (.loop { rec with state := .exhausted })))) :
  JC P Q n (.rangeFunc g ps assign body) e (St w0 S l) := by
 refine JC.rangeF hg hb fun fn T w ht hw => ?_
 have h1 : St w0 S ((w.heap.size, .deferred (some [])) :: l) (w.alloc (.deferred (some []))) := hw.new (below_alloc' w _) (Nat.le_refl _) (alloc_at w _)
 have h2 := h1.new (o := .loop { state := .ready, pending := none, fn := fn, tmps := T, params := ps, assign := assign, body := body, defers := w.heap.size }) (below_alloc' (w.alloc (.deferred (some []))) _) (Nat.le_refl _) (alloc_at _ _)
 rw [show (w.alloc (.deferred (some []))).heap.size = w.heap.size + 1 by simp] at h2
 refine (h fn T (w.heap.size + 1) w.heap.size _ _ ht ⟨rfl, rfl, rfl, rfl, rfl, rfl, rfl⟩ h2).mono ?_
 rintro r w3 ⟨v, rfl, hr, hq⟩
 exact ⟨v, _, rfl, hr, rfl, rfl, hq⟩
theorem wrote_put {w : World} {b : Nat} {o o' : Obj} (hb : w.heap[b]? = some o) : Wrote w (w.putObj b o') b o' := wrote_set hb
theorem zip1 (t : Tmp) (v : Value) (T : Array Value) : ((#[t] : Array Tmp).zip #[v]).foldl (fun tmps (t, a) => tmps.setIfInBounds t a) T = T.setIfInBounds t v := by simp
theorem round1 {F : Fence} {m : Nat} {P : Program} {l f : Nat} {t : Tmp} {v : Value} {T : Array Value} {assign body : Code} {w : World} {R : Ending → World → Prop} (h : RoundIn F m P l f (T.setIfInBounds t v) assign body w R) :
  RoundIn F m P l f (((#[t] : Array Tmp).zip #[v]).foldl (fun tmps (t, a) => tmps.setIfInBounds t a) T) assign body w R := by
 rw [zip1]; exact h
def Act.more (a : Act) (ds : List Deferred) : Act := ⟨a.tmps, a.defers ++ ds⟩
theorem upon_more {P : Program} {o : Oper} {a : Act} {ds : List Deferred} {next next' : Act → World → Prop} {Q Q' : Exit → Act → World → Prop} {res : Result Next} (hn : ∀ a w, next a w → next' (Act.more a ds) w) (hQ : ∀ x a w, Q x a w → x = .normal)
  (h : o.upon P a next Q res) : o.upon P (Act.more a ds) next' Q' res := by
 have put : ∀ (dst : Option Tmp) (v : Value), (Act.more a ds).put dst v = Act.more (a.put dst v) ds := fun dst v => by cases dst <;> rfl
 match res, h with
 | .ok (.value v) w', h => show next' _ _; rw [put]; exact hn _ _ h
 | .ok .skip w', h => show next' _ _; rw [put]; exact hn _ _ h
 | .ok (.defer d) w', h =>
  show next' _ _
  have : (({ (Act.more a ds) with defers := d :: (Act.more a ds).defers } : Act).put o.dst undef) = Act.more (({ a with defers := d :: a.defers } : Act).put o.dst undef) ds := by cases o.dst <;> rfl
  rw [this]; exact hn _ _ h
 | .ok (.enter f args) w', h =>
  refine Calls.mono h fun r w'' hr => ?_
  match r, hr with
  | .returned v, hr => show next' _ _; rw [put]; exact hn _ _ hr
  | .panicked c, hr => cases hQ _ _ _ hr
  | .outgrown, hr => obtain ⟨_, _, hr⟩ := hr; cases hQ _ _ _ hr
 | .ok (.row row args) w', h => exact Rows.mono h fun v w'' hr => by show next' _ _; rw [put]; exact hn _ _ hr
 | .halt (.panic v) w', h => cases hQ _ _ _ h
theorem wpList_more {P : Program} {ops : Array Oper} {ds : List Deferred} {Q Q' : Exit → Act → World → Prop} (hQ : ∀ x a w, Q x a w → x = .normal) (hk : ∀ a w, Q .normal a w → Q' .normal (Act.more a ds) w) :
  ∀ {os : List Oper} (a : Act) (w : World), wpList P ops Q os a w → wpList P ops Q' os (Act.more a ds) w
 | [], a, w, h => hk a w h
 | o :: os, a, w, h => by
  have ih := wpList_more (P := P) (ops := ops) hQ hk (os := os)
  simp only [wpList] at h ⊢
  show (if Region.wanted o (yielded ops a.tmps) then o.wp P (Act.more a ds) w (wpList P ops Q' os) Q' ∨ _ else _)
  split
  ·rename_i hw
   rw [if_pos hw] at h
   rcases h with h | ⟨_, _, _, h⟩
   ·exact .inl (upon_more ih hQ h)
   ·cases hQ _ _ _ h
  ·rename_i hw
   rw [if_neg hw] at h
   have : (Act.more a ds).put o.dst undef = Act.more (a.put o.dst undef) ds := by cases o.dst <;> rfl
   rw [this]
   exact ih _ _ h
/-- a region behind the statement: a mark waits among the deferred calls -/
theorem wp_region_more {α : Type} {P : Program} {n id : Nat} {la : List Oper} {e : Env} {I : World → Prop} {E : α → Env} {I' : α → World → Prop} {ds : List Deferred} {Q : Exit → Act → World → Prop} (h1 : J P la.toArray (QX n E I') n la e I)
  {T : Array Value} {w : World} (ht : Rep n T e) (hw : I w) (hk : ∀ z T w, Rep n T (E z) → I' z w → Q .normal ⟨T, ds⟩ w) : (Code.region id la.toArray false).wp P Q ⟨T, ds⟩ w := by
 refine wp_region_lit ?_
 have := wpList_more (ds := ds) (Q' := Q) QX.normal (fun a w h => by
  obtain ⟨_, z, hd, hr, hi⟩ := h
  obtain ⟨t1, d1⟩ := a
  simp only at hd hr
  subst hd
  exact hk z t1 w hr hi) (act T) w (h1 T w ht hw)
 exact this
theorem calls_of_JM {P : Program} {f : FuncId} {fn : Func} {c : Code} {args : List Value} {w0 w : World} {S : List Nat} {l : List (Nat × Obj)} {R : Ending → World → Prop} {e : Env}
  (hf : P.funcs[f]? = some fn) (hb : fn.body = some c) (hn : Nat.ble args.length fn.ntmps = true) (he : Cov ((List.range args.length).zip args) e) (hst : St w0 S l w)
  (h : JC P (bodyPostM Fence.wide 0 P fn R) fn.ntmps c e (St w0 S l)) : Calls P f args.toArray w R := by
 refine callsIn_wide.1 (callsIn_of_wp_marks (F := Fence.wide) (n := 0) hf hb trivial ((wpIn_wide (n := 0)).2 ?_))
 have hn' : args.length ≤ fn.ntmps := Nat.le_of_ble_eq_true hn
 refine h _ w (Rep.cov ⟨by simp; omega, fun t v hv => ?_⟩ he) hst
 have key : ∀ (l : List Value) (k : Nat), get ((List.range' k l.length).zip l) t = some v → k ≤ t ∧ l[t - k]? = some v := by
  intro l
  induction l with
  | nil => intro k h; simp [J.get] at h
  | cons u l ih =>
   intro k h
   simp only [List.length_cons, List.range'_succ, List.zip_cons_cons, J.get] at h
   cases hk : Nat.beq k t with
   | true =>
    rw [hk] at h
    have : k = t := by simpa using hk
    subst this
    simpa using h
   | false =>
    rw [hk] at h
    obtain ⟨h1, h2⟩ := ih (k + 1) h
    refine ⟨by omega, ?_⟩
    rw [show t - k = (t - (k + 1)) + 1 by omega]
    simpa using h2
 rw [List.range_eq_range'] at hv
 obtain ⟨_, h2⟩ := key args 0 hv
 simp only [Nat.sub_zero] at h2
 have hlt : t < args.length := (List.getElem?_eq_some_iff.1 h2).1
 rw [Array.getElem?_append_left (by simpa using hlt)]
 simpa using h2
end Go.J
/-
 A map from two identities to a number and an identity. Proved over any program.
-/
namespace Go.J
open Go.RowKit
set_option linter.unusedVariables false
set_option linter.unusedSimpArgs false
/-- a version -/
structure WV where
 n : Int
 who : IDV
deriving instance DecidableEq for WV
abbrev cV (x : WV) : List Value := Value.int .i64 x.n :: cI x.who
abbrev cM (a k : IDV) : List Value := cI a ++ cI k
def zV : WV := ⟨0, fun _ => 0⟩
theorem cM_eq {a k b j : IDV} : cM a k = cM b j ↔ a = b ∧ k = j := by
 show cI a ++ cI k = cI b ++ cI j ↔ _
 rw [app_iff (by rfl), cI_eq, cI_eq]
theorem cV_eq {x y : WV} : cV x = cV y ↔ x = y := by
 obtain ⟨n, a⟩ := x
 obtain ⟨m, b⟩ := y
 show Value.int .i64 n :: cI a = Value.int .i64 m :: cI b ↔ _
 rw [List.cons.injEq, cI_eq]
 simp
abbrev BF := IDV → IDV → WV
def updF (F : BF) (a k : IDV) (x : WV) : BF := fun b j => if b = a ∧ j = k then x else F b j
def retF (F : BF) (l : List IDV) : BF := fun b j => if b ∈ l then F b j else zV
/-- what a book's map holds: F's versions, where they aren't zero at least -/
structure Bk (F : BF) (es : Array MapEntry) (clock : Nat) : Prop where
 st : MapKept.Stamped es clock
 at_ : ∀ e, e ∈ es.toList → ∃ a k, e.key = .agg (cM a k).toArray ∧ e.val = .agg (cV (F a k)).toArray
 no : ∀ a k, (∀ e, e ∈ es.toList → e.key ≠ .agg (cM a k).toArray) → F a k = zV
 ok : ∀ a k, okN (F a k).n
theorem okZ : okN zV.n := by decide
theorem Bk.nil : Bk (fun _ _ => zV) #[] 0 := ⟨⟨by simp, by simp, by simp⟩, by simp, fun _ _ _ => rfl, fun _ _ => okZ⟩
theorem Bk.keys {P : Program} {kt : TypeId} {F : BF} {es : Array MapEntry} {clock : Nat} (h : Bk F es clock) (kp : ∀ a k : IDV, ∃ l, keyOf P kt (.agg (cM a k).toArray) = some l) : ∀ e, e ∈ es.toList → ∃ l, keyOf P kt e.key = some l := by
 intro e he
 obtain ⟨a, k, h1, _⟩ := h.at_ e he
 rw [h1]
 exact kp a k
theorem Bk.look {F : BF} {es : Array MapEntry} {clock : Nat} (h : Bk F es clock) {a k : IDV} {v : Value} {ok : Bool} (hl : Look es.toList (.agg (cM a k).toArray) (.agg (cV zV).toArray) v ok) : v = .agg (cV (F a k)).toArray := by
 generalize hk : Value.agg (cM a k).toArray = q at hl
 generalize hz : Value.agg (cV zV).toArray = z at hl
 cases hl with
 | no hno => rw [h.no a k (fun e he => by rw [hk]; exact hno e he), hz]
 | yes j e h1 h2 =>
  obtain ⟨b, i, h3, h4⟩ := h.at_ e (List.mem_of_getElem? h1)
  have h5 := h3.symm.trans (h2.trans hk.symm)
  obtain ⟨rfl, rfl⟩ := cM_eq.1 (agg_inj.1 h5)
  exact h4
theorem run_update_any {P : Program} {w : World} {mt kt et : TypeId} {b clock : Nat} {es : Array MapEntry} {k v : Value} {l : Lit} (hm : P.underlying mt = some (.map kt et)) (K : WideMaps.KeyLaw P kt)
  (hb : w.heap[b]? = some (.map es clock)) (hk : keyOf P kt k = some l) (hes : ∀ e, e ∈ es.toList → ∃ l, keyOf P kt e.key = some l) :
  ∃ es' clock', (Instr.mapUpdate mt (.map (some b)) k v).run P w = .ok () { w with heap := w.heap.setIfInBounds b (.map es' clock') } ∧
   ((es' = es.push { key := k, val := v, born := clock } ∧ clock' = clock + 1 ∧ ∀ e, e ∈ es.toList → e.key ≠ k) ∨ ∃ j e0, es.toList[j]? = some e0 ∧ e0.key = k ∧ es' = es.modify j (fun e => { e with key := k, val := v }) ∧ clock' = clock) := by
 rcases K.find w hk es.toList hes with ⟨h1, h2⟩ | ⟨j, e0, h1, h2, h3⟩
 ·exact ⟨_, _, by simp [Instr.mapUpdate, run_underlying' hm, run_key hb, K.check w _ hk, h1, run_keyset _ hb], .inl ⟨rfl, rfl, h2⟩⟩
 ·have hj : es[j]? = some e0 := by simpa using h2
  exact ⟨es.modify j (fun e => { e with key := k, val := v }), clock, by simp [Instr.mapUpdate, run_underlying' hm, run_key hb, K.check w _ hk, h1, hj, h3, K.stays w hk, run_keyset _ hb], .inr ⟨j, e0, h2, h3, rfl, rfl⟩⟩
theorem Bk.upd {F : BF} {es es' : Array MapEntry} {clock clock' : Nat} {a k : IDV} {x : WV} (h : Bk F es clock) (hx : okN x.n)
  (hc : (es' = es.push { key := .agg (cM a k).toArray, val := .agg (cV x).toArray, born := clock } ∧ clock' = clock + 1 ∧ ∀ e, e ∈ es.toList → e.key ≠ .agg (cM a k).toArray) ∨ ∃ j e0, es.toList[j]? = some e0 ∧ e0.key = .agg (cM a k).toArray ∧ es' = es.modify j (fun e => { e with key := .agg (cM a k).toArray, val := .agg (cV x).toArray }) ∧ clock' = clock) :
  Bk (updF F a k x) es' clock' := by
 have hok : ∀ b j, okN (updF F a k x b j).n := fun b j => by
  unfold updF
  split
  ·exact hx
  ·exact h.ok b j
 rcases hc with ⟨rfl, rfl, hno⟩ | ⟨j, e0, h1, h2, rfl, rfl⟩
 ·refine ⟨MapKept.stamped_push h.st hno, fun e he => ?_, fun b j hn => ?_, hok⟩
  ·simp only [Array.toList_push, List.mem_append, List.mem_singleton] at he
   rcases he with he | rfl
   ·obtain ⟨b, j, h3, h4⟩ := h.at_ e he
    refine ⟨b, j, h3, ?_⟩
    have : ¬ (b = a ∧ j = k) := fun hq => hno e he (by rw [h3, hq.1, hq.2])
    unfold updF
    rw [if_neg this]
    exact h4
   ·exact ⟨a, k, rfl, by unfold updF; rw [if_pos ⟨rfl, rfl⟩]⟩
  ·have h5 : ¬ (b = a ∧ j = k) := fun hq => hn { key := .agg (cM a k).toArray, val := .agg (cV x).toArray, born := clock } (by simp) (by rw [hq.1, hq.2])
   unfold updF
   rw [if_neg h5]
   exact h.no b j (fun e he => hn e (by simp [he]))
 ·have hj : j < es.size := by simpa using (List.getElem?_eq_some_iff.1 h1).1
  have hmem : ∀ e, e ∈ (es.modify j (fun e => { e with key := .agg (cM a k).toArray, val := .agg (cV x).toArray })).toList → (e ∈ es.toList ∧ e.key ≠ .agg (cM a k).toArray) ∨ (e.key = .agg (cM a k).toArray ∧ e.val = .agg (cV x).toArray) := by
   intro e he
   obtain ⟨i, hi⟩ := List.mem_iff_getElem?.1 he
   rw [Array.getElem?_toList, Array.getElem?_modify] at hi
   by_cases hij : j = i
   ·subst hij
    rw [if_pos rfl, ← Array.getElem?_toList, h1] at hi
    simp only [Option.map_some, Option.some.injEq] at hi
    subst hi
    exact .inr ⟨rfl, rfl⟩
   ·rw [if_neg hij, ← Array.getElem?_toList] at hi
    refine .inl ⟨List.mem_of_getElem? hi, fun hk => hij ?_⟩
    have hnd := h.st.2.2
    have hji : (es.toList.map (·.key))[j]? = (es.toList.map (·.key))[i]? := by rw [List.getElem?_map, List.getElem?_map, h1, hi]; simp [h2, hk]
    have hjl : j < (es.toList.map (·.key)).length := by simpa using hj
    exact (List.getElem?_inj hjl hnd).1 hji
  refine ⟨MapKept.stamped_modify h.st j _ (fun _ _ => rfl) (fun e he hje => by rw [← Array.getElem?_toList, h1] at hje; cases hje; exact h2.symm), fun e he => ?_, fun b i hn => ?_, hok⟩
  ·rcases hmem e he with ⟨he, hne⟩ | ⟨hk, hv⟩
   ·obtain ⟨b, i, h3, h4⟩ := h.at_ e he
    refine ⟨b, i, h3, ?_⟩
    have : ¬ (b = a ∧ i = k) := fun hq => hne (by rw [h3, hq.1, hq.2])
    unfold updF
    rw [if_neg this]
    exact h4
   ·exact ⟨a, k, hk, by unfold updF; rw [if_pos ⟨rfl, rfl⟩]; exact hv⟩
  ·have hkeys : ∀ e, e ∈ es.toList → e.key ≠ .agg (cM b i).toArray := by
    intro e he hk
    obtain ⟨q, hq⟩ := List.mem_iff_getElem?.1 he
    have hq2 : (es.modify j (fun e => { e with key := .agg (cM a k).toArray, val := .agg (cV x).toArray })).toList[q]? = some (if j = q then { e with key := .agg (cM a k).toArray, val := .agg (cV x).toArray } else e) := by
     rw [Array.getElem?_toList, Array.getElem?_modify, ← Array.getElem?_toList, hq]
     split <;> rfl
    refine hn _ (List.mem_of_getElem? hq2) ?_
    split
    ·rename_i hjq
     subst hjq
     rw [h1] at hq
     cases hq
     exact h2.symm.trans hk
    ·exact hk
   have h5 : ¬ (b = a ∧ i = k) := fun hq => hkeys e0 (List.mem_of_getElem? h1) (by rw [h2, hq.1, hq.2])
   unfold updF
   rw [if_neg h5]
   exact h.no b i hkeys
section
variable {P : Program} {ops : Array Oper} {Q : Exit → Act → World → Prop} {n : Nat} {e : Env} {I I' : World → Prop} {rest : List Oper}
variable {d t yt : Nat} {p : String} {af : Array Edge} {x y z : Operand} {v v1 v2 : Value} {w0 : World} {S : List Nat} {l l' : List (Nat × Obj)}
/-- where a round over a book's map stands that takes entries out -/
structure RetS where
 es : Array MapEntry
 F : BF
 sn : List Nat
 o : Obj
structure RetI (es0 : Array MapEntry) (F : BF) (fs : List IDV) (b clock : Nat) (s : RetS) : Prop where
 bk : Bk s.F s.es clock
 it : IterAt b s.es clock s.sn s.o
 sub : ∀ e, e ∈ s.es.toList → e ∈ es0.toList
 nd : s.sn.Nodup
 old : ∀ x, x ∈ s.sn → x ∈ es0.toList.map (·.born)
 same : ∀ a k, a ∈ fs → s.F a k = F a k
 seen : ∀ e, e ∈ s.es.toList → e.born ∈ s.sn → ∀ a k, e.key = .agg (cM a k).toArray → a ∈ fs
theorem born_inj {es : Array MapEntry} {clock : Nat} (h : MapKept.Stamped es clock) {x y : MapEntry} (hx : x ∈ es.toList) (hy : y ∈ es.toList) (he : x.born = y.born) : x = y := by
 obtain ⟨i, hi⟩ := List.mem_iff_getElem?.1 hx
 obtain ⟨j, hj⟩ := List.mem_iff_getElem?.1 hy
 have h1 : (es.toList.map (·.born))[i]? = (es.toList.map (·.born))[j]? := by rw [List.getElem?_map, List.getElem?_map, hi, hj]; simp [he]
 have h2 := (List.getElem?_inj (by simpa using (List.getElem?_eq_some_iff.1 hi).1) h.2.1).1 h1
 subst h2
 rw [hi] at hj
 exact Option.some.inj hj
theorem nodup_le {l m : List Nat} (hl : l.Nodup) (hs : ∀ x, x ∈ l → x ∈ m) : l.length ≤ m.length := by
 induction l generalizing m with
 | nil => simp
 | cons a l ih =>
  have h1 := List.nodup_cons.1 hl
  have h2 := ih (m := m.erase a) h1.2 (fun x hx => (List.mem_erase_of_ne (fun e => h1.1 (by rw [← e]; exact hx))).2 (hs x (.tail _ hx)))
  have h3 := List.length_erase_of_mem (hs a (.head _))
  have h4 := List.length_pos_of_mem (hs a (.head _))
  simp only [List.length_cons]
  omega
theorem IterOn.sub {b : Nat} {es es' : Array MapEntry} {clock : Nat} {sn : List Nat} {en : MapEntry} {o : Obj} (h : IterOn b es clock sn en o) (hs : ∀ e, e ∈ es'.toList → e ∈ es.toList) : IterOn b es' clock sn en o := by
 obtain ⟨since, h1, h2, h3⟩ := h
 exact ⟨since, h1, h2, fun x hx => h3 x (hs x hx)⟩
section
variable {es0 : Array MapEntry} {F : BF} {fs : List IDV} {b clock : Nat} {s : RetS} {en : MapEntry} {o' : Obj}
theorem RetI.more (h : RetI es0 F fs b clock s) (hm : en ∈ s.es.toList) (hn : en.born ∉ s.sn) : (s.sn ++ [en.born]).Nodup ∧ (∀ x, x ∈ s.sn ++ [en.born] → x ∈ es0.toList.map (·.born)) ∧ s.sn.length + 1 ≤ es0.size := by
 have h1 : (s.sn ++ [en.born]).Nodup := List.nodup_append.2 ⟨h.nd, by simp, fun x hx y hy e => hn (by simp at hy; rw [← hy, ← e]; exact hx)⟩
 have h2 : ∀ x, x ∈ s.sn ++ [en.born] → x ∈ es0.toList.map (·.born) := fun x hx => (List.mem_append.1 hx).elim (h.old x) (fun hx => by rw [List.mem_singleton.1 hx]; exact List.mem_map.2 ⟨en, h.sub en hm, rfl⟩)
 have h3 := nodup_le h1 h2
 simp at h3
 exact ⟨h1, h2, h3⟩
theorem RetI.keep (h : RetI es0 F fs b clock s) (hm : en ∈ s.es.toList) (hn : en.born ∉ s.sn) (ho : IterOn b s.es clock s.sn en o') {a k : IDV} (hk : en.key = .agg (cM a k).toArray) (ha : a ∈ fs) : RetI es0 F fs b clock ⟨s.es, s.F, s.sn ++ [en.born], o'⟩ := by
 obtain ⟨h1, h2, _⟩ := h.more hm hn
 refine ⟨h.bk, ho.at, h.sub, h1, h2, h.same, fun e he hb a' k' hk' => ?_⟩
 rcases List.mem_append.1 hb with hb | hb
 ·exact h.seen e he hb a' k' hk'
 ·have : e = en := born_inj h.bk.st he hm (List.mem_singleton.1 hb)
  subst this
  have := cM_eq.1 (agg_inj.1 (hk'.symm.trans hk))
  rw [this.1]; exact ha
theorem RetI.done (h : RetI es0 F fs b clock s) (hall : ∀ x, x ∈ s.es.toList → x.born ∈ s.sn) : Bk (retF F fs) s.es clock := by
 have : s.F = retF F fs := by
  funext a k
  unfold retF
  by_cases ha : a ∈ fs
  ·rw [if_pos ha]; exact h.same a k ha
  ·rw [if_neg ha]
   exact h.bk.no a k (fun e he hk => ha (h.seen e he (hall e he) a k hk))
 rw [← this]
 exact h.bk
theorem RetI.start {F : BF} {es : Array MapEntry} {o : Obj} (hb : Bk F es clock) (ho : IterAt b es clock [] o) : RetI es F fs b clock ⟨es, F, [], o⟩ :=
 ⟨hb, ho, fun _ h => h, .nil, by simp, fun _ _ _ => rfl, by simp⟩
end
end
end Go.J
/-
 Items, and a map from identities to items.
-/
namespace Go.Proofs.Ytoaenmlhehcjfaa
open Go.J Go.RowKit
set_option linter.unusedVariables false
set_option linter.unusedSimpArgs false
set_option maxRecDepth 8000
/-- an item as it lies in memory: its value's slice, and that slice's block -/
structure HI where
 key : IDV
 ver : WV
 bs : List UInt8
 sv : Value
 lp : List (Nat × Obj)
/-- an item -/
structure ItV where
 key : IDV
 ver : WV
 bs : List UInt8
deriving DecidableEq
def HI.it (x : HI) : ItV := ⟨x.key, x.ver, x.bs⟩
abbrev cH (x : HI) : List Value := cI x.key ++ cV x.ver ++ [x.sv]
def zH : HI := ⟨zI, zV, [], .slice none 0 0, []⟩
namespace Ty
theorem cVr : Try.prog.cellsOf 25 = 17 := by kernel_rfl
theorem cLL : Try.prog.cellsOf 2 = 1 := by kernel_rfl
theorem fkVr : fieldsK Try.prog 25 = some [(2, 0), (23, 1)] := by kernel_rfl
theorem litsV (x : WV) (hx : okN x.n) (d : Nat) : Try.prog.keyLits (d + 3) 25 (cV x) = some [[.int .i64 x.n], (Go.J.lI x.who).flatten].flatten := by
 refine lits_struct (d := d + 2) fkVr (by rw [cVr]; rfl) ?_
 have h1 : Try.prog.keyLits (d + 2) 2 [.int .i64 x.n] = some [.int .i64 x.n] := lits_int (d := d + 1) u2 hx
 have h2 := litsI x.who d
 simp only [List.mapM_cons, List.mapM_nil, cLL, cID]
 rw [show ((cV x).drop 0).take 1 = [.int .i64 x.n] from rfl, show ((cV x).drop 1).take 16 = cI x.who from rfl, h1, h2]; rfl
theorem keyV (x : WV) (hx : okN x.n) : ∃ l, keyOf Try.prog 25 (.agg (cV x).toArray) = some l := key_of size_ (by kernel_rfl) (by kernel_rfl) (by rw [cVr]; rfl) (litsV x hx _)
theorem QV : EqL Try.prog 25 := EqL.of (m := 5) (by kernel_rfl) (by omega) (by kernel_rfl) (by kernel_rfl) (by kernel_rfl)
theorem KI : WideMaps.KeyLaw Try.prog 23 := deep_law (m := 5) (by omega) (by kernel_rfl) (by kernel_rfl) (by kernel_rfl)
theorem zVr : zeroT Try.prog 25 = some (.agg (cV zV).toArray) := by kernel_rfl
theorem zIt : zeroT Try.prog 28 = some (.agg (cH zH).toArray) := by kernel_rfl
end Ty
theorem one_cV (x : WV) : ∀ v, v ∈ cV x → v.oneCell' = true := by
 intro v hv
 rcases List.mem_cons.1 hv with rfl | hv
 ·rfl
 ·exact one_cI _ v hv
theorem one_cH {x : HI} {a : Option Addr} {k c : Nat} (h : x.sv = .slice a k c) : ∀ v, v ∈ cH x → v.oneCell' = true := by
 intro v hv
 rcases List.mem_append.1 hv with hv | hv
 ·rcases List.mem_append.1 hv with hv | hv
  ·exact one_cI _ v hv
  ·exact one_cV _ v hv
 ·rw [List.mem_singleton.1 hv, h]; rfl
theorem J.neV {ops : Array Oper} {Q : Exit → Act → World → Prop} {n : Nat} {e : Env} {I : World → Prop} {rest : List Oper} {d t yt : Nat} {p : String} {af : Array Edge} {x y : Operand} {a b : WV} (hx : ev e x = some (.agg (cV a).toArray)) (hy : ev e y = some (.agg (cV b).toArray)) (ha : okN a.n) (hb : okN b.n) (hd : Nat.blt d n = true)
  (h : J Try.prog ops Q n rest ((d, .bool (!decide (a = b))) :: e) I) : J Try.prog ops Q n (⟨some d, .binOp .neq 25 x y yt, t, p, af, none⟩ :: rest) e I := by
 obtain ⟨_, k1⟩ := Ty.keyV a ha
 obtain ⟨_, k2⟩ := Ty.keyV b hb
 refine J.neA Ty.QV hx hy k1 k2 hd fun r hr => ?_
 rw [arr_inj, cV_eq] at hr
 rw [dec_of hr]; exact h
/-- the item of a key -/
def hget (L : List HI) (k : IDV) : Option HI := L.find? (fun h => decide (h.key = k))
def hset (L : List HI) (x : HI) : List HI := if (hget L x.key).isSome then L.map (fun h => if h.key = x.key then x else h) else L ++ [x]
def getV (L : List ItV) (k : IDV) : Option ItV := L.find? (fun h => decide (h.key = k))
def setV (L : List ItV) (x : ItV) : List ItV := if (getV L x.key).isSome then L.map (fun h => if h.key = x.key then x else h) else L ++ [x]
theorem hget_it (L : List HI) (k : IDV) : getV (L.map HI.it) k = (hget L k).map HI.it := by
 unfold getV hget
 rw [List.find?_map]
 rfl
theorem hset_it (L : List HI) (x : HI) : (hset L x).map HI.it = setV (L.map HI.it) x.it := by
 unfold hset setV
 rw [hget_it, Option.isSome_map]
 have e : x.it.key = x.key := rfl
 rw [e]
 split
 ·rw [List.map_map, List.map_map]
  refine List.map_congr_left fun h _ => ?_
  show HI.it (if h.key = x.key then x else h) = if h.key = x.key then x.it else h.it
  split <;> rfl
 ·rw [List.map_append]; rfl
/-- what a vault's map holds -/
structure Vm (L : List HI) (es : Array MapEntry) (clock : Nat) : Prop where
 st : MapKept.Stamped es clock
 eq : es.toList.map (fun e => (e.key, e.val)) = L.map (fun h => (Value.agg (cI h.key).toArray, Value.agg (cH h).toArray))
theorem Vm.nil : Vm [] #[] 0 := ⟨⟨by simp, by simp, by simp⟩, rfl⟩
theorem Vm.keysEq {L : List HI} {es : Array MapEntry} {clock : Nat} (h : Vm L es clock) : es.toList.map (·.key) = L.map (fun h => Value.agg (cI h.key).toArray) := by
 have := congrArg (List.map Prod.fst) h.eq
 rwa [List.map_map, List.map_map] at this
theorem Vm.nodup {L : List HI} {es : Array MapEntry} {clock : Nat} (h : Vm L es clock) : L.Pairwise (fun x y => x.key ≠ y.key) := by
 have h1 : (es.toList.map (·.key)).Nodup := h.st.2.2
 rw [h.keysEq] at h1
 rw [List.Nodup, List.pairwise_map] at h1
 exact h1.imp fun hne e => hne (by rw [e])
theorem Vm.get {L : List HI} {es : Array MapEntry} {clock : Nat} (h : Vm L es clock) {i : Nat} {x : HI} (hx : L[i]? = some x) : ∃ e, es.toList[i]? = some e ∧ e.key = .agg (cI x.key).toArray ∧ e.val = .agg (cH x).toArray := by
 have h1 := congrArg (fun l => l[i]?) h.eq
 simp only [List.getElem?_map, hx, Option.map_some] at h1
 obtain ⟨e, he, h2⟩ := Option.map_eq_some_iff.1 h1
 rw [Prod.mk.injEq] at h2
 exact ⟨e, he, h2.1, h2.2⟩
theorem Vm.get' {L : List HI} {es : Array MapEntry} {clock : Nat} (h : Vm L es clock) {i : Nat} {e : MapEntry} (he : es.toList[i]? = some e) : ∃ x, L[i]? = some x ∧ e.key = .agg (cI x.key).toArray ∧ e.val = .agg (cH x).toArray := by
 have h1 := congrArg (fun l => l[i]?) h.eq
 simp only [List.getElem?_map, he, Option.map_some] at h1
 obtain ⟨x, hx, h2⟩ := Option.map_eq_some_iff.1 h1.symm
 rw [Prod.mk.injEq] at h2
 exact ⟨x, hx, h2.1.symm, h2.2.symm⟩
theorem Vm.keys {P : Program} {kt : TypeId} {L : List HI} {es : Array MapEntry} {clock : Nat} (h : Vm L es clock) (kp : ∀ a : IDV, ∃ l, keyOf P kt (.agg (cI a).toArray) = some l) : ∀ e, e ∈ es.toList → ∃ l, keyOf P kt e.key = some l := by
 intro e he
 obtain ⟨i, hi⟩ := List.mem_iff_getElem?.1 he
 obtain ⟨x, _, h1, _⟩ := h.get' hi
 rw [h1]
 exact kp x.key
theorem hget_none {L : List HI} {k : IDV} : hget L k = none ↔ ∀ x, x ∈ L → x.key ≠ k := by
 unfold hget
 rw [List.find?_eq_none]
 simp
theorem hget_at {L : List HI} (hd : L.Pairwise (fun x y => x.key ≠ y.key)) {i : Nat} {x : HI} (hx : L[i]? = some x) : hget L x.key = some x := by
 induction L generalizing i with
 | nil => cases hx
 | cons y L ih =>
  unfold hget
  rw [List.find?_cons]
  obtain ⟨h1, h2⟩ := List.pairwise_cons.1 hd
  cases i with
  | zero =>
   simp only [List.getElem?_cons_zero, Option.some.injEq] at hx
   subst hx
   simp
  | succ i =>
   rw [List.getElem?_cons_succ] at hx
   have hne : y.key ≠ x.key := h1 x (List.mem_of_getElem? hx)
   rw [decide_eq_false hne]
   exact ih h2 hx
theorem hget_some {L : List HI} {k : IDV} {x : HI} (h : hget L k = some x) : x ∈ L ∧ x.key = k := ⟨List.mem_of_find?_eq_some h, by have := List.find?_some h; simpa using this⟩
theorem Vm.look {L : List HI} {es : Array MapEntry} {clock : Nat} (h : Vm L es clock) {k : IDV} {v : Value} {ok : Bool} (hl : Look es.toList (.agg (cI k).toArray) (.agg (cH zH).toArray) v ok) : v = .agg (cH ((hget L k).getD zH)).toArray ∧ ok = (hget L k).isSome := by
 generalize hk : Value.agg (cI k).toArray = q at hl
 generalize hz : Value.agg (cH zH).toArray = z at hl
 cases hl with
 | no hno =>
  have hn : hget L k = none := hget_none.2 fun x hx e => by
   obtain ⟨i, hi⟩ := List.mem_iff_getElem?.1 hx
   obtain ⟨en, he, h1, _⟩ := h.get hi
   exact hno en (List.mem_of_getElem? he) (by rw [h1, e]; exact hk)
  rw [hn]
  exact ⟨hz.symm, rfl⟩
 | yes j e h1 h2 =>
  obtain ⟨x, hx, h3, h4⟩ := h.get' h1
  have h5 : Value.agg (cI x.key).toArray = Value.agg (cI k).toArray := h3.symm.trans (h2.trans hk.symm)
  have h6 : x.key = k := cI_eq.1 (agg_inj.1 h5)
  have h7 := hget_at h.nodup hx
  rw [h6] at h7
  rw [h7]
  exact ⟨h4, rfl⟩
theorem Vm.upd {L : List HI} {es es' : Array MapEntry} {clock clock' : Nat} {x : HI} (h : Vm L es clock)
  (hc : (es' = es.push { key := .agg (cI x.key).toArray, val := .agg (cH x).toArray, born := clock } ∧ clock' = clock + 1 ∧ ∀ e, e ∈ es.toList → e.key ≠ .agg (cI x.key).toArray) ∨ ∃ j e0, es.toList[j]? = some e0 ∧ e0.key = .agg (cI x.key).toArray ∧ es' = es.modify j (fun e => { e with key := .agg (cI x.key).toArray, val := .agg (cH x).toArray }) ∧ clock' = clock) :
  Vm (hset L x) es' clock' := by
 rcases hc with ⟨rfl, rfl, hno⟩ | ⟨j, e0, h1, h2, rfl, rfl⟩
 ·have hn : hget L x.key = none := hget_none.2 fun y hy e => by
   obtain ⟨i, hi⟩ := List.mem_iff_getElem?.1 hy
   obtain ⟨en, he, h1, _⟩ := h.get hi
   exact hno en (List.mem_of_getElem? he) (by rw [h1, e])
  refine ⟨MapKept.stamped_push h.st hno, ?_⟩
  unfold hset
  rw [hn]
  simp only [Array.toList_push, Option.isSome_none, Bool.false_eq_true, if_false, List.map_append, h.eq]
  rfl
 ·obtain ⟨y, hy, h3, h4⟩ := h.get' h1
  have hyk : y.key = x.key := cI_eq.1 (agg_inj.1 (h3.symm.trans h2))
  have hs : hget L x.key = some y := by rw [← hyk]; exact hget_at h.nodup hy
  refine ⟨MapKept.stamped_modify h.st j _ (fun _ _ => rfl) (fun e he hje => by rw [← Array.getElem?_toList, h1] at hje; cases hje; exact h2.symm), ?_⟩
  unfold hset
  rw [hs]
  refine List.ext_getElem? fun i => ?_
  simp only [Option.isSome_some, if_true, List.getElem?_map, Array.getElem?_toList, Array.getElem?_modify]
  have hi := congrArg (fun l => l[i]?) h.eq
  simp only [List.getElem?_map, Array.getElem?_toList] at hi
  by_cases hij : j = i
  ·subst hij
   rw [if_pos rfl, ← Array.getElem?_toList, h1, hy]
   simp [hyk]
  ·rw [if_neg hij, hi]
   cases hLi : L[i]? with
   | none => rfl
   | some z =>
    have hzk : z.key ≠ x.key := fun e => by
     have hp := List.pairwise_iff_getElem.1 h.nodup
     obtain ⟨l1, l2⟩ := List.getElem?_eq_some_iff.1 hy
     obtain ⟨l3, l4⟩ := List.getElem?_eq_some_iff.1 hLi
     rcases Nat.lt_or_gt_of_ne hij with hlt | hlt
     ·exact hp j i l1 l3 hlt (by rw [l2, l4, hyk, e])
     ·exact hp i j l3 l1 hlt (by rw [l2, l4, hyk, e])
    simp [hzk]
/-- of a list of blocks a part is another one, up to order -/
def SubP (a b : List (Nat × Obj)) : Prop := ∃ c, List.Perm b (a ++ c)
theorem SubP.trans {a b c : List (Nat × Obj)} (h1 : SubP a b) (h2 : SubP b c) : SubP a c := by
 obtain ⟨x, hx⟩ := h1
 obtain ⟨y, hy⟩ := h2
 exact ⟨x ++ y, hy.trans ((hx.append_right y).trans (by rw [List.append_assoc]))⟩
theorem SubP.app {a b : List (Nat × Obj)} (c : List (Nat × Obj)) (h : SubP a b) : SubP (c ++ a) (c ++ b) := by
 obtain ⟨x, hx⟩ := h
 exact ⟨x, by rw [List.append_assoc]; exact hx.append_left c⟩
theorem SubP.st {a b l : List (Nat × Obj)} {w0 w : World} {S : List Nat} (h : SubP a b) (hw : St w0 S (b ++ l) w) : St w0 S (a ++ l) w := by
 obtain ⟨x, hx⟩ := h
 have h1 : List.Perm (b ++ l) (x ++ (a ++ l)) := (hx.append_right l).trans (by rw [List.append_assoc]; exact List.perm_append_comm_assoc a x l)
 exact (hw.perm h1).drop (List.sublist_append_right _ _)
def lpsH (L : List HI) : List (Nat × Obj) := L.flatMap (·.lp)
theorem hset_split {L : List HI} (hd : L.Pairwise (fun x y => x.key ≠ y.key)) {x y : HI} (h : hget L x.key = some y) : ∃ l1 l2, L = l1 ++ y :: l2 ∧ hset L x = l1 ++ x :: l2 := by
 obtain ⟨hy, l1, l2, hL, h1⟩ := List.find?_eq_some_iff_append.1 h
 have hyk : y.key = x.key := by simpa using hy
 refine ⟨l1, l2, hL, ?_⟩
 unfold hset
 rw [h]
 simp only [Option.isSome_some, if_true]
 rw [hL] at hd ⊢
 have hd2 := (List.pairwise_append.1 hd).2.1
 rw [List.map_append, List.map_cons, if_pos hyk]
 have e1 : l1.map (fun h => if h.key = x.key then x else h) = l1 := by
  rw [List.map_congr_left (g := id) fun z hz => ?_, List.map_id]
  have := h1 z hz
  rw [if_neg (by simpa using this)]; rfl
 have e2 : l2.map (fun h => if h.key = x.key then x else h) = l2 := by
  rw [List.map_congr_left (g := id) fun z hz => ?_, List.map_id]
  have := (List.pairwise_cons.1 hd2).1 z hz
  rw [if_neg (fun e => this (hyk.trans e.symm))]; rfl
 rw [e1, e2]
theorem hset_sub {L : List HI} (hd : L.Pairwise (fun x y => x.key ≠ y.key)) (x : HI) : SubP (lpsH (hset L x)) (x.lp ++ lpsH L) := by
 cases h : hget L x.key with
 | none =>
  refine ⟨[], ?_⟩
  unfold hset lpsH
  rw [h, List.append_nil]
  simp only [Option.isSome_none, Bool.false_eq_true, if_false, List.flatMap_append, List.flatMap_cons, List.flatMap_nil, List.append_nil]
  exact List.perm_append_comm
 | some y =>
  obtain ⟨l1, l2, h1, h2⟩ := hset_split hd h
  refine ⟨y.lp, ?_⟩
  rw [h2, h1]
  unfold lpsH
  simp only [List.flatMap_append, List.flatMap_cons]
  exact zp
theorem hset_mem {L : List HI} {x z : HI} (h : z ∈ hset L x) : z = x ∨ z ∈ L := by
 unfold hset at h
 split at h
 ·obtain ⟨y, hy, rfl⟩ := List.mem_map.1 h
  split
  ·exact .inl rfl
  ·exact .inr hy
 ·rcases List.mem_append.1 h with h | h
  ·exact .inr h
  ·exact .inl (List.mem_singleton.1 h)
/-- items whose values are rows -/
abbrev okV (n : Int) : Prop := 0 ≤ n ∧ n < 4611686018427387904
def VOK (L : List HI) : Prop := ∀ x, x ∈ L → okV x.ver.n ∧ Vec 5 1 x.sv x.bs.length (x.bs.map u8) x.lp
theorem VOK.nil : VOK [] := fun _ h => (by cases h)
theorem VOK.set {L : List HI} {x : HI} (h : VOK L) (hx : okV x.ver.n ∧ Vec 5 1 x.sv x.bs.length (x.bs.map u8) x.lp) : VOK (hset L x) := fun z hz => by
 rcases hset_mem hz with rfl | hz
 ·exact hx
 ·exact h z hz
section
variable {P : Program} {ops : Array Oper} {Q : Exit → Act → World → Prop} {n : Nat} {e : Env} {I I' : World → Prop} {rest : List Oper}
variable {d t yt : Nat} {p : String} {af : Array Edge} {x y z : Operand} {v v1 v2 : Value} {w0 : World} {S : List Nat} {l l' : List (Nat × Obj)}
theorem J.lookV1 {mt kt et : TypeId} {b clock : Nat} {es : Array MapEntry} {L : List HI} {k : IDV} (hm : P.underlying mt = some (.map kt et)) (K : WideMaps.KeyLaw P kt) (kp : ∀ a : IDV, ∃ l, keyOf P kt (.agg (cI a).toArray) = some l) (hz : zeroT P et = some (.agg (cH zH).toArray))
  (hx : ev e x = some (.map (some b))) (hy : ev e y = some (.agg (cI k).toArray)) (hT : Vm L es clock) (hb : ∀ w, I w → w.heap[b]? = some (.map es clock)) (hd : Nat.blt d n = true)
  (h : J P ops Q n rest ((d, .agg (cH ((hget L k).getD zH)).toArray) :: e) I) : J P ops Q n (⟨some d, .lookup mt x y false, t, p, af, none⟩ :: rest) e I := by
 obtain ⟨_, k1⟩ := kp k
 refine J.lookup1 hm K hz hx hy hb k1 (hT.keys kp) hd fun u ok hl => ?_
 rw [(hT.look hl).1]
 exact h
theorem J.lookV2 {mt kt et : TypeId} {b clock : Nat} {es : Array MapEntry} {L : List HI} {k : IDV} (hm : P.underlying mt = some (.map kt et)) (K : WideMaps.KeyLaw P kt) (kp : ∀ a : IDV, ∃ l, keyOf P kt (.agg (cI a).toArray) = some l) (hz : zeroT P et = some (.agg (cH zH).toArray))
  (hx : ev e x = some (.map (some b))) (hy : ev e y = some (.agg (cI k).toArray)) (hT : Vm L es clock) (hb : ∀ w, I w → w.heap[b]? = some (.map es clock)) (hd : Nat.blt d n = true)
  (h : J P ops Q n rest ((d, .tuple #[.agg (cH ((hget L k).getD zH)).toArray, .bool (hget L k).isSome]) :: e) I) : J P ops Q n (⟨some d, .lookup mt x y true, t, p, af, none⟩ :: rest) e I := by
 obtain ⟨_, k1⟩ := kp k
 refine J.lookup2 hm K hz hx hy hb k1 (hT.keys kp) hd fun u ok hl => ?_
 rw [(hT.look hl).1, (hT.look hl).2]
 exact h
theorem J.updV {mt kt et : TypeId} {b clock : Nat} {es : Array MapEntry} {L : List HI} {xh : HI} {l' : Array MapEntry → Nat → List (Nat × Obj)} (hm : P.underlying mt = some (.map kt et)) (K : WideMaps.KeyLaw P kt) (kp : ∀ a : IDV, ∃ l, keyOf P kt (.agg (cI a).toArray) = some l)
  (hx : ev e x = some (.map (some b))) (hy : ev e y = some (.agg (cI xh.key).toArray)) (hz : ev e z = some (.agg (cH xh).toArray)) (hT : Vm L es clock) (hu : ∀ es' c', Up l b (.map es clock) (.map es' c') (l' es' c'))
  (h : ∀ es' c', Vm (hset L xh) es' c' → J P ops Q n rest e (St w0 S (l' es' c'))) : J P ops Q n (⟨none, .mapUpdate mt x y z, t, p, af, none⟩ :: rest) e (St w0 S l) := by
 obtain ⟨lk, hlk⟩ := kp xh.key
 obtain ⟨kv, hkv⟩ : ∃ kv, kv = Value.agg (cI xh.key).toArray := ⟨_, rfl⟩
 obtain ⟨uv, huv⟩ : ∃ uv, uv = Value.agg (cH xh).toArray := ⟨_, rfl⟩
 rw [← hkv] at hy hlk
 rw [← huv] at hz
 refine J.skipN (I' := fun w => ∃ q : Array MapEntry × Nat, Vm (hset L xh) q.1 q.2 ∧ St w0 S (l' q.1 q.2) w) (fun T w ht hw => ?_) (J.ex fun q => J.pr fun hq => h q.1 q.2 hq)
 have hb := hw.own _ (hu es clock).mem
 obtain ⟨es', c', hrun, hcase⟩ := run_update_any (v := uv) hm K hb hlk (hT.keys kp)
 rw [hkv, huv] at hcase
 exact ⟨_, by simp [execOp, ht.eval hx, ht.eval hy, ht.eval hz, hrun], (es', c'), hT.upd hcase, hw.wrote (hu es' c') (wrote_set hb)⟩
end
end Go.Proofs.Ytoaenmlhehcjfaa
/-
 vault.Newer, copied, Form: contracts.
-/
namespace Go.Proofs.Ytoaenmlhehcjfaa
open Go.J Go.RowKit
set_option linter.unusedVariables false
set_option linter.unusedSimpArgs false
set_option maxRecDepth 8000
abbrev cT (key : IDV) (ver : WV) (sv : Value) : List Value := cI key ++ cV ver ++ [sv]
/-- is one version behind another one? -/
def newB (a b : WV) : Bool := decide (b.n < a.n) || (decide (a.n = b.n) && decide (valI b.who < valI a.who))
/-- an item's record -/
def formB (x : ItV) : List UInt8 := numB 2 ++ bI x.key ++ numB x.ver.n.toNat ++ bI x.ver.who ++ textB x.bs
theorem set_sv (key : IDV) (ver : WV) (sv v : Value) : setMany (cT key ver sv) 33 [v] = cT key ver v := rfl
theorem one_cT {key : IDV} {ver : WV} {a : Option Addr} {k c : Nat} : ∀ v, v ∈ cT key ver (.slice a k c) → v.oneCell' = true := one_cH (x := ⟨key, ver, [], .slice a k c, []⟩) rfl
theorem textB_le (bs : List UInt8) : (textB bs).length ≤ 9 + bs.length := by
 unfold textB
 have := numB_le bs.length
 rw [List.length_append]; omega
theorem formB_le (x : ItV) : (formB x).length ≤ 80 + x.bs.length := by
 unfold formB
 have h1 := numB_le 2
 have h2 := numB_le x.ver.n.toNat
 have h3 := textB_le x.bs
 have h4 : (bI x.key).length = 16 := rfl
 have h5 : (bI x.ver.who).length = 16 := rfl
 simp only [List.length_append]; omega
theorem bI_len (a : IDV) : (bI a).length = 16 := rfl

theorem cmp_pos (a b : IDV) : cmpI a b > 0 ↔ valI b < valI a := by
 unfold cmpI
 split
 ·constructor <;> intro h <;> omega
 ·split
  ·constructor <;> intro h <;> omega
  ·constructor <;> intro h <;> omega

set_option maxHeartbeats 1000000 in
theorem newer_spec (a b : WV) (w : World) :
  Calls Try.prog 13 [.agg (cV a).toArray, .agg (cV b).toArray].toArray w fun r w' => r = .returned (.bool (newB a b)) ∧ Bel w w' := by
 refine calls_of_J (args := [.agg (cV a).toArray, .agg (cV b).toArray]) (e := [(0, .agg (cV a).toArray), (1, .agg (cV b).toArray)]) Try.func13 rfl rfl ⟨rfl, rfl, trivial⟩ (St.start w) ?_; refine JC.seq (fun K0 hK0 => ?_); refine JC.region ?_; refine J.box rfl rfl rfl (fun b2 => ?_); refine J.box rfl rfl rfl (fun b3 => ?_); refine J.assign rfl rfl ?_; refine J.nil ?_; refine JX.thenN (hK0 _ _ ?_); refine JC.seq (fun K1 hK1 => ?_)
 by_cases h1 : b.n < a.n
 ·have hr : newB a b = true := by unfold newB; rw [decide_eq_true h1, Bool.true_or]
  refine JC.region ?_; refine J.fieldAddr Ty.fd25_0 rfl rfl ?_; refine J.load1 (v := .int .i64 a.n) Ty.a2 rfl (fun w1 hw => by rw [cell_of (hw.own ((b2, cb (cV a) 25)) zm)]; rfl) rfl ?_; refine J.fieldAddr Ty.fd25_0 rfl rfl ?_; refine J.load1 (v := .int .i64 b.n) Ty.a2 rfl (fun w1 hw => by rw [cell_of (hw.own ((b3, cb (cV b) 25)) zm)]; rfl) rfl ?_; refine J.bin rfl rfl rfl rfl ?_; refine J.name 9 rfl (show _ = Value.bool true by simp; omega) ?_; refine J.move rfl rfl ?_
  first | refine J.skip rfl rfl rfl rfl rfl ?_ | refine J.skipU rfl rfl rfl rfl ?_ | (refine J.unguard rfl rfl rfl ?_; refine J.fieldAddr Ty.fd25_0 rfl rfl ?_)
  first | refine J.skip rfl rfl rfl rfl rfl ?_ | refine J.skipU rfl rfl rfl rfl ?_ | (refine J.unguard rfl rfl rfl ?_; refine J.loadO Ty.a2 rfl zm (by exact rfl) rfl ?_)
  first | refine J.skip rfl rfl rfl rfl rfl ?_ | refine J.skipU rfl rfl rfl rfl ?_ | (refine J.unguard rfl rfl rfl ?_; refine J.fieldAddr Ty.fd25_0 rfl rfl ?_)
  first | refine J.skip rfl rfl rfl rfl rfl ?_ | refine J.skipU rfl rfl rfl rfl ?_ | (refine J.unguard rfl rfl rfl ?_; refine J.loadO Ty.a2 rfl zm (by exact rfl) rfl ?_)
  first | refine J.skip rfl rfl rfl rfl rfl ?_ | refine J.skipU rfl rfl rfl rfl ?_ | (refine J.unguard rfl rfl rfl ?_; refine J.bin rfl rfl rfl rfl ?_)
  first | refine J.skip rfl rfl rfl rfl rfl ?_ | refine J.skipU rfl rfl rfl rfl ?_ | (refine J.unguard rfl rfl rfl ?_; refine J.move rfl rfl ?_)
  first | refine J.skip rfl rfl rfl rfl rfl ?_ | refine J.skipU rfl rfl rfl rfl ?_ | (refine J.unguard rfl rfl rfl ?_; refine J.fieldAddr Ty.fd25_1 rfl rfl ?_)
  first | refine J.skip rfl rfl rfl rfl rfl ?_ | refine J.skipU rfl rfl rfl rfl ?_ | (refine J.unguard rfl rfl rfl ?_; refine J.loadOA Ty.a23 Ty.s23 rfl zm (by exact rfl) rfl rfl ?_)
  first | refine J.skip rfl rfl rfl rfl rfl ?_ | refine J.skipU rfl rfl rfl rfl ?_ | (refine J.unguard rfl rfl rfl ?_; refine J.fieldAddr Ty.fd25_1 rfl rfl ?_)
  first | refine J.skip rfl rfl rfl rfl rfl ?_ | refine J.skipU rfl rfl rfl rfl ?_ | (refine J.unguard rfl rfl rfl ?_; refine J.loadOA Ty.a23 Ty.s23 rfl zm (by exact rfl) rfl rfl ?_)
  first | refine J.skip rfl rfl rfl rfl rfl ?_ | refine J.skipU rfl rfl rfl rfl ?_ | (refine J.unguard rfl rfl rfl ?_; fail)
  first | refine J.skip rfl rfl rfl rfl rfl ?_ | refine J.skipU rfl rfl rfl rfl ?_ | (refine J.unguard rfl rfl rfl ?_; refine J.bin rfl rfl rfl rfl ?_)
  first | refine J.skip rfl rfl rfl rfl rfl ?_ | refine J.skipU rfl rfl rfl rfl ?_ | (refine J.unguard rfl rfl rfl ?_; (first | refine J.pickT rfl rfl rfl ?_ | refine J.pickF rfl rfl rfl ?_))
  (first | refine J.pickT rfl rfl rfl ?_ | refine J.pickF rfl rfl rfl ?_)
  refine J.assign rfl rfl ?_; refine J.nil ?_; refine JX.thenN (hK1 _ _ ?_); refine JC.ret ?_; refine JX.ret1 rfl rfl (fun w hw => ?_)
  exact ⟨by rw [hr], (hw.drop (List.nil_sublist _)).below⟩
 ·by_cases h2 : a.n = b.n
  ·have hr : newB a b = decide (valI b.who < valI a.who) := by unfold newB; rw [decide_eq_false h1, decide_eq_true h2, Bool.false_or, Bool.true_and]
   refine JC.region ?_; refine J.fieldAddr Ty.fd25_0 rfl rfl ?_; refine J.load1 (v := .int .i64 a.n) Ty.a2 rfl (fun w1 hw => by rw [cell_of (hw.own ((b2, cb (cV a) 25)) zm)]; rfl) rfl ?_; refine J.fieldAddr Ty.fd25_0 rfl rfl ?_; refine J.load1 (v := .int .i64 b.n) Ty.a2 rfl (fun w1 hw => by rw [cell_of (hw.own ((b3, cb (cV b) 25)) zm)]; rfl) rfl ?_; refine J.bin rfl rfl rfl rfl ?_; refine J.name 9 rfl (show _ = Value.bool false by simp; omega) ?_; refine J.move rfl rfl ?_
   first | refine J.skip rfl rfl rfl rfl rfl ?_ | refine J.skipU rfl rfl rfl rfl ?_ | (refine J.unguard rfl rfl rfl ?_; refine J.fieldAddr Ty.fd25_0 rfl rfl ?_)
   refine J.unguard rfl rfl rfl ?_; refine J.load1 (v := .int .i64 a.n) Ty.a2 rfl (fun w1 hw => by rw [cell_of (hw.own ((b2, cb (cV a) 25)) zm)]; rfl) rfl ?_
   first | refine J.skip rfl rfl rfl rfl rfl ?_ | refine J.skipU rfl rfl rfl rfl ?_ | (refine J.unguard rfl rfl rfl ?_; refine J.fieldAddr Ty.fd25_0 rfl rfl ?_)
   refine J.unguard rfl rfl rfl ?_; refine J.load1 (v := .int .i64 b.n) Ty.a2 rfl (fun w1 hw => by rw [cell_of (hw.own ((b3, cb (cV b) 25)) zm)]; rfl) rfl ?_; refine J.unguard rfl rfl rfl ?_; refine J.bin rfl rfl rfl rfl ?_; refine J.name 15 rfl (show _ = Value.bool true by simp [h2]) ?_
   first | refine J.skip rfl rfl rfl rfl rfl ?_ | refine J.skipU rfl rfl rfl rfl ?_ | (refine J.unguard rfl rfl rfl ?_; refine J.move rfl rfl ?_)
   first | refine J.skip rfl rfl rfl rfl rfl ?_ | refine J.skipU rfl rfl rfl rfl ?_ | (refine J.unguard rfl rfl rfl ?_; refine J.fieldAddr Ty.fd25_1 rfl rfl ?_)
   refine J.unguard rfl rfl rfl ?_; refine J.loadA (vs := cI a.who) Ty.a23 Ty.s23 rfl rfl (fun w1 hw => Cells.of_block (hw.own ((b2, cb (cV a) 25)) zm) rfl) rfl ?_
   first | refine J.skip rfl rfl rfl rfl rfl ?_ | refine J.skipU rfl rfl rfl rfl ?_ | (refine J.unguard rfl rfl rfl ?_; refine J.fieldAddr Ty.fd25_1 rfl rfl ?_)
   refine J.unguard rfl rfl rfl ?_; refine J.loadA (vs := cI b.who) Ty.a23 Ty.s23 rfl rfl (fun w1 hw => Cells.of_block (hw.own ((b3, cb (cV b) 25)) zm) rfl) rfl ?_; refine J.unguard rfl rfl rfl ?_; refine J.callB (v := .int .i64 (cmpI a.who b.who)) (fun w1 w2 hw hb => hw.step hb) Ty.bd43 rfl rfl (fun w1 hw => compare_spec a.who b.who w1) ?_; refine J.unguard rfl rfl rfl ?_; refine J.bin rfl rfl rfl rfl ?_; refine J.name 22 rfl (show _ = Value.bool (decide (valI b.who < valI a.who)) from congrArg Value.bool (decide_eq_decide.2 (cmp_pos a.who b.who))) ?_
   first | refine J.skip rfl rfl rfl rfl rfl ?_ | refine J.skipU rfl rfl rfl rfl ?_ | (refine J.unguard rfl rfl rfl ?_; (first | refine J.pickT rfl rfl rfl ?_ | refine J.pickF rfl rfl rfl ?_))
   (first | refine J.pickT rfl rfl rfl ?_ | refine J.pickF rfl rfl rfl ?_)
   refine J.assign rfl rfl ?_; refine J.nil ?_; refine JX.thenN (hK1 _ _ ?_); refine JC.ret ?_; refine JX.ret1 rfl rfl (fun w hw => ?_)
   exact ⟨by rw [hr], (hw.drop (List.nil_sublist _)).below⟩
  ·have hr : newB a b = false := by unfold newB; rw [decide_eq_false h1, decide_eq_false h2, Bool.false_or, Bool.false_and]
   refine JC.region ?_; refine J.fieldAddr Ty.fd25_0 rfl rfl ?_; refine J.load1 (v := .int .i64 a.n) Ty.a2 rfl (fun w1 hw => by rw [cell_of (hw.own ((b2, cb (cV a) 25)) zm)]; rfl) rfl ?_; refine J.fieldAddr Ty.fd25_0 rfl rfl ?_; refine J.load1 (v := .int .i64 b.n) Ty.a2 rfl (fun w1 hw => by rw [cell_of (hw.own ((b3, cb (cV b) 25)) zm)]; rfl) rfl ?_; refine J.bin rfl rfl rfl rfl ?_; refine J.name 9 rfl (show _ = Value.bool false by simp; omega) ?_; refine J.move rfl rfl ?_
   first | refine J.skip rfl rfl rfl rfl rfl ?_ | refine J.skipU rfl rfl rfl rfl ?_ | (refine J.unguard rfl rfl rfl ?_; refine J.fieldAddr Ty.fd25_0 rfl rfl ?_)
   refine J.unguard rfl rfl rfl ?_; refine J.load1 (v := .int .i64 a.n) Ty.a2 rfl (fun w1 hw => by rw [cell_of (hw.own ((b2, cb (cV a) 25)) zm)]; rfl) rfl ?_
   first | refine J.skip rfl rfl rfl rfl rfl ?_ | refine J.skipU rfl rfl rfl rfl ?_ | (refine J.unguard rfl rfl rfl ?_; refine J.fieldAddr Ty.fd25_0 rfl rfl ?_)
   refine J.unguard rfl rfl rfl ?_; refine J.load1 (v := .int .i64 b.n) Ty.a2 rfl (fun w1 hw => by rw [cell_of (hw.own ((b3, cb (cV b) 25)) zm)]; rfl) rfl ?_; refine J.unguard rfl rfl rfl ?_; refine J.bin rfl rfl rfl rfl ?_; refine J.name 15 rfl (show _ = Value.bool false by simp [h2]) ?_
   first | refine J.skip rfl rfl rfl rfl rfl ?_ | refine J.skipU rfl rfl rfl rfl ?_ | (refine J.unguard rfl rfl rfl ?_; refine J.move rfl rfl ?_)
   first | refine J.skip rfl rfl rfl rfl rfl ?_ | refine J.skipU rfl rfl rfl rfl ?_ | (refine J.unguard rfl rfl rfl ?_; refine J.fieldAddr Ty.fd25_1 rfl rfl ?_)
   first | refine J.skip rfl rfl rfl rfl rfl ?_ | refine J.skipU rfl rfl rfl rfl ?_ | (refine J.unguard rfl rfl rfl ?_; refine J.loadOA Ty.a23 Ty.s23 rfl zm (by exact rfl) rfl rfl ?_)
   first | refine J.skip rfl rfl rfl rfl rfl ?_ | refine J.skipU rfl rfl rfl rfl ?_ | (refine J.unguard rfl rfl rfl ?_; refine J.fieldAddr Ty.fd25_1 rfl rfl ?_)
   first | refine J.skip rfl rfl rfl rfl rfl ?_ | refine J.skipU rfl rfl rfl rfl ?_ | (refine J.unguard rfl rfl rfl ?_; refine J.loadOA Ty.a23 Ty.s23 rfl zm (by exact rfl) rfl rfl ?_)
   first | refine J.skip rfl rfl rfl rfl rfl ?_ | refine J.skipU rfl rfl rfl rfl ?_ | (refine J.unguard rfl rfl rfl ?_; fail)
   first | refine J.skip rfl rfl rfl rfl rfl ?_ | refine J.skipU rfl rfl rfl rfl ?_ | (refine J.unguard rfl rfl rfl ?_; refine J.bin rfl rfl rfl rfl ?_)
   first | refine J.skip rfl rfl rfl rfl rfl ?_ | refine J.skipU rfl rfl rfl rfl ?_ | (refine J.unguard rfl rfl rfl ?_; (first | refine J.pickT rfl rfl rfl ?_ | refine J.pickF rfl rfl rfl ?_))
   (first | refine J.pickT rfl rfl rfl ?_ | refine J.pickF rfl rfl rfl ?_)
   refine J.assign rfl rfl ?_; refine J.nil ?_; refine JX.thenN (hK1 _ _ ?_); refine JC.ret ?_; refine JX.ret1 rfl rfl (fun w hw => ?_)
   exact ⟨by rw [hr], (hw.drop (List.nil_sublist _)).below⟩

theorem copied_spec (xc : List Value) (key : IDV) (ver : WV) (bs : List UInt8) (sv : Value) (w : World) (hxc : xc = cT key ver sv) (hb : Row w sv bs.length (bs.map u8)) (hl : bs.length ≤ 140737488351232) :
  Calls Try.prog 47 [.agg xc.toArray].toArray w fun r w' => ∃ y : Value × List (Nat × Obj), r = .returned (.agg (cT key ver y.1).toArray) ∧ Vec 5 1 y.1 (bs).length ((bs).map u8) y.2 ∧ St w [] y.2 w' := by
 obtain ⟨a, c, rfl, hc, _⟩ := id hb
 refine calls_of_J (args := [.agg xc.toArray]) (e := [(0, .agg xc.toArray)]) Try.func47 rfl rfl ⟨rfl, trivial⟩ (St.start w) ?_; refine JC.seq (fun K0 hK0 => ?_); refine JC.region ?_; refine J.box rfl rfl rfl (fun b1 => ?_); refine J.alloc Ty.zIt rfl rfl (fun b2 => ?_); refine J.nil ?_; refine JX.thenN (hK0 _ _ ?_); refine JC.seq (fun K1 hK1 => ?_); refine JC.region ?_; refine J.fieldAddr Ty.fd28_2 rfl rfl ?_
 subst hxc
 refine J.load1 (v := .slice a bs.length c) Ty.a26 rfl (fun w1 hw => by rw [cell_of (hw.own ((b1, cb (cT key ver (.slice a bs.length c)) 28)) zm)]; rfl) rfl ?_; refine J.perm ([] ++ ((b2, cb (cH zH) 28) :: (b1, cb (cT key ver (.slice a bs.length c)) 28) :: [])) zp ?_; refine J.append (lp := []) (xs := []) (ys := bs.map u8) (k := 0) (m := bs.length) Ty.el26 Ty.s5 Ty.b5 Ty.z5 rfl (.inl ⟨5, Ty.u26⟩) rfl rfl (Vec.nil _ _) (fun w1 hw => .inl (hb.below (hw.drop (List.nil_sublist _)).below)) (by rw [List.length_map, Nat.mul_one]) (one_u8 _) (by omega) (by omega) rfl (fun v5 l5 hv5 => ?_)
 rw [Nat.zero_add, List.nil_append] at hv5
 obtain ⟨a5, c5, rfl, hc5⟩ := hv5.form
 refine J.perm ((b1, cb (cT key ver (.slice a bs.length c)) 28) :: (b2, cb (cH zH) 28) :: l5) zp ?_; refine J.fieldAddr Ty.fd28_2 rfl rfl ?_; refine J.storeO (cs := (cT key ver (.slice a bs.length c))) (vs := [.slice a5 bs.length c5]) (l' := (b1, cb (cT key ver (.slice a5 bs.length c5)) 28) :: (b2, cb (cH zH) 28) :: l5) Ty.s26 rfl rfl rfl rfl (fun v hv => by rw [List.mem_singleton.1 hv]; rfl) (by rw [show 0 + 33 = 33 from rfl, set_sv]; exact .here) (Nat.le_refl _) ?_; refine J.nil ?_; refine JX.thenN (hK1 _ _ ?_); refine JC.seq (fun K2 hK2 => ?_); refine JC.region ?_; refine J.loadA (vs := cT key ver (.slice a5 bs.length c5)) Ty.a28 Ty.s28 rfl rfl (fun w1 hw => Cells.of_block (hw.own (b1, cb (cT key ver (.slice a5 bs.length c5)) 28) zm) rfl) rfl ?_; refine J.storeW (cs := cH zH) (vs := cT key ver (.slice a5 bs.length c5)) (l' := (b1, cb (cT key ver (.slice a5 bs.length c5)) 28) :: (b2, cb (cT key ver (.slice a5 bs.length c5)) 28) :: l5) Ty.s28 rfl rfl rfl rfl rfl one_cT (.there .here) ?_; refine J.nil ?_; refine JX.thenN (hK2 _ _ ?_); refine JC.ret ?_; refine JX.retC rfl rfl Ty.a28 Ty.s28 (vs := cT key ver (.slice a5 bs.length c5)) rfl (fun w1 hw => Cells.of_block (hw.own (b2, cb (cT key ver (.slice a5 bs.length c5)) 28) zm) rfl) (fun w1 hw => ?_)
 exact ⟨(_, l5), rfl, hv5, hw.drop (List.sublist_append_right [_, _] l5)⟩

theorem form_spec (xc : List Value) (key : IDV) (ver : WV) (bs : List UInt8) (sv : Value) (w : World) (hxc : xc = cT key ver sv) (hb : Row w sv bs.length (bs.map u8)) (hl : bs.length ≤ 140737488351232) (hn0 : 0 ≤ ver.n) (hn9 : ver.n < 9223372036854775808) :
  Calls Try.prog 11 [.agg xc.toArray].toArray w fun r w' => ∃ x : Value × List (Nat × Obj), r = .returned x.1 ∧ Vec 5 1 x.1 (formB ⟨key, ver, bs⟩).length ((formB ⟨key, ver, bs⟩).map u8) x.2 ∧ St w [] x.2 w' := by
 obtain ⟨a, c, rfl, hc, _⟩ := id hb
 refine calls_of_J (args := [.agg xc.toArray]) (e := [(0, .agg xc.toArray)]) Try.func11 rfl rfl ⟨rfl, trivial⟩ (St.start w) ?_; refine JC.seq (fun K0 hK0 => ?_); refine JC.region ?_; refine J.box rfl rfl rfl (fun b1 => ?_); refine J.assign rfl rfl ?_; refine J.nil ?_; refine JX.thenN (hK0 _ _ ?_); refine JC.seq (fun K1 hK1 => ?_); refine JC.region ?_
 subst hxc
 refine J.buildSl (cs := [.int .u64 2]) Ty.el118 Ty.s81 Ty.z81 rfl rfl rfl rfl rfl rfl rfl (fun b4 => ?_); refine J.perm ([] ++ ((b4, cb [.int .u64 2] 81) :: ((b1, cb (cT key ver (.slice a bs.length c)) 28) :: []))) (.refl _) ?_; refine J.callS (α := Value × List (Nat × Obj)) (V := (·.1)) (Pr := fun x => Vec 5 1 x.1 ([2].flatMap numB).length (([2].flatMap numB).map u8) x.2) (L := (·.2)) (l1 := []) Ty.bd39 rfl rfl (fun w1 hw => putNum_spec _ [2] w1 (Row.own (cs := [.int .u64 2]) (tb := 81) (fr := (0, 0)) hw (.head _) rfl (Nat.le_refl _)) (by simp)) (fun x hv5 => ?_)
 obtain ⟨v5, l5⟩ := x
 simp only at hv5 ⊢
 rw [show [2].flatMap numB = numB (2) by simp] at hv5
 have hn4 := numB_le (2)
 refine J.assign rfl rfl ?_; refine J.nil ?_; refine JX.thenN (hK1 _ _ ?_); refine JC.seq (fun K2 hK2 => ?_); refine JC.region ?_; refine J.move rfl rfl ?_; refine J.fieldAddr Ty.fd28_0 rfl rfl ?_; refine J.sliceAll Ty.ar23 (by rw [Ty.s5]; rfl) rfl rfl ?_; refine J.perm (l5 ++ ((b4, cb [.int .u64 2] 81) :: (b1, cb (cT key ver (.slice a bs.length c)) 28) :: [])) zp ?_; refine J.append (lp := l5) (xs := ((numB 2)).map u8) (ys := (bI key).map u8) (k := ((numB 2)).length) (m := (bI key).length) Ty.el26 Ty.s5 Ty.b5 Ty.z5 rfl (.inl ⟨5, Ty.u26⟩) rfl rfl hv5 (fun w1 hw => .inl (Row.own (o := 0) (cs := (cT key ver (.slice a bs.length c))) (tb := 28) (fr := (0, 0)) hw zm rfl (Nat.le_refl _))) (by rw [List.length_map, Nat.mul_one]) (one_u8 _) (by simp only [List.length_append, bI_len]; omega) (by simp only [List.length_append, bI_len]; omega) rfl (fun v9 l9 hv9 => ?_)
 rw [← List.map_append, ← List.length_append] at hv9
 refine J.perm ((b1, cb (cT key ver (.slice a bs.length c)) 28) :: (b4, cb [.int .u64 2] 81) :: l9) zp ?_; refine J.assign rfl rfl ?_; refine J.nil ?_; refine JX.thenN (hK2 _ _ ?_); refine JC.seq (fun K3 hK3 => ?_); refine JC.region ?_; refine J.move rfl rfl ?_; refine J.fieldAddr Ty.fd28_1 rfl rfl ?_; refine J.fieldAddr Ty.fd25_0 rfl rfl ?_; refine J.load1 (v := .int .i64 ver.n) Ty.a2 rfl (fun w1 hw => by rw [cell_of (hw.own ((b1, cb (cT key ver (.slice a bs.length c)) 28)) zm)]; rfl) rfl ?_; refine J.convInt Ty.u2 Ty.u81 rfl rfl ?_; refine J.name 14 rfl (show _ = Value.int .u64 ((ver.n.toNat : Nat) : Int) from congrArg (Value.int .u64) ((wrap_u64 hn0 (by omega)).trans (by omega))) ?_; refine J.buildSl (cs := [.int .u64 ((ver.n.toNat : Nat) : Int)]) Ty.el118 Ty.s81 Ty.z81 rfl rfl rfl rfl rfl rfl rfl (fun b15 => ?_); refine J.perm ([] ++ ((b15, cb [.int .u64 ((ver.n.toNat : Nat) : Int)] 81) :: ((b1, cb (cT key ver (.slice a bs.length c)) 28) :: (b4, cb [.int .u64 2] 81) :: l9))) (.refl _) ?_; refine J.callS (α := Value × List (Nat × Obj)) (V := (·.1)) (Pr := fun x => Vec 5 1 x.1 ([ver.n.toNat].flatMap numB).length (([ver.n.toNat].flatMap numB).map u8) x.2) (L := (·.2)) (l1 := []) Ty.bd39 rfl rfl (fun w1 hw => putNum_spec _ [ver.n.toNat] w1 (Row.own (cs := [.int .u64 ((ver.n.toNat : Nat) : Int)]) (tb := 81) (fr := (0, 0)) hw (.head _) rfl (Nat.le_refl _)) (by simp)) (fun x hv16 => ?_)
 obtain ⟨v16, l16⟩ := x
 simp only at hv16 ⊢
 rw [show [ver.n.toNat].flatMap numB = numB (ver.n.toNat) by simp] at hv16
 have hn15 := numB_le (ver.n.toNat)
 refine J.perm (l9 ++ (l16 ++ [(b15, cb [.int .u64 ((ver.n.toNat : Nat) : Int)] 81), (b1, cb (cT key ver (.slice a bs.length c)) 28), (b4, cb [.int .u64 2] 81)])) zp ?_; refine J.append (lp := l9) (xs := ((numB 2 ++ bI key)).map u8) (ys := (numB ver.n.toNat).map u8) (k := ((numB 2 ++ bI key)).length) (m := (numB ver.n.toNat).length) Ty.el26 Ty.s5 Ty.b5 Ty.z5 rfl (.inl ⟨5, Ty.u26⟩) rfl rfl hv9 (fun w1 hw => .inl (hv16.row (l := l9 ++ [(b15, cb [.int .u64 ((ver.n.toNat : Nat) : Int)] 81), (b1, cb (cT key ver (.slice a bs.length c)) 28), (b4, cb [.int .u64 2] 81)]) (hw.perm zp))) (by rw [List.length_map, Nat.mul_one]) (one_u8 _) (by simp only [List.length_append, bI_len]; omega) (by simp only [List.length_append, bI_len]; omega) rfl (fun v17 l17 hv17 => ?_)
 rw [← List.map_append, ← List.length_append] at hv17
 refine J.perm ((b1, cb (cT key ver (.slice a bs.length c)) 28) :: l17 ++ (l16 ++ [(b15, cb [.int .u64 ((ver.n.toNat : Nat) : Int)] 81), (b4, cb [.int .u64 2] 81)])) zp ?_; refine J.sub (l' := (b1, cb (cT key ver (.slice a bs.length c)) 28) :: l17) (by rw [List.cons_append]; exact List.Sublist.cons_cons _ (List.sublist_append_left _ _)) ?_; refine J.assign rfl rfl ?_; refine J.nil ?_; refine JX.thenN (hK3 _ _ ?_); refine JC.seq (fun K4 hK4 => ?_); refine JC.region ?_; refine J.move rfl rfl ?_; refine J.fieldAddr Ty.fd28_1 rfl rfl ?_; refine J.fieldAddr Ty.fd25_1 rfl rfl ?_; refine J.sliceAll Ty.ar23 (by rw [Ty.s5]; rfl) rfl rfl ?_; refine J.perm (l17 ++ ((b1, cb (cT key ver (.slice a bs.length c)) 28) :: [])) zp ?_; refine J.append (lp := l17) (xs := ((numB 2 ++ bI key ++ numB ver.n.toNat)).map u8) (ys := (bI ver.who).map u8) (k := ((numB 2 ++ bI key ++ numB ver.n.toNat)).length) (m := (bI ver.who).length) Ty.el26 Ty.s5 Ty.b5 Ty.z5 rfl (.inl ⟨5, Ty.u26⟩) rfl rfl hv17 (fun w1 hw => .inl (Row.own (o := 17) (cs := (cT key ver (.slice a bs.length c))) (tb := 28) (fr := (0, 0)) hw zm rfl (Nat.le_refl _))) (by rw [List.length_map, Nat.mul_one]) (one_u8 _) (by simp only [List.length_append, bI_len]; omega) (by simp only [List.length_append, bI_len]; omega) rfl (fun v22 l22 hv22 => ?_)
 rw [← List.map_append, ← List.length_append] at hv22
 refine J.perm ((b1, cb (cT key ver (.slice a bs.length c)) 28) :: l22) zp ?_; refine J.assign rfl rfl ?_; refine J.nil ?_; refine JX.thenN (hK4 _ _ ?_); refine JC.seq (fun K5 hK5 => ?_); refine JC.region ?_; refine J.move rfl rfl ?_; refine J.fieldAddr Ty.fd28_2 rfl rfl ?_; refine J.load1 (v := .slice a bs.length c) Ty.a26 rfl (fun w1 hw => by rw [cell_of (hw.own ((b1, cb (cT key ver (.slice a bs.length c)) 28)) zm)]; rfl) rfl ?_; refine J.buildSl (cs := [.slice a bs.length c]) Ty.el57 Ty.s26 Ty.z26 rfl rfl rfl rfl rfl rfl rfl (fun b26 => ?_); refine J.perm ([] ++ ((b26, cb [.slice a bs.length c] 26) :: (b1, cb (cT key ver (.slice a bs.length c)) 28) :: l22)) (.refl _) ?_; refine J.callS (α := Value × List (Nat × Obj)) (V := (·.1)) (Pr := fun x => Vec 5 1 x.1 (textB bs).length ((textB bs).map u8) x.2) (L := (·.2)) (l1 := []) Ty.bd40 rfl rfl (fun w1 hw => putText_spec _ (.slice a bs.length c) bs w1 (Row.own (cs := [.slice a bs.length c]) (tb := 26) (fr := (0, 0)) hw (.head _) rfl (Nat.le_refl _)) (hb.below (hw.drop (List.nil_sublist _)).below) (by omega)) (fun x hv27 => ?_)
 obtain ⟨v27, l27⟩ := x
 simp only at hv27 ⊢
 have htl := textB_le bs
 refine J.perm (l22 ++ (l27 ++ [(b26, cb [.slice a bs.length c] 26), (b1, cb (cT key ver (.slice a bs.length c)) 28)])) zp ?_; refine J.append (lp := l22) (xs := ((numB 2 ++ bI key ++ numB ver.n.toNat ++ bI ver.who)).map u8) (ys := (textB bs).map u8) (k := ((numB 2 ++ bI key ++ numB ver.n.toNat ++ bI ver.who)).length) (m := (textB bs).length) Ty.el26 Ty.s5 Ty.b5 Ty.z5 rfl (.inl ⟨5, Ty.u26⟩) rfl rfl hv22 (fun w1 hw => .inl (hv27.row (l := l22 ++ [(b26, cb [.slice a bs.length c] 26), (b1, cb (cT key ver (.slice a bs.length c)) 28)]) (hw.perm zp))) (by rw [List.length_map, Nat.mul_one]) (one_u8 _) (by simp only [List.length_append, bI_len]; omega) (by simp only [List.length_append, bI_len]; omega) rfl (fun v28 l28 hv28 => ?_)
 rw [← List.map_append, ← List.length_append] at hv28
  
 refine J.assign rfl rfl ?_; refine J.nil ?_; refine JX.thenN (hK5 _ _ ?_); refine JC.ret ?_; refine JX.ret1 rfl rfl (fun w hw => ?_)
 exact ⟨(v28, l28), rfl, hv28, hw.drop (List.sublist_append_left _ _)⟩

end Go.Proofs.Ytoaenmlhehcjfaa
/-
 The vault's take and read: contracts.
-/
namespace Go.Proofs.Ytoaenmlhehcjfaa
open Go.J Go.RowKit
set_option linter.unusedVariables false
set_option linter.unusedSimpArgs false
set_option maxRecDepth 8000
abbrev vaO (lv : Value) (mb : Nat) (inc : Int) : Obj := cb [lv, .map (some mb), .int .i64 inc] 99
/-- the newest of each key -/
def takeH (L : List HI) (x : HI) : List HI := if (hget L x.key).isSome = false ∨ newB x.ver ((hget L x.key).getD zH).ver = true then hset L x else L
def takeV (L : List ItV) (x : ItV) : List ItV := match getV L x.key with
 | none => setV L x
 | some y => if newB x.ver y.ver = true then setV L x else L
theorem takeH_it (L : List HI) (x : HI) : (takeH L x).map HI.it = takeV (L.map HI.it) x.it := by
 unfold takeH takeV
 have e : x.it.key = x.key := rfl
 rw [e, hget_it]
 cases h : hget L x.key with
 | none => simp [hset_it]
 | some y =>
  simp only [Option.isSome_some, Option.getD_some, Bool.true_eq_false, false_or, Option.map_some]
  have e2 : newB x.it.ver y.it.ver = newB x.ver y.ver := rfl
  rw [e2]
  split
  ·rw [hset_it]
  ·rfl
theorem takeH_sub {L : List HI} (hd : L.Pairwise (fun x y => x.key ≠ y.key)) (x : HI) : SubP (lpsH (takeH L x)) (x.lp ++ lpsH L) := by
 unfold takeH
 split
 ·exact hset_sub hd x
 ·exact ⟨x.lp, List.perm_append_comm⟩
theorem VOK.take {L : List HI} {x : HI} (h : VOK L) (hx : okV x.ver.n ∧ Vec 5 1 x.sv x.bs.length (x.bs.map u8) x.lp) : VOK (takeH L x) := by
 unfold takeH
 split
 ·exact h.set hx
 ·exact h
theorem VOK.old {L : List HI} (h : VOK L) (k : IDV) : ∃ a c, ((hget L k).getD zH).sv = .slice a ((hget L k).getD zH).bs.length c := by
 cases hk : hget L k with
 | none => exact ⟨none, 0, rfl⟩
 | some y =>
  obtain ⟨a, c, h1, _⟩ := (h y (hget_some hk).1).2.form
  exact ⟨a, c, h1⟩
theorem VOK.okn {L : List HI} (h : VOK L) (k : IDV) : okV ((hget L k).getD zH).ver.n := by
 cases hk : hget L k with
 | none => exact (by decide : okV 0)
 | some y => exact (h y (hget_some hk).1).1

theorem take_spec (vb mb : Nat) (lv : Value) (inc : Int) (L : List HI) (es : Array MapEntry) (ck : Nat) (hT : Vm L es ck) (hV : VOK L) (xc : List Value) (key : IDV) (ver : WV) (bs : List UInt8) (a : Option Addr) (k c : Nat) (lp : List (Nat × Obj)) (w : World) (hxc : xc = cT key ver (.slice a k c)) (hw0 : Own w [(vb, vaO lv mb inc), (mb, .map es ck)]) :
  Calls Try.prog 67 [.pointer (some ⟨vb, 0, none⟩), .agg xc.toArray].toArray w fun r w' => ∃ q : Array MapEntry × Nat, r = .returned (.tuple #[]) ∧ Vm (takeH L ⟨key, ver, bs, .slice a k c, lp⟩) q.1 q.2 ∧ St w [vb, mb] [(vb, vaO lv mb inc), (mb, .map q.1 q.2)] w' := by
 obtain ⟨O, hO⟩ : ∃ o, (hget L key).getD zH = o := ⟨_, rfl⟩
 obtain ⟨K, hK⟩ : ∃ o, (hget L key).isSome = o := ⟨_, rfl⟩
 obtain ⟨ao, co, hOs⟩ := hV.old key
 rw [hO] at hOs
 refine calls_of_J (args := [.pointer (some ⟨vb, 0, none⟩), .agg xc.toArray]) (e := [(0, .pointer (some ⟨vb, 0, none⟩)), (1, .agg xc.toArray)]) Try.func67 rfl rfl ⟨rfl, rfl, trivial⟩ (hw0.st) ?_; refine JC.seq (fun K0 hK0 => ?_); refine JC.region ?_; refine J.box rfl rfl rfl (fun b3 => ?_); refine J.nil ?_; refine JX.thenN (hK0 _ _ ?_); refine JC.seq (fun K1 hK1 => ?_)
 subst hxc
 apply JC.drawX (α := Nat × Unit) 12 (fun x => match x with | ⟨x4, uu⟩ => [.pointer (some ⟨vb, 0, none⟩), .pointer (some ⟨vb, 0, none⟩), .pointer (some ⟨vb, 0 + 1, none⟩), .map (some mb), .pointer (some ⟨b3, 0 + 0, none⟩), .agg (cI key).toArray, .tuple #[.agg (cH O).toArray, .bool K], .tuple #[.agg (cH O).toArray, .bool K], .agg (cH O).toArray, .bool K, .pointer (some ⟨x4, 0, none⟩), undef]) (fun m x => match x with | ⟨x4, uu⟩ => fun w1 => ((m 11 = true → m 10 = true)) ∧ St w [vb, mb] ((bif m 10 then [(x4, cb (cH (bif m 11 then O else zH)) 28)] else []) ++ ((b3, cb (cT key ver (.slice a k c)) 28) :: (vb, vaO lv mb inc) :: (mb, .map es ck) :: [])) w1) Ty.mixed rfl rfl rfl (by kernel_rfl) rfl rfl ?hinit ?hstep ?htail
 case hinit => exact fun w1 hw => ⟨(0, ()), fun h => (by cases h), hw.drew⟩
 case hstep =>
  refine ⟨fun m x hm hp => ?_, fun m x hm hp => ?_, fun m x hm hp => ?_, fun m x hm hp => ?_, fun m x hm hp => ?_, fun m x hm hp => ?_, fun m x hm hp => ?_, fun m x hm hp => ?_, fun m x hm hp => ?_, fun m x hm hp => ?_, fun m x hm hp => ?_, fun m x hm hp => ?_, trivial⟩
  ·obtain ⟨x4, uu⟩ := x
   show J _ _ _ _ _ (_) _
   refine J.pr (fun hF => ?_); refine J.move rfl rfl ?_
   exact J.finX rfl (fun _ hw => ⟨⟨x4, uu⟩, rfl, fun _ _ _ => rfl, hF, hw⟩)
  ·obtain ⟨x4, uu⟩ := x
   show J _ _ _ _ _ ((7, .pointer (some ⟨vb, 0, none⟩)) :: _) _
   refine J.pr (fun hF => ?_); refine J.nilCheck rfl rfl ?_
   exact J.finX rfl (fun _ hw => ⟨⟨x4, uu⟩, rfl, fun _ _ _ => rfl, hF, hw⟩)
  ·obtain ⟨x4, uu⟩ := x
   show J _ _ _ _ _ ((8, .pointer (some ⟨vb, 0, none⟩)) :: _) _
   refine J.pr (fun hF => ?_); refine J.fieldAddr Ty.fd99_1 rfl rfl ?_
   exact J.finX rfl (fun _ hw => ⟨⟨x4, uu⟩, rfl, fun _ _ _ => rfl, hF, hw⟩)
  ·obtain ⟨x4, uu⟩ := x
   show J _ _ _ _ _ ((9, .pointer (some ⟨vb, 0 + 1, none⟩)) :: _) _
   refine J.pr (fun hF => ?_); refine J.load1 (v := .map (some mb)) Ty.a97 rfl (fun w1 hw => by rw [cell_of (hw.own ((vb, vaO lv mb inc)) zm)]; rfl) rfl ?_
   exact J.finX rfl (fun _ hw => ⟨⟨x4, uu⟩, rfl, fun _ _ _ => rfl, hF, hw⟩)
  ·obtain ⟨x4, uu⟩ := x
   show J _ _ _ _ _ (_) _
   refine J.pr (fun hF => ?_); refine J.fieldAddr Ty.fd28_0 rfl rfl ?_
   exact J.finX rfl (fun _ hw => ⟨⟨x4, uu⟩, rfl, fun _ _ _ => rfl, hF, hw⟩)
  ·obtain ⟨x4, uu⟩ := x
   show J _ _ _ _ _ ((11, .pointer (some ⟨b3, 0 + 0, none⟩)) :: _) _
   refine J.pr (fun hF => ?_); refine J.loadA (vs := cI key) Ty.a23 Ty.s23 rfl rfl (fun w1 hw => Cells.of_block (hw.own ((b3, cb (cT key ver (.slice a k c)) 28)) zm) rfl) rfl ?_
   exact J.finX rfl (fun _ hw => ⟨⟨x4, uu⟩, rfl, fun _ _ _ => rfl, hF, hw⟩)
  ·obtain ⟨x4, uu⟩ := x
   show J _ _ _ _ _ ((12, .agg (cI key).toArray) :: (10, .map (some mb)) :: _) _
   refine J.pr (fun hF => ?_); refine J.lookV2 Ty.u97 Ty.KI Ty.keyI Ty.zIt rfl rfl hT (fun w1 hw => hw.own ((mb, .map es ck)) zm) rfl ?_; refine J.name 13 rfl (show _ = Value.tuple #[.agg (cH O).toArray, .bool K] by rw [hO, hK]) ?_
   exact J.finX rfl (fun _ hw => ⟨⟨x4, uu⟩, rfl, fun _ _ _ => rfl, hF, hw⟩)
  ·obtain ⟨x4, uu⟩ := x
   show J _ _ _ _ _ ((13, .tuple #[.agg (cH O).toArray, .bool K]) :: _) _
   refine J.pr (fun hF => ?_); refine J.move rfl rfl ?_
   exact J.finX rfl (fun _ hw => ⟨⟨x4, uu⟩, rfl, fun _ _ _ => rfl, hF, hw⟩)
  ·obtain ⟨x4, uu⟩ := x
   show J _ _ _ _ _ ((6, .tuple #[.agg (cH O).toArray, .bool K]) :: _) _
   refine J.pr (fun hF => ?_); refine J.extract rfl rfl rfl ?_
   exact J.finX rfl (fun _ hw => ⟨⟨x4, uu⟩, rfl, fun _ _ _ => rfl, hF, hw⟩)
  ·obtain ⟨x4, uu⟩ := x
   show J _ _ _ _ _ ((6, .tuple #[.agg (cH O).toArray, .bool K]) :: _) _
   refine J.pr (fun hF => ?_); refine J.extract rfl rfl rfl ?_
   exact J.finX rfl (fun _ hw => ⟨⟨x4, uu⟩, rfl, fun _ _ _ => rfl, hF, hw⟩)
  ·obtain ⟨x4, uu⟩ := x
   show J _ _ _ _ _ (_) _
   refine J.pr (fun hF => ?_)
   have h11 : m 11 = false := by cases h : m 11 with
    | false => rfl
    | true => rw [hF h] at hm; cases hm
   refine J.alloc Ty.zIt rfl rfl (fun b4 => ?_)
   refine J.nil (JX.finB rfl (fun w1 hw => ⟨⟨⟨b4, uu⟩, rfl, fun j h1 h2 => ?_, ?_⟩, trivial⟩))
   ·match j, h1 with
    | 0, _ => (first | rfl | trivial)
    | 1, _ => (first | rfl | trivial)
    | 2, _ => (first | rfl | trivial)
    | 3, _ => (first | rfl | trivial)
    | 4, _ => (first | rfl | trivial)
    | 5, _ => (first | rfl | trivial)
    | 6, _ => (first | rfl | trivial)
    | 7, _ => (first | rfl | trivial)
    | 8, _ => (first | rfl | trivial)
    | 9, _ => (first | rfl | trivial)
    | 10, _ => exact absurd (h2.symm.trans hm) (by decide)
    | 11, _ => (first | rfl | trivial)
    | j + 12, h1 => omega
   show ((m 11 = true → true = true)) ∧ St w [vb, mb] ((bif true then [(b4, cb (cH (bif m 11 then O else zH)) 28)] else []) ++ ((b3, cb (cT key ver (.slice a k c)) 28) :: (vb, vaO lv mb inc) :: (mb, .map es ck) :: [])) w1
   simp only [hm, h11, cond_true, cond_false] at hw ⊢
   exact ⟨fun _ => (by first | trivial | rfl), hw⟩
  ·obtain ⟨x4, uu⟩ := x
   show J _ _ _ _ _ ((4, .pointer (some ⟨x4, 0, none⟩)) :: (14, .agg (cH O).toArray) :: (6, .tuple #[.agg (cH O).toArray, .bool K]) :: (13, .tuple #[.agg (cH O).toArray, .bool K]) :: (12, .agg (cI key).toArray) :: (11, .pointer (some ⟨b3, 0 + 0, none⟩)) :: (10, .map (some mb)) :: (9, .pointer (some ⟨vb, 0 + 1, none⟩)) :: (8, .pointer (some ⟨vb, 0, none⟩)) :: (7, .pointer (some ⟨vb, 0, none⟩)) :: (14, .agg (cH O).toArray) :: (4, .pointer (some ⟨x4, 0, none⟩)) :: _) _
   have hp10 : m 10 = true := predsT hp (by kernel_rfl)
   have hp10 : m 10 = true := predsT hp (by kernel_rfl)
   refine J.pr (fun hF => ?_)
   refine J.conseq (I' := St w [vb, mb] ((x4, cb (cH zH) 28) :: (b3, cb (cT key ver (.slice a k c)) 28) :: (vb, vaO lv mb inc) :: (mb, .map es ck) :: [])) ?_ (fun w1 hw => by simp only [hm, hp10, cond_true, cond_false] at hw; exact hw)
   refine J.storeW (cs := cH zH) (vs := cH O) Ty.s28 rfl rfl rfl rfl rfl (one_cH hOs) .here ?_
   refine J.nil (JX.finN undef (fun w1 hw => ⟨⟨x4, uu⟩, rfl, fun j h1 h2 => ?_, ?_⟩))
   ·match j, h1 with
    | 0, _ => (first | rfl | trivial)
    | 1, _ => (first | rfl | trivial)
    | 2, _ => (first | rfl | trivial)
    | 3, _ => (first | rfl | trivial)
    | 4, _ => (first | rfl | trivial)
    | 5, _ => (first | rfl | trivial)
    | 6, _ => (first | rfl | trivial)
    | 7, _ => (first | rfl | trivial)
    | 8, _ => (first | rfl | trivial)
    | 9, _ => (first | rfl | trivial)
    | 10, _ => (first | rfl | trivial)
    | 11, _ => (first | rfl | trivial)
    | j + 12, h1 => omega
   show ((true = true → m 10 = true)) ∧ St w [vb, mb] ((bif m 10 then [(x4, cb (cH (bif true then O else zH)) 28)] else []) ++ ((b3, cb (cT key ver (.slice a k c)) 28) :: (vb, vaO lv mb inc) :: (mb, .map es ck) :: [])) w1
   simp only [hm, hp10, cond_true, cond_false] at hw ⊢
   exact ⟨fun _ => (by first | trivial | rfl), hw⟩
 case htail =>
  intro x
  obtain ⟨x4, uu⟩ := x
  show J _ _ _ _ _ ((4, .pointer (some ⟨x4, 0, none⟩)) :: (15, .bool K) :: (14, .agg (cH O).toArray) :: (6, .tuple #[.agg (cH O).toArray, .bool K]) :: (13, .tuple #[.agg (cH O).toArray, .bool K]) :: (12, .agg (cI key).toArray) :: (11, .pointer (some ⟨b3, 0 + 0, none⟩)) :: (10, .map (some mb)) :: (9, .pointer (some ⟨vb, 0 + 1, none⟩)) :: (8, .pointer (some ⟨vb, 0, none⟩)) :: (7, .pointer (some ⟨vb, 0, none⟩)) :: _) (fun w1 => ((true = true → true = true)) ∧ St w [vb, mb] ((bif true then [(x4, cb (cH (bif true then O else zH)) 28)] else []) ++ ((b3, cb (cT key ver (.slice a k c)) 28) :: (vb, vaO lv mb inc) :: (mb, .map es ck) :: [])) w1)
  refine J.pr (fun hF => ?_)
  refine J.conseq (I' := St w [vb, mb] ((x4, cb (cH O) 28) :: (b3, cb (cT key ver (.slice a k c)) 28) :: (vb, vaO lv mb inc) :: (mb, .map es ck) :: [])) ?_ (fun w1 hw => by simp only [cond_true] at hw; exact hw)
  refine J.assign rfl rfl ?_; refine J.nil ?_; refine JX.thenN (hK1 _ _ ?_); refine JC.seq (fun K2 hK2 => ?_)
  cases K with
  | false =>
   have hr : takeH L ⟨key, ver, bs, .slice a k c, lp⟩ = hset L ⟨key, ver, bs, .slice a k c, lp⟩ := by unfold takeH; rw [if_pos (.inl hK)]
   refine JC.region ?_; refine J.move rfl rfl ?_; refine J.not rfl rfl ?_; refine J.move rfl rfl ?_
   first | refine J.skip rfl rfl rfl rfl rfl ?_ | refine J.skipU rfl rfl rfl rfl ?_ | (refine J.unguard rfl rfl rfl ?_; refine J.fieldAddr Ty.fd28_1 rfl rfl ?_)
   first | refine J.skip rfl rfl rfl rfl rfl ?_ | refine J.skipU rfl rfl rfl rfl ?_ | (refine J.unguard rfl rfl rfl ?_; refine J.loadOA Ty.a25 Ty.s25 rfl zm (by exact rfl) rfl rfl ?_)
   first | refine J.skip rfl rfl rfl rfl rfl ?_ | refine J.skipU rfl rfl rfl rfl ?_ | (refine J.unguard rfl rfl rfl ?_; refine J.fieldAddr Ty.fd28_1 rfl rfl ?_)
   first | refine J.skip rfl rfl rfl rfl rfl ?_ | refine J.skipU rfl rfl rfl rfl ?_ | (refine J.unguard rfl rfl rfl ?_; refine J.loadOA Ty.a25 Ty.s25 rfl zm (by exact rfl) rfl rfl ?_)
   first | refine J.skip rfl rfl rfl rfl rfl ?_ | refine J.skipU rfl rfl rfl rfl ?_ | (refine J.unguard rfl rfl rfl ?_; fail)
   (first | refine J.pickT rfl rfl rfl ?_ | refine J.pickF rfl rfl rfl ?_)
   refine J.nil ?_; refine JX.thenN (hK2 _ _ ?_)
   first | refine JC.condT rfl ?_ | refine JC.cond rfl (fun _ => ?_) (fun h => by first | (exfalso; simp at h; omega) | (simp at h))
   apply JC.drawX (α := Nat × Unit) 7 (fun x => match x with | ⟨xu, uu⟩ => [.pointer (some ⟨vb, 0, none⟩), .pointer (some ⟨vb, 0, none⟩), .pointer (some ⟨vb, 0 + 1, none⟩), .map (some mb), .pointer (some ⟨b3, 0 + 0, none⟩), .agg (cI key).toArray, .agg (cT key ver (.slice a k c)).toArray]) (fun m x => match x with | ⟨xu, uu⟩ => fun w1 => (True) ∧ St w [vb, mb] ((x4, cb (cH O) 28) :: (b3, cb (cT key ver (.slice a k c)) 28) :: (vb, vaO lv mb inc) :: (mb, .map es ck) :: []) w1) Ty.mixed rfl rfl rfl (by kernel_rfl) rfl rfl ?hinit ?hstep ?htail
   case hinit => exact fun w1 hw => ⟨(0, ()), trivial, hw.drew⟩
   case hstep =>
    refine ⟨fun m x hm hp => ?_, fun m x hm hp => ?_, fun m x hm hp => ?_, fun m x hm hp => ?_, fun m x hm hp => ?_, fun m x hm hp => ?_, fun m x hm hp => ?_, trivial⟩
    ·obtain ⟨xu, uu⟩ := x
     show J _ _ _ _ _ (_) _
     refine J.pr (fun hF => ?_); refine J.move rfl rfl ?_
     exact J.finX rfl (fun _ hw => ⟨⟨xu, uu⟩, rfl, fun _ _ _ => rfl, hF, hw⟩)
    ·obtain ⟨xu, uu⟩ := x
     show J _ _ _ _ _ ((25, .pointer (some ⟨vb, 0, none⟩)) :: _) _
     refine J.pr (fun hF => ?_); refine J.nilCheck rfl rfl ?_
     exact J.finX rfl (fun _ hw => ⟨⟨xu, uu⟩, rfl, fun _ _ _ => rfl, hF, hw⟩)
    ·obtain ⟨xu, uu⟩ := x
     show J _ _ _ _ _ ((26, .pointer (some ⟨vb, 0, none⟩)) :: _) _
     refine J.pr (fun hF => ?_); refine J.fieldAddr Ty.fd99_1 rfl rfl ?_
     exact J.finX rfl (fun _ hw => ⟨⟨xu, uu⟩, rfl, fun _ _ _ => rfl, hF, hw⟩)
    ·obtain ⟨xu, uu⟩ := x
     show J _ _ _ _ _ ((27, .pointer (some ⟨vb, 0 + 1, none⟩)) :: _) _
     refine J.pr (fun hF => ?_); refine J.load1 (v := .map (some mb)) Ty.a97 rfl (fun w1 hw => by rw [cell_of (hw.own ((vb, vaO lv mb inc)) zm)]; rfl) rfl ?_
     exact J.finX rfl (fun _ hw => ⟨⟨xu, uu⟩, rfl, fun _ _ _ => rfl, hF, hw⟩)
    ·obtain ⟨xu, uu⟩ := x
     show J _ _ _ _ _ (_) _
     refine J.pr (fun hF => ?_); refine J.fieldAddr Ty.fd28_0 rfl rfl ?_
     exact J.finX rfl (fun _ hw => ⟨⟨xu, uu⟩, rfl, fun _ _ _ => rfl, hF, hw⟩)
    ·obtain ⟨xu, uu⟩ := x
     show J _ _ _ _ _ ((29, .pointer (some ⟨b3, 0 + 0, none⟩)) :: _) _
     refine J.pr (fun hF => ?_); refine J.loadA (vs := cI key) Ty.a23 Ty.s23 rfl rfl (fun w1 hw => Cells.of_block (hw.own ((b3, cb (cT key ver (.slice a k c)) 28)) zm) rfl) rfl ?_
     exact J.finX rfl (fun _ hw => ⟨⟨xu, uu⟩, rfl, fun _ _ _ => rfl, hF, hw⟩)
    ·obtain ⟨xu, uu⟩ := x
     show J _ _ _ _ _ (_) _
     refine J.pr (fun hF => ?_); refine J.loadA (vs := cT key ver (.slice a k c)) Ty.a28 Ty.s28 rfl rfl (fun w1 hw => Cells.of_block (hw.own ((b3, cb (cT key ver (.slice a k c)) 28)) zm) rfl) rfl ?_
     exact J.finX rfl (fun _ hw => ⟨⟨xu, uu⟩, rfl, fun _ _ _ => rfl, hF, hw⟩)
   case htail =>
    intro x
    obtain ⟨xu, uu⟩ := x
    show J _ _ _ _ _ ((31, .agg (cT key ver (.slice a k c)).toArray) :: (30, .agg (cI key).toArray) :: (29, .pointer (some ⟨b3, 0 + 0, none⟩)) :: (28, .map (some mb)) :: (27, .pointer (some ⟨vb, 0 + 1, none⟩)) :: (26, .pointer (some ⟨vb, 0, none⟩)) :: (25, .pointer (some ⟨vb, 0, none⟩)) :: _) (fun w1 => (True) ∧ St w [vb, mb] ((x4, cb (cH O) 28) :: (b3, cb (cT key ver (.slice a k c)) 28) :: (vb, vaO lv mb inc) :: (mb, .map es ck) :: []) w1)
    refine J.pr (fun hF => ?_); refine J.updV (xh := ⟨key, ver, bs, .slice a k c, lp⟩) (l' := fun es' c' => (x4, cb (cH O) 28) :: (b3, cb (cT key ver (.slice a k c)) 28) :: (vb, vaO lv mb inc) :: (mb, .map es' c') :: []) Ty.u97 Ty.KI Ty.keyI rfl rfl rfl hT (fun es' c' => zu) (fun es2 ck2 hT2 => ?_); refine J.nil ?_; refine JX.end0 rfl (fun w1 hw => ?_)
    first
    | exact ⟨(es2, ck2), rfl, by rw [hr]; exact hT2, hw.drop (List.sublist_append_right [_, _] _)⟩
    | exact ⟨(es, ck), rfl, by rw [hr]; exact hT, hw.drop (List.sublist_append_right [_, _] _)⟩
  | true =>
   refine JC.region ?_; refine J.move rfl rfl ?_; refine J.not rfl rfl ?_; refine J.move rfl rfl ?_
   first | refine J.skip rfl rfl rfl rfl rfl ?_ | refine J.skipU rfl rfl rfl rfl ?_ | (refine J.unguard rfl rfl rfl ?_; refine J.fieldAddr Ty.fd28_1 rfl rfl ?_)
   refine J.unguard rfl rfl rfl ?_; refine J.loadA (vs := cV ver) Ty.a25 Ty.s25 rfl rfl (fun w1 hw => Cells.of_block (hw.own ((b3, cb (cT key ver (.slice a k c)) 28)) zm) rfl) rfl ?_
   first | refine J.skip rfl rfl rfl rfl rfl ?_ | refine J.skipU rfl rfl rfl rfl ?_ | (refine J.unguard rfl rfl rfl ?_; refine J.fieldAddr Ty.fd28_1 rfl rfl ?_)
   refine J.unguard rfl rfl rfl ?_; refine J.loadA (vs := cV O.ver) Ty.a25 Ty.s25 rfl rfl (fun w1 hw => Cells.of_block (hw.own ((x4, cb (cH O) 28)) zm) rfl) rfl ?_; refine J.unguard rfl rfl rfl ?_; refine J.callB (v := .bool (newB ver O.ver)) (fun w1 w2 hw hb => hw.step hb) Ty.bd13 rfl rfl (fun w1 hw => newer_spec ver O.ver w1) ?_
   (first | refine J.pickT rfl rfl rfl ?_ | refine J.pickF rfl rfl rfl ?_)
   refine J.nil ?_; refine JX.thenN (hK2 _ _ ?_); refine JC.cond rfl (fun h0 => ?_) (fun h0 => ?_)
   ·have hr : takeH L ⟨key, ver, bs, .slice a k c, lp⟩ = hset L ⟨key, ver, bs, .slice a k c, lp⟩ := by unfold takeH; rw [if_pos (.inr (by rw [hO]; simpa using h0))]
    apply JC.drawX (α := Nat × Unit) 7 (fun x => match x with | ⟨xu, uu⟩ => [.pointer (some ⟨vb, 0, none⟩), .pointer (some ⟨vb, 0, none⟩), .pointer (some ⟨vb, 0 + 1, none⟩), .map (some mb), .pointer (some ⟨b3, 0 + 0, none⟩), .agg (cI key).toArray, .agg (cT key ver (.slice a k c)).toArray]) (fun m x => match x with | ⟨xu, uu⟩ => fun w1 => (True) ∧ St w [vb, mb] ((x4, cb (cH O) 28) :: (b3, cb (cT key ver (.slice a k c)) 28) :: (vb, vaO lv mb inc) :: (mb, .map es ck) :: []) w1) Ty.mixed rfl rfl rfl (by kernel_rfl) rfl rfl ?hinit ?hstep ?htail
    case hinit => exact fun w1 hw => ⟨(0, ()), trivial, hw.drew⟩
    case hstep =>
     refine ⟨fun m x hm hp => ?_, fun m x hm hp => ?_, fun m x hm hp => ?_, fun m x hm hp => ?_, fun m x hm hp => ?_, fun m x hm hp => ?_, fun m x hm hp => ?_, trivial⟩
     ·obtain ⟨xu, uu⟩ := x
      show J _ _ _ _ _ (_) _
      refine J.pr (fun hF => ?_); refine J.move rfl rfl ?_
      exact J.finX rfl (fun _ hw => ⟨⟨xu, uu⟩, rfl, fun _ _ _ => rfl, hF, hw⟩)
     ·obtain ⟨xu, uu⟩ := x
      show J _ _ _ _ _ ((25, .pointer (some ⟨vb, 0, none⟩)) :: _) _
      refine J.pr (fun hF => ?_); refine J.nilCheck rfl rfl ?_
      exact J.finX rfl (fun _ hw => ⟨⟨xu, uu⟩, rfl, fun _ _ _ => rfl, hF, hw⟩)
     ·obtain ⟨xu, uu⟩ := x
      show J _ _ _ _ _ ((26, .pointer (some ⟨vb, 0, none⟩)) :: _) _
      refine J.pr (fun hF => ?_); refine J.fieldAddr Ty.fd99_1 rfl rfl ?_
      exact J.finX rfl (fun _ hw => ⟨⟨xu, uu⟩, rfl, fun _ _ _ => rfl, hF, hw⟩)
     ·obtain ⟨xu, uu⟩ := x
      show J _ _ _ _ _ ((27, .pointer (some ⟨vb, 0 + 1, none⟩)) :: _) _
      refine J.pr (fun hF => ?_); refine J.load1 (v := .map (some mb)) Ty.a97 rfl (fun w1 hw => by rw [cell_of (hw.own ((vb, vaO lv mb inc)) zm)]; rfl) rfl ?_
      exact J.finX rfl (fun _ hw => ⟨⟨xu, uu⟩, rfl, fun _ _ _ => rfl, hF, hw⟩)
     ·obtain ⟨xu, uu⟩ := x
      show J _ _ _ _ _ (_) _
      refine J.pr (fun hF => ?_); refine J.fieldAddr Ty.fd28_0 rfl rfl ?_
      exact J.finX rfl (fun _ hw => ⟨⟨xu, uu⟩, rfl, fun _ _ _ => rfl, hF, hw⟩)
     ·obtain ⟨xu, uu⟩ := x
      show J _ _ _ _ _ ((29, .pointer (some ⟨b3, 0 + 0, none⟩)) :: _) _
      refine J.pr (fun hF => ?_); refine J.loadA (vs := cI key) Ty.a23 Ty.s23 rfl rfl (fun w1 hw => Cells.of_block (hw.own ((b3, cb (cT key ver (.slice a k c)) 28)) zm) rfl) rfl ?_
      exact J.finX rfl (fun _ hw => ⟨⟨xu, uu⟩, rfl, fun _ _ _ => rfl, hF, hw⟩)
     ·obtain ⟨xu, uu⟩ := x
      show J _ _ _ _ _ (_) _
      refine J.pr (fun hF => ?_); refine J.loadA (vs := cT key ver (.slice a k c)) Ty.a28 Ty.s28 rfl rfl (fun w1 hw => Cells.of_block (hw.own ((b3, cb (cT key ver (.slice a k c)) 28)) zm) rfl) rfl ?_
      exact J.finX rfl (fun _ hw => ⟨⟨xu, uu⟩, rfl, fun _ _ _ => rfl, hF, hw⟩)
    case htail =>
     intro x
     obtain ⟨xu, uu⟩ := x
     show J _ _ _ _ _ ((31, .agg (cT key ver (.slice a k c)).toArray) :: (30, .agg (cI key).toArray) :: (29, .pointer (some ⟨b3, 0 + 0, none⟩)) :: (28, .map (some mb)) :: (27, .pointer (some ⟨vb, 0 + 1, none⟩)) :: (26, .pointer (some ⟨vb, 0, none⟩)) :: (25, .pointer (some ⟨vb, 0, none⟩)) :: _) (fun w1 => (True) ∧ St w [vb, mb] ((x4, cb (cH O) 28) :: (b3, cb (cT key ver (.slice a k c)) 28) :: (vb, vaO lv mb inc) :: (mb, .map es ck) :: []) w1)
     refine J.pr (fun hF => ?_); refine J.updV (xh := ⟨key, ver, bs, .slice a k c, lp⟩) (l' := fun es' c' => (x4, cb (cH O) 28) :: (b3, cb (cT key ver (.slice a k c)) 28) :: (vb, vaO lv mb inc) :: (mb, .map es' c') :: []) Ty.u97 Ty.KI Ty.keyI rfl rfl rfl hT (fun es' c' => zu) (fun es2 ck2 hT2 => ?_); refine J.nil ?_; refine JX.end0 rfl (fun w1 hw => ?_)
     first
     | exact ⟨(es2, ck2), rfl, by rw [hr]; exact hT2, hw.drop (List.sublist_append_right [_, _] _)⟩
     | exact ⟨(es, ck), rfl, by rw [hr]; exact hT, hw.drop (List.sublist_append_right [_, _] _)⟩
   ·have hr : takeH L ⟨key, ver, bs, .slice a k c, lp⟩ = L := by unfold takeH; rw [if_neg (by rw [hO, hK]; simpa using h0)]
    refine JC.skip ?_; refine JX.end0 rfl (fun w1 hw => ?_)
    first
    | exact ⟨(es2, ck2), rfl, by rw [hr]; exact hT2, hw.drop (List.sublist_append_right [_, _] _)⟩
    | exact ⟨(es, ck), rfl, by rw [hr]; exact hT, hw.drop (List.sublist_append_right [_, _] _)⟩

end Go.Proofs.Ytoaenmlhehcjfaa
