/-
  The calculus' rule for a region that draws its order: the first N operations, which change nothing that was there, in whatever order; the others behind them, in theirs. Proved over any program.
-/
import Derived.Test.YtohldionclgljaaGreatJe
import Derived.StillTail
namespace Go.J
open Go.RowKit
set_option linter.unusedVariables false
set_option linter.unusedSimpArgs false

/-- what one operation of the head leaves: its slot d holds some v of which φ is known; nothing that was there has changed -/
def QF (d : Nat) (φ : Value → World → Prop) (wi : World) (x : Exit) (a : Act) (w : World) : Prop :=
  x = .normal ∧ a.defers = [] ∧ (∃ v, a.tmps[d]? = some v ∧ φ v w) ∧ Bel wi w

theorem JX.fin {n d : Nat} {φ : Value → World → Prop} {wi : World} {e : Env} {I : World → Prop} {v : Value} (hv : get e d = some v) (h : ∀ w, I w → φ v w ∧ Bel wi w) : JX (QF d φ wi) n .normal e I :=
  fun _ w ht hw => ⟨rfl, rfl, ⟨v, ht.2 d v hv, (h w hw).1⟩, (h w hw).2⟩

def Fin (ds : List Nat) (Φ : Nat → Value → World → Prop) : List Nat → Env → (World → Prop) → (Env → (World → Prop) → Prop) → Prop
  | [], e, I, G => G e I
  | j :: js, e, I, G => ∀ v, Fin ds Φ js ((ds.getD j 0, v) :: e) (fun w => Φ j v w ∧ I w) G

theorem Fin.use {ds : List Nat} {Φ : Nat → Value → World → Prop} {n : Nat} {C : Array Value → World → Prop} : ∀ (js : List Nat) (e : Env) (I : World → Prop),
    Fin ds Φ js e I (fun e' I' => ∀ T w, Rep n T e' → I' w → C T w) → ∀ T w, Rep n T e → I w → (∀ j, j ∈ js → ∃ v, T[ds.getD j 0]? = some v ∧ Φ j v w) → C T w
  | [], _, _, h, T, w, ht, hw, _ => h T w ht hw
  | j :: js, e, I, h, T, w, ht, hw, hj => by
    obtain ⟨v, hv, hφ⟩ := hj j (.head _)
    refine Fin.use js _ _ (h v) T w ⟨ht.1, fun t u hu => ?_⟩ ⟨hφ, hw⟩ (fun k hk => hj k (.tail _ hk))
    simp only [J.get] at hu
    cases hb : Nat.beq (ds.getD j 0) t with
    | true =>
      rw [hb] at hu
      have : ds.getD j 0 = t := by simpa using hb
      subst this
      simp only [Option.some.injEq] at hu
      subst hu
      exact hv
    | false => rw [hb] at hu; exact ht.2 t u hu

/-- the operations that one waits for -/
def preds (o : Oper) : List Nat := (o.after.toList.filter (Region.binds .any)).map (·.on)
def dsts : List Oper → Option (List Nat)
  | [] => some []
  | o :: os => match o.dst, dsts os with
    | some d, some ds => some (d :: ds)
    | _, _ => none
theorem dsts_spec : ∀ {l : List Oper} {ds : List Nat}, dsts l = some ds → ds.length = l.length ∧ ∀ (i : Nat) (o : Oper), l[i]? = some o → o.dst = some (ds.getD i 0) ∧ ds.getD i 0 ∈ ds := by
  intro l
  induction l with
  | nil => intro ds h; simp only [dsts, Option.some.injEq] at h; subst h; exact ⟨rfl, fun i o ho => by simp at ho⟩
  | cons o os ih =>
    intro ds h
    simp only [dsts] at h
    split at h
    · rename_i d ds' hd hds
      simp only [Option.some.injEq] at h
      subst h
      obtain ⟨h1, h2⟩ := ih hds
      refine ⟨by simp [h1], fun i o' ho => ?_⟩
      cases i with
      | zero => simp only [List.getElem?_cons_zero, Option.some.injEq] at ho; subst ho; exact ⟨by simpa using hd, by simp⟩
      | succ i =>
        simp only [List.getElem?_cons_succ] at ho
        obtain ⟨h3, h4⟩ := h2 i o' ho
        exact ⟨by simpa using h3, by simp only [List.getD_cons_succ]; exact .tail _ h4⟩
    · cases h

def nodupB : List Nat → Bool
  | [] => true
  | x :: xs => !(xs.any (Nat.beq x)) && nodupB xs
theorem nodupB_spec : ∀ {l : List Nat}, nodupB l = true → ∀ i j, i < l.length → j < l.length → l.getD i 0 = l.getD j 0 → i = j := by
  intro l
  induction l with
  | nil => intro _ i j hi; simp at hi
  | cons x xs ih =>
    intro h i j hi hj he
    simp only [nodupB, Bool.and_eq_true, Bool.not_eq_true', List.any_eq_false] at h
    have hx : ∀ k, k < xs.length → x ≠ xs.getD k 0 := by
      intro k hk e
      have hm : xs.getD k 0 ∈ xs := by
        rw [List.getD_eq_getElem?_getD, List.getElem?_eq_getElem hk]; simp
      have := h.1 _ hm
      rw [← e] at this
      simp at this
    cases i with
    | zero =>
      cases j with
      | zero => rfl
      | succ j => simp only [List.getD_cons_zero, List.getD_cons_succ, List.length_cons] at he hj; exact absurd he (hx j (by omega))
    | succ i =>
      cases j with
      | zero => simp only [List.getD_cons_zero, List.getD_cons_succ, List.length_cons] at he hi; exact absurd he.symm (hx i (by omega))
      | succ j => simp only [List.getD_cons_succ, List.length_cons] at he hi hj; rw [ih h.2 i j (by omega) (by omega) he]

def backB (l : List Oper) (N : Nat) : Bool := (l.take N).zipIdx.all fun (o, i) => (preds o).all fun j => Nat.blt j i
theorem backB_spec {l : List Oper} {N : Nat} (h : backB l N = true) {i : Nat} {o : Oper} (hi : i < N) (ho : l[i]? = some o) : ∀ j, j ∈ preds o → j < i := by
  intro j hj
  simp only [backB, List.all_eq_true] at h
  have hm : (o, i) ∈ (l.take N).zipIdx := by
    rw [List.mem_zipIdx_iff_getElem?]
    simp [hi, ho]
  have := h _ hm j hj
  exact Nat.blt_eq.mp this

def headB (l : List Oper) (N : Nat) : Bool :=
  backB l N && Region.seqB .any l.toArray (l.length - N) N ((List.replicate N true ++ List.replicate (l.length - N) false).toArray) &&
    (Nat.beq N l.length || (Nat.blt N l.length && Region.sinkB .any l.toArray N && Region.chainB .any l.toArray N))

theorem wpOp_of_list {P : Program} {ops : Array Oper} {Q : Exit → Act → World → Prop} {i d : Nat} {o : Oper} {T : Array Value} {w wi : World} {φ : Value → World → Prop} {K : Act → World → Prop}
    (ho : ops[i]? = some o) (hd : o.dst = some d) (h : wpList P ops (QF d φ wi) [o] (act T) w)
    (hk : ∀ v w', (act (T.setIfInBounds d v)).tmps[d]? = some v → φ v w' → Bel wi w' → K (act (T.setIfInBounds d v)) w') (hlt : d < T.size) : wpOp P ops Q i K (act T) w := by
  have hget : ∀ v, (T.setIfInBounds d v)[d]? = some v := fun v => by simp [hlt]
  have fin : ∀ v w', QF d φ wi .normal (act (T.setIfInBounds d v)) w' → K (act (T.setIfInBounds d v)) w' := by
    rintro v w' ⟨_, _, ⟨u, hu, hφ⟩, hb⟩
    have : u = v := by
      have h1 : (T.setIfInBounds d v)[d]? = some u := hu
      rw [hget v] at h1
      exact (Option.some.inj h1).symm
    subst this
    exact hk u w' (hget u) hφ hb
  unfold wpOp
  simp only [ho]
  simp only [wpList] at h
  split at h
  · rename_i hw
    rw [if_pos hw]
    rcases h with h | ⟨_, ⟨_, _, h, _⟩⟩
    · left
      unfold Oper.wp at h ⊢
      generalize (execOp (act T).eval o).run P w = r at h
      cases r with
      | ok nx w' =>
        cases nx <;> simp only [Oper.upon, hd] at h ⊢
        case value v => exact fin v w' h
        case skip => exact fin undef w' h
        case defer dd => exact absurd h.2.1 (by simp [Act.put])
        case enter f args =>
          refine h.mono fun r w'' hr => ?_
          cases r with
          | returned v => exact fin v w'' hr
          | panicked c => exact absurd hr.1 (by simp)
          | outgrown => obtain ⟨_, _, h, _⟩ := hr; cases h
        case row row args => exact Rows.mono h fun v w'' hr => fin v w'' hr
      | halt x w' => cases x <;> simp only [Oper.upon] at h; exact absurd h.1 (by simp)
    · cases h
  · rename_i hw
    rw [if_neg hw]
    simp only [hd] at h ⊢
    exact fin undef w h

theorem all_below (listed : Array Bool) (N : Nat) : (∃ i, i < N ∧ listed.getD i true = false ∧ ∀ j, j < i → listed.getD j true = true) ∨ ∀ i, i < N → listed.getD i true = true := by
  induction N with
  | zero => right; intro i hi; omega
  | succ N ih =>
    rcases ih with ⟨i, hi, h1, h2⟩ | h
    · left; exact ⟨i, by omega, h1, h2⟩
    · cases hN : listed.getD N true with
      | true => right; intro i hi; by_cases h1 : i = N
                · subst h1; exact hN
                · exact h i (by omega)
      | false => left; exact ⟨N, by omega, hN, h⟩

def cnt (listed : Array Bool) : Nat → Nat
  | 0 => 0
  | N + 1 => (if listed.getD N true then 0 else 1) + cnt listed N
theorem cnt_set {listed : Array Bool} {i : Nat} (hsz : i < listed.size) (h : listed.getD i true = false) : ∀ N, i < N → cnt (listed.setIfInBounds i true) N + 1 = cnt listed N := by
  have hself : (listed.setIfInBounds i true).getD i true = true := by simp [hsz]
  have hsame : ∀ N, N ≤ i → cnt (listed.setIfInBounds i true) N = cnt listed N := by
    intro N
    induction N with
    | zero => intro _; rfl
    | succ N ih => intro hN; simp only [cnt]; rw [getD_set_ne true (by omega), ih (by omega)]
  intro N
  induction N with
  | zero => intro hi; omega
  | succ N ih =>
    intro hi
    simp only [cnt]
    by_cases h1 : i = N
    · subst h1
      rw [hself, h, hsame _ (Nat.le_refl _)]
      simp; omega
    · rw [getD_set_ne true h1]
      have := ih (by omega)
      omega
theorem cnt_zero {listed : Array Bool} : ∀ N, cnt listed N = 0 → ∀ i, i < N → listed.getD i true = true := by
  intro N
  induction N with
  | zero => intro _ i hi; omega
  | succ N ih =>
    intro h i hi
    simp only [cnt] at h
    by_cases h1 : i = N
    · subst h1
      cases hl : listed.getD i true with
      | true => rfl
      | false => rw [hl] at h; simp at h
    · exact ih (by omega) i (by omega)

theorem Rep.other {n d : Nat} {T : Array Value} {e : Env} (h : Rep n T e) (hd : get e d = none) (v : Value) : Rep n (T.setIfInBounds d v) e := by
  refine ⟨by simpa using h.1, fun t u hu => ?_⟩
  have : d ≠ t := by
    intro he
    subst he
    rw [hd] at hu; cases hu
  rw [Array.getElem?_setIfInBounds, if_neg this]
  exact h.2 t u hu

theorem JC.any {P : Program} {Q : Exit → Act → World → Prop} {n id : Nat} {l : List Oper} {e : Env} {I : World → Prop} (N : Nat) (Φ : Nat → Value → World → Prop) {ds : List Nat}
    (hm : P.follows .mixedOrders = true) (hds : dsts (l.take N) = some ds) (hnd : nodupB ds = true) (hN : Nat.ble N l.length = true) (hB : headB l N = true)
    (hlt : (ds.all fun d => Nat.blt d n) = true) (hkeys : (ds.all fun d => (get e d).isNone) = true)
    (hI : ∀ w w', I w → Bel w w' → I w') (hΦ : ∀ i v w w', Φ i v w → Bel w w' → Φ i v w')
    (hstep : ∀ (i : Nat) (o : Oper), i < N → l[i]? = some o → ∀ wi, Fin ds Φ (preds o) e (fun w => w = wi ∧ I w) (fun e' I' => J P l.toArray (QF (ds.getD i 0) (Φ i) wi) n [o] e' I'))
    (htail : Fin ds Φ (List.range N) e I (fun e' I' => J P l.toArray Q n (l.drop N) e' I')) : JC P Q n (.region id l.toArray true) e I := by
  intro T w ht hw
  refine wp_region_any hm ?_
  obtain ⟨hlen, hspec⟩ := dsts_spec hds
  have hN' : N ≤ l.length := Nat.le_of_ble_eq_true hN
  have htk : (l.take N).length = N := by simp; omega
  simp only [headB, Bool.and_eq_true, Bool.or_eq_true] at hB
  obtain ⟨⟨hback, hseq⟩, hsink⟩ := hB
  have hdst : ∀ i o, i < N → l[i]? = some o → o.dst = some (ds.getD i 0) ∧ ds.getD i 0 ∈ ds := by
    intro i o hi ho
    exact hspec i o (by rw [List.getElem?_take_of_lt hi]; exact ho)
  have hd1 : ∀ i, i < N → ds.getD i 0 < n ∧ get e (ds.getD i 0) = none := by
    intro i hi
    obtain ⟨o, ho⟩ : ∃ o, l[i]? = some o := ⟨_, List.getElem?_eq_getElem (by omega)⟩
    have hmem := (hdst i o hi ho).2
    have h1 := List.all_eq_true.1 hlt _ hmem
    have h2 := List.all_eq_true.1 hkeys _ hmem
    exact ⟨Nat.blt_eq.mp h1, by simpa using h2⟩
  have hinj : ∀ i j, i < N → j < N → ds.getD i 0 = ds.getD j 0 → i = j := fun i j hi hj => nodupB_spec hnd i j (by omega) (by omega)
  have key : ∀ (m : Nat) (listed : Array Bool) (T : Array Value) (w : World), cnt listed N = m → HeadInv .any l.toArray N listed → Rep n T e → I w → (∀ i, i < N → listed.getD i true = true → ∃ v, T[ds.getD i 0]? = some v ∧ Φ i v w) →
      wpAny P .any l.toArray Q (m + (l.length - N)) listed (act T) w := by
    intro m
    induction m with
    | zero =>
      intro listed T w hcnt inv ht hw hfacts
      have hall := cnt_zero N hcnt
      have hlisted : listed = (List.replicate N true ++ List.replicate (l.length - N) false).toArray := by
        have hs := inv.size
        simp only [List.size_toArray] at hs
        apply Array.ext
        · simp [hs]; omega
        · intro i hi1 hi2
          by_cases hiN : i < N
          · have := hall i hiN
            simp only [Array.getD_eq_getD_getElem?, Array.getElem?_eq_getElem hi1, Option.getD_some] at this
            rw [this]
            simp [List.getElem_append, hiN]
          · have := inv.tail i (by omega) (by simp; omega)
            simp only [Array.getD_eq_getD_getElem?, Array.getElem?_eq_getElem hi1, Option.getD_some] at this
            rw [this]
            simp [List.getElem_append, hiN]
      rw [Nat.zero_add]
      have hdl : (l.drop N).length = l.length - N := by simp
      have hwl : wpList P l.toArray Q (l.drop N) (act T) w := by
        refine Fin.use (C := fun T w => wpList P l.toArray Q (l.drop N) (act T) w) (List.range N) e I htail T w ht hw (fun j hj => ?_)
        have hj' := List.mem_range.1 hj
        exact hfacts j hj' (hall j hj')
      have := wpAny_of_seq (P := P) (md := .any) (Q' := Q) (ops := l.toArray) (l.drop N) N listed (act T) w (fun j => by simp [List.getElem?_drop]) (by rw [hdl, hlisted]; exact hseq) hwl
      rwa [hdl] at this
    | succ m ih =>
      intro listed T w hcnt inv ht hw hfacts
      rw [show m + 1 + (l.length - N) = (m + (l.length - N)) + 1 by omega]
      have hsz : listed.size = l.length := by simpa using inv.size
      obtain ⟨i0, hi0, hun0, hmin0⟩ : ∃ i, i < N ∧ listed.getD i true = false ∧ ∀ j, j < i → listed.getD j true = true := by
        rcases all_below listed N with h | h
        · exact h
        · exfalso
          have : cnt listed N = 0 := by
            have : ∀ M, M ≤ N → cnt listed M = 0 := by
              intro M
              induction M with
              | zero => intro _; rfl
              | succ M ihM => intro hM; simp only [cnt]; rw [h M (by omega), ihM (by omega)]; rfl
            exact this N (Nat.le_refl _)
          omega
      have hgd : ∀ j, j < l.length → listed.getD j true = true → listed.getD j false = true := by
        intro j hj h
        have hj' : j < listed.size := by omega
        simp only [Array.getD_eq_getD_getElem?, Array.getElem?_eq_getElem hj', Option.getD_some] at h ⊢
        exact h
      have hready0 : i0 ∈ Region.ready .any l.toArray listed := by
        refine mem_ready.2 ⟨hun0, l[i0]'(by omega), by simp, fun ed hed hbd => ?_⟩
        have hp : ed.on ∈ preds (l[i0]'(by omega)) := by
          simp only [preds, List.mem_map, List.mem_filter]
          exact ⟨ed, ⟨by simpa using hed, hbd⟩, rfl⟩
        have := backB_spec hback hi0 (List.getElem?_eq_getElem (by omega)) ed.on hp
        exact hgd _ (by omega) (hmin0 _ this)
      refine ⟨fun h0 => (by rw [h0] at hready0; cases hready0), fun i hi => ?_⟩
      have hiN : i < N := by
        rcases Nat.lt_or_ge i N with h | h
        · exact h
        · exfalso
          rcases hsink with h1 | ⟨⟨h1, h2⟩, h3⟩
          · have : N = l.length := Nat.eq_of_beq_eq_true h1
            obtain ⟨_, o, ho, _⟩ := mem_ready.1 hi
            have := (Array.getElem?_eq_some_iff.1 ho).1
            simp at this; omega
          · exact tail_waits h2 h3 (by simpa using Nat.blt_eq.mp h1) inv _ i0 rfl hi0 hun0 i h hi
      obtain ⟨hun, o, ho, hall⟩ := mem_ready.1 hi
      have ho' : l[i]? = some o := by simpa using ho
      have hpre : ∀ j, j ∈ preds o → ∃ v, T[ds.getD j 0]? = some v ∧ Φ j v w := by
        intro j hj
        have hjlt := backB_spec hback hiN ho' j hj
        simp only [preds, List.mem_map, List.mem_filter] at hj
        obtain ⟨ed, ⟨hed, hbd⟩, rfl⟩ := hj
        have h1 := hall ed (by simpa using hed) hbd
        have hj' : ed.on < listed.size := by omega
        refine hfacts ed.on (by omega) ?_
        simp only [Array.getD_eq_getD_getElem?, Array.getElem?_eq_getElem hj', Option.getD_some] at h1 ⊢
        exact h1
      have hwl := Fin.use (C := fun T w => wpList P l.toArray (QF (ds.getD i 0) (Φ i) w) [o] (act T) w) (preds o) e (fun w' => w' = w ∧ I w') (by
        have h1 := hstep i o hiN ho' w
        have conv : ∀ (js : List Nat) (e : Env) (I2 : World → Prop), (∀ w', I2 w' → w' = w) → Fin ds Φ js e I2 (fun e' I' => J P l.toArray (QF (ds.getD i 0) (Φ i) w) n [o] e' I') →
            Fin ds Φ js e I2 (fun e' I' => ∀ T w, Rep n T e' → I' w → wpList P l.toArray (QF (ds.getD i 0) (Φ i) w) [o] (act T) w) := by
          intro js
          induction js with
          | nil => intro e I2 hI2 h T w2 ht2 hw2; have hh := hI2 w2 hw2; subst hh; exact h T _ ht2 hw2
          | cons j js ihj => intro e I2 hI2 h v; exact ihj _ _ (fun w' hw' => hI2 w' hw'.2) (h v)
        exact conv _ _ _ (fun w' hw' => hw'.1) h1) T w ht ⟨rfl, hw⟩ hpre
      refine wpOp_of_list ho (hdst i o hiN ho').1 hwl (fun v w' hv hφ hb => ?_) (by rw [ht.1]; exact (hd1 i hiN).1)
      have hisz : i < listed.size := by omega
      refine ih _ _ w' (by have := cnt_set hisz hun N hiN; omega) (inv.set hi hiN) (ht.other (hd1 i hiN).2 v) (hI w w' hw hb) (fun j hj hlj => ?_)
      by_cases hji : j = i
      · subst hji
        exact ⟨v, hv, hφ⟩
      · rw [getD_set_ne true (Ne.symm hji)] at hlj
        obtain ⟨u, hu, hφu⟩ := hfacts j hj hlj
        refine ⟨u, ?_, hΦ j u w w' hφu hb⟩
        rw [Array.getElem?_setIfInBounds, if_neg (fun he => hji (hinj j i hj hiN he.symm))]
        exact hu
  have hcnt0 : cnt (Array.replicate l.toArray.size false) N = N := by
    have : ∀ M, M ≤ N → cnt (Array.replicate l.toArray.size false) M = M := by
      intro M
      induction M with
      | zero => intro _; rfl
      | succ M ihM =>
        intro hM
        simp only [cnt]
        rw [getD_in (by simp; omega) (getD_replicate_false _ _), ihM (by omega)]
        simp; omega
    exact this N (Nat.le_refl _)
  have hw' : I { w with drawn := w.drawn + 1 } := hI w _ hw ((Bel.refl w).drew)
  have := key N (Array.replicate l.toArray.size false) T { w with drawn := w.drawn + 1 } hcnt0
    ⟨by simp, fun j oj _ hl => (by rw [getD_replicate_false] at hl; cases hl), fun t _ ht => getD_in (by simpa using ht) (getD_replicate_false _ _)⟩ ht hw'
    (fun i hi hl => by rw [getD_in (by simp; omega) (getD_replicate_false _ _)] at hl; cases hl)
  rw [show N + (l.length - N) = l.toArray.size by simp; omega] at this
  exact this
theorem Fin.nil {ds : List Nat} {Φ : Nat → Value → World → Prop} {e : Env} {I : World → Prop} {G : Env → (World → Prop) → Prop} (h : G e I) : Fin ds Φ [] e I G := h
theorem Fin.cons {ds : List Nat} {Φ : Nat → Value → World → Prop} {j : Nat} {js : List Nat} {e : Env} {I : World → Prop} {G : Env → (World → Prop) → Prop} (h : ∀ v, Fin ds Φ js ((ds.getD j 0, v) :: e) (fun w => Φ j v w ∧ I w) G) : Fin ds Φ (j :: js) e I G := h
/-- what is to be shown of each operation of the head -/
def Steps (P : Program) (l : List Oper) (n : Nat) (ds : List Nat) (Φ : Nat → Value → World → Prop) (e : Env) (I : World → Prop) : Nat → List Oper → Prop
  | _, [] => True
  | i, o :: os => (∀ wi, Fin ds Φ (preds o) e (fun w => w = wi ∧ I w) (fun e' I' => J P l.toArray (QF (ds.getD i 0) (Φ i) wi) n [o] e' I')) ∧ Steps P l n ds Φ e I (i + 1) os
theorem Steps.all {P : Program} {l : List Oper} {n : Nat} {ds : List Nat} {Φ : Nat → Value → World → Prop} {e : Env} {I : World → Prop} : ∀ (k : List Oper) (i0 : Nat), Steps P l n ds Φ e I i0 k → ∀ (i : Nat) (o : Oper), k[i]? = some o →
    ∀ wi, Fin ds Φ (preds o) e (fun w => w = wi ∧ I w) (fun e' I' => J P l.toArray (QF (ds.getD (i0 + i) 0) (Φ (i0 + i)) wi) n [o] e' I') := by
  intro k
  induction k with
  | nil => intro i0 _ i o ho; simp at ho
  | cons p ps ih =>
    intro i0 h i o ho
    cases i with
    | zero => simp only [List.getElem?_cons_zero, Option.some.injEq] at ho; subst ho; exact h.1
    | succ i =>
      simp only [List.getElem?_cons_succ] at ho
      have := ih (i0 + 1) h.2 i o ho
      rwa [show i0 + 1 + i = i0 + (i + 1) by omega] at this
theorem JC.draw {P : Program} {Q : Exit → Act → World → Prop} {n id : Nat} {l : List Oper} {e : Env} {I : World → Prop} (N : Nat) (Φ : Nat → Value → World → Prop) {ds : List Nat}
    (hm : P.follows .mixedOrders = true) (hds : dsts (l.take N) = some ds) (hnd : nodupB ds = true) (hN : Nat.ble N l.length = true) (hB : headB l N = true)
    (hlt : (ds.all fun d => Nat.blt d n) = true) (hkeys : (ds.all fun d => (get e d).isNone) = true)
    (hI : ∀ w w', I w → Bel w w' → I w') (hΦ : ∀ i v w w', Φ i v w → Bel w w' → Φ i v w')
    (hstep : Steps P l n ds Φ e I 0 (l.take N))
    (htail : Fin ds Φ (List.range N) e I (fun e' I' => J P l.toArray Q n (l.drop N) e' I')) : JC P Q n (.region id l.toArray true) e I :=
  JC.any N Φ hm hds hnd hN hB hlt hkeys hI hΦ (fun i o hi ho wi => by
    have := Steps.all (l.take N) 0 hstep i o (by rw [List.getElem?_take_of_lt hi]; exact ho) wi
    rwa [Nat.zero_add] at this) htail
/-- the same, with one operation b in the head that changes known memory: those behind wait for it -/
def QB (d : Nat) (φ : Value → World → Prop) (I1 : World → Prop) (x : Exit) (a : Act) (w : World) : Prop :=
  x = .normal ∧ a.defers = [] ∧ (∃ v, a.tmps[d]? = some v ∧ φ v w) ∧ I1 w
theorem JX.finB {n d : Nat} {φ : Value → World → Prop} {I1 : World → Prop} {e : Env} {I : World → Prop} {v : Value} (hv : get e d = some v) (h : ∀ w, I w → φ v w ∧ I1 w) : JX (QB d φ I1) n .normal e I :=
  fun _ w ht hw => ⟨rfl, rfl, ⟨v, ht.2 d v hv, (h w hw).1⟩, (h w hw).2⟩
theorem wpOp_of_listB {P : Program} {ops : Array Oper} {Q : Exit → Act → World → Prop} {i d : Nat} {o : Oper} {T : Array Value} {w : World} {φ : Value → World → Prop} {I1 : World → Prop} {K : Act → World → Prop}
    (ho : ops[i]? = some o) (hd : o.dst = some d) (h : wpList P ops (QB d φ I1) [o] (act T) w)
    (hk : ∀ v w', (act (T.setIfInBounds d v)).tmps[d]? = some v → φ v w' → I1 w' → K (act (T.setIfInBounds d v)) w') (hlt : d < T.size) : wpOp P ops Q i K (act T) w := by
  have hget : ∀ v, (T.setIfInBounds d v)[d]? = some v := fun v => by simp [hlt]
  have fin : ∀ v w', QB d φ I1 .normal (act (T.setIfInBounds d v)) w' → K (act (T.setIfInBounds d v)) w' := by
    rintro v w' ⟨_, _, ⟨u, hu, hφ⟩, hb⟩
    have : u = v := by
      have h1 : (T.setIfInBounds d v)[d]? = some u := hu
      rw [hget v] at h1
      exact (Option.some.inj h1).symm
    subst this
    exact hk u w' (hget u) hφ hb
  unfold wpOp
  simp only [ho]
  simp only [wpList] at h
  split at h
  · rename_i hw
    rw [if_pos hw]
    rcases h with h | ⟨_, ⟨_, _, h, _⟩⟩
    · left
      unfold Oper.wp at h ⊢
      generalize (execOp (act T).eval o).run P w = r at h
      cases r with
      | ok nx w' =>
        cases nx <;> simp only [Oper.upon, hd] at h ⊢
        case value v => exact fin v w' h
        case skip => exact fin undef w' h
        case defer dd => exact absurd h.2.1 (by simp [Act.put])
        case enter f args =>
          refine h.mono fun r w'' hr => ?_
          cases r with
          | returned v => exact fin v w'' hr
          | panicked c => exact absurd hr.1 (by simp)
          | outgrown => obtain ⟨_, _, h, _⟩ := hr; cases h
        case row row args => exact Rows.mono h fun v w'' hr => fin v w'' hr
      | halt x w' => cases x <;> simp only [Oper.upon] at h; exact absurd h.1 (by simp)
    · cases h
  · rename_i hw
    rw [if_neg hw]
    simp only [hd] at h ⊢
    exact fin undef w h
def depB (l : List Oper) (N b : Nat) : Bool := (l.take N).zipIdx.all fun (o, i) => Nat.ble i b || (preds o).any fun p => Nat.ble b p
theorem depB_spec {l : List Oper} {N b : Nat} (h : depB l N b = true) {i : Nat} {o : Oper} (hi : i < N) (hb : b < i) (ho : l[i]? = some o) : ∃ p, p ∈ preds o ∧ b ≤ p := by
  simp only [depB, List.all_eq_true] at h
  have hmem : (o, i) ∈ (l.take N).zipIdx := by
    rw [List.mem_zipIdx_iff_getElem?]
    rw [List.getElem?_take_of_lt hi]; exact ho
  have := h (o, i) hmem
  simp only [Bool.or_eq_true] at this
  rcases this with h1 | h1
  · have := Nat.le_of_ble_eq_true h1
    omega
  · obtain ⟨p, hp, h2⟩ := List.any_eq_true.1 h1
    exact ⟨p, hp, Nat.le_of_ble_eq_true h2⟩
theorem JC.any2 {P : Program} {Q : Exit → Act → World → Prop} {n id : Nat} {l : List Oper} {e : Env} {I0 I1 : World → Prop} (N b : Nat) (Φ : Nat → Value → World → Prop) {ds : List Nat}
    (hm : P.follows .mixedOrders = true) (hds : dsts (l.take N) = some ds) (hnd : nodupB ds = true) (hN : Nat.ble N l.length = true) (hB : headB l N = true)
    (hlt : (ds.all fun d => Nat.blt d n) = true) (hkeys : (ds.all fun d => (get e d).isNone) = true)
    (hbN : b < N) (hdep : depB l N b = true) (hI0 : ∀ w w', I0 w → Bel w w' → I0 w') (hI1 : ∀ w w', I1 w → Bel w w' → I1 w') (hΦb : ∀ i v w w', i < b → Φ i v w → Φ i v w') (hΦ : ∀ i v w w', Φ i v w → Bel w w' → Φ i v w')
    (hstep : ∀ (i : Nat) (o : Oper) (ph : Bool), i < N → i ≠ b → (b < i → ph = true) → l[i]? = some o → ∀ wi, Fin ds Φ (preds o) e (fun w => w = wi ∧ (bif ph then I1 else I0) w) (fun e' I' => J P l.toArray (QF (ds.getD i 0) (Φ i) wi) n [o] e' I'))
    (hstepb : ∀ o, l[b]? = some o → Fin ds Φ (preds o) e I0 (fun e' I' => J P l.toArray (QB (ds.getD b 0) (Φ b) I1) n [o] e' I'))
    (htail : Fin ds Φ (List.range N) e I1 (fun e' I' => J P l.toArray Q n (l.drop N) e' I')) : JC P Q n (.region id l.toArray true) e I0 := by
  intro T w ht hw
  refine wp_region_any hm ?_
  obtain ⟨hlen, hspec⟩ := dsts_spec hds
  have hN' : N ≤ l.length := Nat.le_of_ble_eq_true hN
  have htk : (l.take N).length = N := by simp; omega
  simp only [headB, Bool.and_eq_true, Bool.or_eq_true] at hB
  obtain ⟨⟨hback, hseq⟩, hsink⟩ := hB
  have hdst : ∀ i o, i < N → l[i]? = some o → o.dst = some (ds.getD i 0) ∧ ds.getD i 0 ∈ ds := by
    intro i o hi ho
    exact hspec i o (by rw [List.getElem?_take_of_lt hi]; exact ho)
  have hd1 : ∀ i, i < N → ds.getD i 0 < n ∧ get e (ds.getD i 0) = none := by
    intro i hi
    obtain ⟨o, ho⟩ : ∃ o, l[i]? = some o := ⟨_, List.getElem?_eq_getElem (by omega)⟩
    have hmem := (hdst i o hi ho).2
    have h1 := List.all_eq_true.1 hlt _ hmem
    have h2 := List.all_eq_true.1 hkeys _ hmem
    exact ⟨Nat.blt_eq.mp h1, by simpa using h2⟩
  have hinj : ∀ i j, i < N → j < N → ds.getD i 0 = ds.getD j 0 → i = j := fun i j hi hj => nodupB_spec hnd i j (by omega) (by omega)
  have key : ∀ (m : Nat) (listed : Array Bool) (T : Array Value) (w : World), cnt listed N = m → HeadInv .any l.toArray N listed → Rep n T e → (bif (listed.getD b true) then I1 else I0) w → (∀ j, b < j → j < N → listed.getD j true = true → listed.getD b true = true) → (∀ i, i < N → listed.getD i true = true → ∃ v, T[ds.getD i 0]? = some v ∧ Φ i v w) →
      wpAny P .any l.toArray Q (m + (l.length - N)) listed (act T) w := by
    intro m
    induction m with
    | zero =>
      intro listed T w hcnt inv ht hw hord hfacts
      have hall := cnt_zero N hcnt
      rw [hall b hbN] at hw
      have hw : I1 w := hw
      have hlisted : listed = (List.replicate N true ++ List.replicate (l.length - N) false).toArray := by
        have hs := inv.size
        simp only [List.size_toArray] at hs
        apply Array.ext
        · simp [hs]; omega
        · intro i hi1 hi2
          by_cases hiN : i < N
          · have := hall i hiN
            simp only [Array.getD_eq_getD_getElem?, Array.getElem?_eq_getElem hi1, Option.getD_some] at this
            rw [this]
            simp [List.getElem_append, hiN]
          · have := inv.tail i (by omega) (by simp; omega)
            simp only [Array.getD_eq_getD_getElem?, Array.getElem?_eq_getElem hi1, Option.getD_some] at this
            rw [this]
            simp [List.getElem_append, hiN]
      rw [Nat.zero_add]
      have hdl : (l.drop N).length = l.length - N := by simp
      have hwl : wpList P l.toArray Q (l.drop N) (act T) w := by
        refine Fin.use (C := fun T w => wpList P l.toArray Q (l.drop N) (act T) w) (List.range N) e I1 htail T w ht hw (fun j hj => ?_)
        have hj' := List.mem_range.1 hj
        exact hfacts j hj' (hall j hj')
      have := wpAny_of_seq (P := P) (md := .any) (Q' := Q) (ops := l.toArray) (l.drop N) N listed (act T) w (fun j => by simp [List.getElem?_drop]) (by rw [hdl, hlisted]; exact hseq) hwl
      rwa [hdl] at this
    | succ m ih =>
      intro listed T w hcnt inv ht hw hord hfacts
      rw [show m + 1 + (l.length - N) = (m + (l.length - N)) + 1 by omega]
      have hsz : listed.size = l.length := by simpa using inv.size
      obtain ⟨i0, hi0, hun0, hmin0⟩ : ∃ i, i < N ∧ listed.getD i true = false ∧ ∀ j, j < i → listed.getD j true = true := by
        rcases all_below listed N with h | h
        · exact h
        · exfalso
          have : cnt listed N = 0 := by
            have : ∀ M, M ≤ N → cnt listed M = 0 := by
              intro M
              induction M with
              | zero => intro _; rfl
              | succ M ihM => intro hM; simp only [cnt]; rw [h M (by omega), ihM (by omega)]; rfl
            exact this N (Nat.le_refl _)
          omega
      have hgd : ∀ j, j < l.length → listed.getD j true = true → listed.getD j false = true := by
        intro j hj h
        have hj' : j < listed.size := by omega
        simp only [Array.getD_eq_getD_getElem?, Array.getElem?_eq_getElem hj', Option.getD_some] at h ⊢
        exact h
      have hready0 : i0 ∈ Region.ready .any l.toArray listed := by
        refine mem_ready.2 ⟨hun0, l[i0]'(by omega), by simp, fun ed hed hbd => ?_⟩
        have hp : ed.on ∈ preds (l[i0]'(by omega)) := by
          simp only [preds, List.mem_map, List.mem_filter]
          exact ⟨ed, ⟨by simpa using hed, hbd⟩, rfl⟩
        have := backB_spec hback hi0 (List.getElem?_eq_getElem (by omega)) ed.on hp
        exact hgd _ (by omega) (hmin0 _ this)
      refine ⟨fun h0 => (by rw [h0] at hready0; cases hready0), fun i hi => ?_⟩
      have hiN : i < N := by
        rcases Nat.lt_or_ge i N with h | h
        · exact h
        · exfalso
          rcases hsink with h1 | ⟨⟨h1, h2⟩, h3⟩
          · have : N = l.length := Nat.eq_of_beq_eq_true h1
            obtain ⟨_, o, ho, _⟩ := mem_ready.1 hi
            have := (Array.getElem?_eq_some_iff.1 ho).1
            simp at this; omega
          · exact tail_waits h2 h3 (by simpa using Nat.blt_eq.mp h1) inv _ i0 rfl hi0 hun0 i h hi
      obtain ⟨hun, o, ho, hall⟩ := mem_ready.1 hi
      have ho' : l[i]? = some o := by simpa using ho
      have hpre : ∀ j, j ∈ preds o → ∃ v, T[ds.getD j 0]? = some v ∧ Φ j v w := by
        intro j hj
        have hjlt := backB_spec hback hiN ho' j hj
        simp only [preds, List.mem_map, List.mem_filter] at hj
        obtain ⟨ed, ⟨hed, hbd⟩, rfl⟩ := hj
        have h1 := hall ed (by simpa using hed) hbd
        have hj' : ed.on < listed.size := by omega
        refine hfacts ed.on (by omega) ?_
        simp only [Array.getD_eq_getD_getElem?, Array.getElem?_eq_getElem hj', Option.getD_some] at h1 ⊢
        exact h1
      have hisz : i < listed.size := by omega
      have hordi : b < i → listed.getD b true = true := fun hbi => by
        obtain ⟨p, hp, hbp⟩ := depB_spec hdep hiN hbi ho'
        have hjlt := backB_spec hback hiN ho' p hp
        have hpl : listed.getD p true = true := by
          simp only [preds, List.mem_map, List.mem_filter] at hp
          obtain ⟨ed, ⟨hed, hbd⟩, rfl⟩ := hp
          have h1 := hall ed (by simpa using hed) hbd
          have hj' : ed.on < listed.size := by omega
          simp only [Array.getD_eq_getD_getElem?, Array.getElem?_eq_getElem hj', Option.getD_some] at h1 ⊢
          exact h1
        rcases Nat.lt_or_ge b p with h1 | h1
        · exact hord p h1 (by omega) hpl
        · have : p = b := by omega
          rw [← this]; exact hpl
      by_cases hib : i = b
      · subst hib
        rw [hun] at hw
        have hw : I0 w := hw
        have hwl := Fin.use (C := fun T w => wpList P l.toArray (QB (ds.getD i 0) (Φ i) I1) [o] (act T) w) (preds o) e I0 (by
          have h1 := hstepb o ho'
          have conv : ∀ (js : List Nat) (e : Env) (I2 : World → Prop), Fin ds Φ js e I2 (fun e' I' => J P l.toArray (QB (ds.getD i 0) (Φ i) I1) n [o] e' I') →
              Fin ds Φ js e I2 (fun e' I' => ∀ T w, Rep n T e' → I' w → wpList P l.toArray (QB (ds.getD i 0) (Φ i) I1) [o] (act T) w) := by
            intro js
            induction js with
            | nil => intro e I2 h T w2 ht2 hw2; exact h T _ ht2 hw2
            | cons j js ihj => intro e I2 h v; exact ihj _ _ (h v)
          exact conv _ _ _ h1) T w ht hw hpre
        refine wpOp_of_listB ho (hdst i o hiN ho').1 hwl (fun v w' hv hφ hb => ?_) (by rw [ht.1]; exact (hd1 i hiN).1)
        have hset : (listed.setIfInBounds i true).getD i true = true := by simp [Array.getD_eq_getD_getElem?, hisz]
        refine ih _ _ w' (by have := cnt_set hisz hun N hiN; omega) (inv.set hi hiN) (ht.other (hd1 i hiN).2 v) (by rw [hset]; exact hb) (fun j _ _ _ => hset) (fun j hj hlj => ?_)
        by_cases hji : j = i
        · subst hji
          exact ⟨v, hv, hφ⟩
        · rw [getD_set_ne true (Ne.symm hji)] at hlj
          obtain ⟨u, hu, hφu⟩ := hfacts j hj hlj
          have hjb : j < i := by
            rcases Nat.lt_or_ge j i with h1 | h1
            · exact h1
            · have := hord j (by omega) hj hlj
              rw [hun] at this; cases this
          refine ⟨u, ?_, hΦb j u w w' hjb hφu⟩
          rw [Array.getElem?_setIfInBounds, if_neg (fun he => hji (hinj j i hj hiN he.symm))]
          exact hu
      · have hwl := Fin.use (C := fun T w => wpList P l.toArray (QF (ds.getD i 0) (Φ i) w) [o] (act T) w) (preds o) e (fun w' => w' = w ∧ (bif (listed.getD b true) then I1 else I0) w') (by
          have h1 := hstep i o (listed.getD b true) hiN hib hordi ho' w
          have conv : ∀ (js : List Nat) (e : Env) (I2 : World → Prop), (∀ w', I2 w' → w' = w) → Fin ds Φ js e I2 (fun e' I' => J P l.toArray (QF (ds.getD i 0) (Φ i) w) n [o] e' I') →
              Fin ds Φ js e I2 (fun e' I' => ∀ T w, Rep n T e' → I' w → wpList P l.toArray (QF (ds.getD i 0) (Φ i) w) [o] (act T) w) := by
            intro js
            induction js with
            | nil => intro e I2 hI2 h T w2 ht2 hw2; have hh := hI2 w2 hw2; subst hh; exact h T _ ht2 hw2
            | cons j js ihj => intro e I2 hI2 h v; exact ihj _ _ (fun w' hw' => hI2 w' hw'.2) (h v)
          exact conv _ _ _ (fun w' hw' => hw'.1) h1) T w ht ⟨rfl, hw⟩ hpre
        refine wpOp_of_list ho (hdst i o hiN ho').1 hwl (fun v w' hv hφ hb => ?_) (by rw [ht.1]; exact (hd1 i hiN).1)
        have hset : (listed.setIfInBounds i true).getD b true = listed.getD b true := getD_set_ne true hib
        refine ih _ _ w' (by have := cnt_set hisz hun N hiN; omega) (inv.set hi hiN) (ht.other (hd1 i hiN).2 v) ?_ (fun j hj1 hj2 hj3 => ?_) (fun j hj hlj => ?_)
        · rw [hset]
          cases hph : listed.getD b true with
          | true => rw [hph] at hw; exact hI1 w w' hw hb
          | false => rw [hph] at hw; exact hI0 w w' hw hb
        · rw [hset]
          by_cases hji : j = i
          · subst hji; exact hordi hj1
          · rw [getD_set_ne true (Ne.symm hji)] at hj3
            exact hord j hj1 hj2 hj3
        · by_cases hji : j = i
          · subst hji
            exact ⟨v, hv, hφ⟩
          · rw [getD_set_ne true (Ne.symm hji)] at hlj
            obtain ⟨u, hu, hφu⟩ := hfacts j hj hlj
            refine ⟨u, ?_, hΦ j u w w' hφu hb⟩
            rw [Array.getElem?_setIfInBounds, if_neg (fun he => hji (hinj j i hj hiN he.symm))]
            exact hu
  have hcnt0 : cnt (Array.replicate l.toArray.size false) N = N := by
    have : ∀ M, M ≤ N → cnt (Array.replicate l.toArray.size false) M = M := by
      intro M
      induction M with
      | zero => intro _; rfl
      | succ M ihM =>
        intro hM
        simp only [cnt]
        rw [getD_in (by simp; omega) (getD_replicate_false _ _), ihM (by omega)]
        simp; omega
    exact this N (Nat.le_refl _)
  have hw' : I0 { w with drawn := w.drawn + 1 } := hI0 w _ hw ((Bel.refl w).drew)
  have := key N (Array.replicate l.toArray.size false) T { w with drawn := w.drawn + 1 } hcnt0
    ⟨by simp, fun j oj _ hl => (by rw [getD_replicate_false] at hl; cases hl), fun t _ ht => getD_in (by simpa using ht) (getD_replicate_false _ _)⟩ ht (by rw [getD_in (by simp; omega) (getD_replicate_false _ _)]; exact hw') (fun j hj1 hj2 hl => by rw [getD_in (by simp; omega) (getD_replicate_false _ _)] at hl; cases hl)
    (fun i hi hl => by rw [getD_in (by simp; omega) (getD_replicate_false _ _)] at hl; cases hl)
  rw [show N + (l.length - N) = l.toArray.size by simp; omega] at this
  exact this
theorem JC.draw2 {P : Program} {Q : Exit → Act → World → Prop} {n id : Nat} {l : List Oper} {e : Env} {I0 I1 : World → Prop} (N b : Nat) (Φ : Nat → Value → World → Prop) {ds : List Nat}
    (hm : P.follows .mixedOrders = true) (hds : dsts (l.take N) = some ds) (hnd : nodupB ds = true) (hN : Nat.ble N l.length = true) (hB : headB l N = true)
    (hlt : (ds.all fun d => Nat.blt d n) = true) (hkeys : (ds.all fun d => (get e d).isNone) = true) (hbN : Nat.blt b N = true) (hdep : depB l N b = true)
    (hI0 : ∀ w w', I0 w → Bel w w' → I0 w') (hI1 : ∀ w w', I1 w → Bel w w' → I1 w') (hΦb : ∀ i v w w', i < b → Φ i v w → Φ i v w') (hΦ : ∀ i v w w', Φ i v w → Bel w w' → Φ i v w')
    (hA0 : Steps P l n ds Φ e I0 0 (l.take b)) (hA1 : Steps P l n ds Φ e I1 0 (l.take b)) {ob : Oper} (hob : l[b]? = some ob) (hb : Fin ds Φ (preds ob) e I0 (fun e' I' => J P l.toArray (QB (ds.getD b 0) (Φ b) I1) n [ob] e' I'))
    (hC : Steps P l n ds Φ e I1 (b + 1) ((l.take N).drop (b + 1)))
    (htail : Fin ds Φ (List.range N) e I1 (fun e' I' => J P l.toArray Q n (l.drop N) e' I')) : JC P Q n (.region id l.toArray true) e I0 := by
  have hbN' : b < N := Nat.blt_eq.mp hbN
  refine JC.any2 N b Φ hm hds hnd hN hB hlt hkeys hbN' hdep hI0 hI1 hΦb hΦ (fun i o ph hi hib hph ho wi => ?_) (fun o ho => ?_) htail
  · rcases Nat.lt_or_ge i b with h1 | h1
    · cases ph with
      | false =>
        have := Steps.all (l.take b) 0 hA0 i o (by rw [List.getElem?_take_of_lt h1]; exact ho) wi
        rwa [Nat.zero_add] at this
      | true =>
        have := Steps.all (l.take b) 0 hA1 i o (by rw [List.getElem?_take_of_lt h1]; exact ho) wi
        rwa [Nat.zero_add] at this
    · have hp := hph (by omega)
      subst hp
      have := Steps.all _ (b + 1) hC (i - (b + 1)) o (by rw [List.getElem?_drop, show b + 1 + (i - (b + 1)) = i by omega, List.getElem?_take_of_lt hi]; exact ho) wi
      rwa [show b + 1 + (i - (b + 1)) = i by omega] at this
  · rw [hob] at ho
    simp only [Option.some.injEq] at ho
    subst ho
    exact hb
end Go.J
