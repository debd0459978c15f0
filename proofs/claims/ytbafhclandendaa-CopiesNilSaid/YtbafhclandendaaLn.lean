/-
  The ring's plain laws: whoever isn't the nearest wants a nearer one; whom those that are wanted want; going round; whoever comes.
-/
import Derived.Test.YtbafhclandendaaLk
namespace Go.Proofs.Ytbafhclandendaa
open Go.J Go.RowKit
set_option linter.unusedVariables false
set_option linter.unusedSimpArgs false
set_option maxRecDepth 4000
theorem modM (a b : Nat) (ha : a < 2 ^ 128) (hb : b < 2 ^ 128) : (a + 2 ^ 128 - b) % 2 ^ 128 = if b ≤ a then a - b else a + 2 ^ 128 - b := by
  split <;> omega
theorem dI_shift (d a c : IDV) : dI a c = if dI d a ≤ dI d c then dI d c - dI d a else dI d c + 2 ^ 128 - dI d a := by
  rw [← modM _ _ (dI_lt _ _) (dI_lt _ _), dI_eq, dI_eq, dI_eq]
  have h1 := valI_lt a
  have h2 := valI_lt c
  have h3 := valI_lt d
  omega
theorem eI_of (d a : IDV) : eI d a = if dI d a = 0 then 0 else 2 ^ 128 - dI d a := by
  rw [eI_eq, dI_eq]
  have h1 := valI_lt a
  have h3 := valI_lt d
  split <;> omega
theorem eI_swap (a c : IDV) : eI a c = dI c a := by rw [eI_eq, dI_eq]
/-- how far, the shorter way -/
noncomputable def farI (d a : IDV) : Nat := if eI d a < dI d a then eI d a else dI d a
theorem farI_of (d a : IDV) : farI d a = if 2 ^ 128 < 2 * dI d a then 2 ^ 128 - dI d a else dI d a := by
  unfold farI
  rw [eI_of]
  have h := dI_lt d a
  split <;> split <;> (try split at *) <;> omega
def nearP (d a b : IDV) : Prop := farI d a < farI d b ∨ (farI d a = farI d b ∧ dI d a < dI d b)
/-- how near, as one number -/
theorem kN_exists (d x : IDV) : ∃ n : Nat, n = farI d x * 2 ^ 128 + dI d x := ⟨_, rfl⟩
noncomputable def kN (d x : IDV) : Nat := (kN_exists d x).choose
theorem kN_eq (d x : IDV) : kN d x = farI d x * 2 ^ 128 + dI d x := (kN_exists d x).choose_spec
theorem near_kN {d a b : IDV} : nearP d a b ↔ kN d a < kN d b := by
  rw [kN_eq, kN_eq]
  unfold nearP
  have h1 := dI_lt d a
  have h2 := dI_lt d b
  omega
theorem kN_inj {d a b : IDV} (h : kN d a = kN d b) : a = b := by
  rw [kN_eq, kN_eq] at h
  have h1 := dI_lt d a
  have h2 := dI_lt d b
  exact dI_inj (by omega : dI d a = dI d b)
/-- the place of the first one of which a number is least; -1 -/
def argI (f : IDV → Nat) (xs : List IDV) : Int := match xs.findIdx? (fun x => xs.all (fun y => decide (f x ≤ f y))) with
  | some i => (i : Int)
  | none => -1
theorem argI_at {f : IDV → Nat} {xs : List IDV} {i : Nat} (h : i < xs.length) (h1 : ∀ y, y ∈ xs → f xs[i] ≤ f y) (h2 : ∀ j z, j < i → xs[j]? = some z → ∃ y, y ∈ xs ∧ f y < f z) : argI f xs = i := by
  unfold argI
  have : xs.findIdx? (fun x => xs.all (fun y => decide (f x ≤ f y))) = some i := by
    rw [List.findIdx?_eq_some_iff_getElem]
    refine ⟨h, by simpa using h1, fun j hj => ?_⟩
    obtain ⟨y, hy, hlt⟩ := h2 j xs[j] hj (List.getElem?_eq_getElem (by omega))
    intro hall
    rw [List.all_eq_true] at hall
    have := hall y hy
    rw [decide_eq_true_eq] at this
    omega
  rw [this]
theorem argI_nil (f : IDV → Nat) : argI f [] = -1 := rfl
theorem argI_spec {f : IDV → Nat} {xs : List IDV} (h : xs ≠ []) : ∃ i x, argI f xs = ((i : Nat) : Int) ∧ xs[i]? = some x ∧ ∀ y, y ∈ xs → f x ≤ f y := by
  obtain ⟨m, hm, hmin⟩ := min_exists (f := f) h
  unfold argI
  cases hf : xs.findIdx? (fun x => xs.all (fun y => decide (f x ≤ f y))) with
  | none =>
    rw [List.findIdx?_eq_none_iff] at hf
    have h2 := hf m hm
    have h3 : (xs.all fun y => decide (f m ≤ f y)) = true := by
      rw [List.all_eq_true]
      intro y hy
      rw [decide_eq_true_eq]
      exact hmin y hy
    rw [h3] at h2
    cases h2
  | some i =>
    rw [List.findIdx?_eq_some_iff_getElem] at hf
    obtain ⟨hi, hp, _⟩ := hf
    exact ⟨i, xs[i], rfl, List.getElem?_eq_getElem hi, by simpa using hp⟩
theorem near_arith {a b c n fa fb fc fn : Nat} (ha : a < 2 ^ 128) (hb : b < 2 ^ 128) (hc : c < 2 ^ 128) (hn : n < 2 ^ 128) (hba : b ≠ a) (hca : c ≠ a) (hna : n ≠ a)
    (efa : fa = if 2 ^ 128 < 2 * a then 2 ^ 128 - a else a) (efb : fb = if 2 ^ 128 < 2 * b then 2 ^ 128 - b else b) (efc : fc = if 2 ^ 128 < 2 * c then 2 ^ 128 - c else c) (efn : fn = if 2 ^ 128 < 2 * n then 2 ^ 128 - n else n)
    (h1 : (if b ≤ a then a - b else a + 2 ^ 128 - b) ≤ (if n ≤ a then a - n else a + 2 ^ 128 - n)) (h2 : (if a ≤ c then c - a else c + 2 ^ 128 - a) ≤ (if a ≤ n then n - a else n + 2 ^ 128 - a))
    (hlt : fn < fa ∨ (fn = fa ∧ n < a)) : (fb < fa ∨ (fb = fa ∧ b < a)) ∨ (fc < fa ∨ (fc = fa ∧ c < a)) := by
  rcases Nat.lt_or_ge (2 ^ 128) (2 * a) with h | h
  · rw [if_pos h] at efa
    refine .inr ?_
    rcases Nat.lt_or_ge (2 ^ 128) (2 * n) with h3 | h3
    · rw [if_pos h3] at efn
      rw [if_pos (by omega : a ≤ n)] at h2
      split at h2 <;> split at efc <;> omega
    · rw [if_neg (by omega)] at efn
      rw [if_neg (by omega : ¬ a ≤ n)] at h2
      split at h2 <;> split at efc <;> omega
  · rw [if_neg (by omega)] at efa
    refine .inl ?_
    rcases Nat.lt_or_ge (2 ^ 128) (2 * n) with h3 | h3
    · rw [if_pos h3] at efn
      rw [if_neg (by omega : ¬ n ≤ a)] at h1
      split at h1 <;> split at efb <;> omega
    · rw [if_neg (by omega)] at efn
      rw [if_pos (by omega : n ≤ a)] at h1
      split at h1 <;> split at efb <;> omega
theorem want_first {a b : IDV} {xs : List IDV} {half : Int} (hh : 1 ≤ half) (hb : b ∈ sortI xs a) (h : (∀ y, y ∈ sortI xs a → dI a b ≤ dI a y) ∨ (∀ y, y ∈ sortI xs a → eI a b ≤ eI a y)) : b ∈ wantI a xs half := by
  refine mem_wantI.2 ⟨hb, ?_⟩
  rcases h with h | h
  · left
    have : rI a (sortI xs a) b = 0 := by
      unfold rI
      rw [List.countP_eq_zero]
      intro y hy
      have := h y hy
      simp; omega
    omega
  · right
    have : lI a (sortI xs a) b = 0 := by
      unfold lI
      rw [List.countP_eq_zero]
      intro y hy
      have := h y hy
      simp; omega
    omega
theorem greedy {a n d : IDV} {xs : List IDV} {half : Int} (hh : 1 ≤ half) (hn : n ∈ xs) (hna : n ≠ a) (hlt : nearP d n a) : ∃ b, b ∈ wantI a xs half ∧ nearP d b a := by
  have hs := (sortI_mem xs a n).2 ⟨hn, hna⟩
  have hne : sortI xs a ≠ [] := fun e => by rw [e] at hs; cases hs
  obtain ⟨b, hb, hbm⟩ := min_exists (f := eI a) hne
  obtain ⟨c, hc, hcm⟩ := min_exists (f := dI a) hne
  have wb := want_first hh hb (.inr hbm)
  have wc := want_first hh hc (.inl hcm)
  have hba := ((sortI_mem xs a b).1 hb).2
  have hca := ((sortI_mem xs a c).1 hc).2
  have k1 := hbm n hs
  have k2 := hcm n hs
  rw [eI_swap, eI_swap, dI_shift d b a, dI_shift d n a] at k1
  rw [dI_shift d a c, dI_shift d a n] at k2
  have ne : ∀ {x : IDV}, x ≠ a → dI d x ≠ dI d a := fun h e => h (dI_inj e)
  rcases near_arith (dI_lt d a) (dI_lt d b) (dI_lt d c) (dI_lt d n) (ne hba) (ne hca) (ne hna) (farI_of d a) (farI_of d b) (farI_of d c) (farI_of d n) k1 k2 hlt with h | h
  · exact ⟨b, wb, h⟩
  · exact ⟨c, wc, h⟩
theorem near_total {d a b : IDV} (h : a ≠ b) (hn : ¬ nearP d a b) : nearP d b a := by
  unfold nearP at *
  have : dI d a ≠ dI d b := fun e => h (dI_inj e)
  omega
theorem count_le_asc {l m : List IDV} {p q : IDV → Bool} (hl : Asc l) (hm : Asc m) (h : ∀ x, x ∈ l → p x = true → x ∈ m ∧ q x = true) : l.countP p ≤ m.countP q := by
  rw [List.countP_eq_length_filter, List.countP_eq_length_filter]
  have e : l.filter p = (m.filter q).filter (fun x => decide (x ∈ l.filter p)) := by
    refine asc_ext (hl.sublist List.filter_sublist) ((hm.sublist List.filter_sublist).sublist List.filter_sublist) fun x => ?_
    rw [List.mem_filter, List.mem_filter, List.mem_filter, decide_eq_true_eq, List.mem_filter]
    exact ⟨fun hx => ⟨h x hx.1 hx.2, hx⟩, fun hx => hx.2⟩
  rw [e]
  exact List.length_filter_le _ _
theorem want_low {f : IDV → Nat} {L M : List IDV} (hL : Asc L) (hM : Asc M) {half : Int} (hw : ∀ y, y ∈ L → ((L.countP (fun x => decide (f x < f y)) : Nat) : Int) < half → y ∈ M) {z : IDV} (hz : ((M.countP (fun x => decide (f x < f z)) : Nat) : Int) < half) :
    ((L.countP (fun x => decide (f x < f z)) : Nat) : Int) < half := by
  by_cases hall : ∀ y, y ∈ L → f y < f z → y ∈ M
  · have := count_le_asc (p := fun x => decide (f x < f z)) (q := fun x => decide (f x < f z)) hL hM (fun x hx hp => ⟨hall x hx (by simpa using hp), hp⟩)
    omega
  · have hne : L.filter (fun y => decide (f y < f z) && decide (y ∉ M)) ≠ [] := fun e => hall fun y hy hlt => by
      apply Classical.byContradiction
      intro hm
      have : y ∈ L.filter (fun y => decide (f y < f z) && decide (y ∉ M)) := by simp [hy, hlt, hm]
      rw [e] at this
      cases this
    obtain ⟨y0, hy0, hmin⟩ := min_exists (f := f) hne
    simp only [List.mem_filter, Bool.and_eq_true, decide_eq_true_eq] at hy0 hmin
    refine absurd (hw y0 hy0.1 ?_) hy0.2.2
    have := count_le_asc (p := fun x => decide (f x < f y0)) (q := fun x => decide (f x < f z)) hL hM (fun x hx hp => by
      have hp' : f x < f y0 := by simpa using hp
      refine ⟨?_, by simp; omega⟩
      apply Classical.byContradiction
      intro hm
      have := hmin x ⟨hx, by omega, hm⟩
      omega)
    omega
theorem want_mid {me : IDV} {xs l : List IDV} {half : Int} (h1 : ∀ z, z ∈ wantI me xs half → z ∈ l) (h2 : ∀ z, z ∈ l → z ∈ xs) : wantI me l half = wantI me xs half := by
  have sub : ∀ z, z ∈ sortI l me → z ∈ sortI xs me := fun z hz => by
    rw [sortI_mem] at hz ⊢
    exact ⟨h2 z hz.1, hz.2⟩
  refine asc_ext (wantI_asc _ _ _) (wantI_asc _ _ _) fun z => ?_
  rw [mem_wantI, mem_wantI]
  constructor
  · rintro ⟨hz, h⟩
    refine ⟨sub z hz, ?_⟩
    rcases h with h | h
    · left
      refine want_low (f := dI me) (sortI_asc xs me) (sortI_asc l me) (fun y hy hlt => ?_) h
      exact (sortI_mem l me y).2 ⟨h1 y (mem_wantI.2 ⟨hy, .inl hlt⟩), ((sortI_mem xs me y).1 hy).2⟩
    · right
      refine want_low (f := eI me) (sortI_asc xs me) (sortI_asc l me) (fun y hy hlt => ?_) h
      exact (sortI_mem l me y).2 ⟨h1 y (mem_wantI.2 ⟨hy, .inr hlt⟩), ((sortI_mem xs me y).1 hy).2⟩
  · rintro ⟨hz, h⟩
    refine ⟨(sortI_mem l me z).2 ⟨h1 z (mem_wantI.2 ⟨hz, h⟩), ((sortI_mem xs me z).1 hz).2⟩, ?_⟩
    rcases h with h | h
    · left
      have := count_le_asc (p := fun y => decide (dI me y < dI me z)) (q := fun y => decide (dI me y < dI me z)) (sortI_asc l me) (sortI_asc xs me) (fun x hx hp => ⟨sub x hx, hp⟩)
      unfold rI at *
      omega
    · right
      have := count_le_asc (p := fun y => decide (eI me y < eI me z)) (q := fun y => decide (eI me y < eI me z)) (sortI_asc l me) (sortI_asc xs me) (fun x hx hp => ⟨sub x hx, hp⟩)
      unfold lI at *
      omega
theorem want_idem (me : IDV) (xs : List IDV) (half : Int) : wantI me (wantI me xs half) half = wantI me xs half :=
  want_mid (fun z h => h) (fun z h => ((sortI_mem xs me z).1 (mem_wantI.1 h).1).1)
theorem want_learn {x b : IDV} {xs : List IDV} {half : Int} (hx : x ∉ xs) (hb : IsNext x xs b) : wantI x (wantI b xs half ++ [b]) half = wantI x xs half := by
  have step : ∀ y, y ∈ xs → y ≠ b → dI x y = dI x b + dI b y ∧ eI b y = eI x y + dI x b := fun y hy hyb => by
    have hyx : y ≠ x := fun e => hx (e ▸ hy)
    have h1 := hb.2 y hy hyx
    have h2 := dI_lt x y
    have h3 := dI_add_eI hyb
    have h4 := dI_add_eI hyx
    have h5 := dI_shift x b y
    rw [if_pos h1] at h5
    omega
  refine want_mid (fun z hz => ?_) (fun z hz => ?_)
  · obtain ⟨hz1, hz2⟩ := mem_wantI.1 hz
    have hzx := (sortI_mem xs x z).1 hz1
    rw [List.mem_append, List.mem_singleton]
    by_cases hzb : z = b
    · exact .inr hzb
    · left
      have sz := step z hzx.1 hzb
      refine mem_wantI.2 ⟨(sortI_mem xs b z).2 ⟨hzx.1, hzb⟩, ?_⟩
      rcases hz2 with h | h
      · left
        have := count_le_asc (p := fun y => decide (dI b y < dI b z)) (q := fun y => decide (dI x y < dI x z)) (sortI_asc xs b) (sortI_asc xs x) (fun y hy hp => by
          have hy' := (sortI_mem xs b y).1 hy
          have sy := step y hy'.1 hy'.2
          have hp' : dI b y < dI b z := by simpa using hp
          exact ⟨(sortI_mem xs x y).2 ⟨hy'.1, fun e => hx (e ▸ hy'.1)⟩, by simp; omega⟩)
        unfold rI at *
        omega
      · right
        have := count_le_asc (p := fun y => decide (eI b y < eI b z)) (q := fun y => decide (eI x y < eI x z)) (sortI_asc xs b) (sortI_asc xs x) (fun y hy hp => by
          have hy' := (sortI_mem xs b y).1 hy
          have sy := step y hy'.1 hy'.2
          have hp' : eI b y < eI b z := by simpa using hp
          exact ⟨(sortI_mem xs x y).2 ⟨hy'.1, fun e => hx (e ▸ hy'.1)⟩, by simp; omega⟩)
        unfold lI at *
        omega
  · rw [List.mem_append, List.mem_singleton] at hz
    rcases hz with h | rfl
    · exact ((sortI_mem xs b z).1 (mem_wantI.1 h).1).1
    · exact hb.1.1
/- going round -/
theorem countP_or {p q r : IDV → Bool} : ∀ {l : List IDV}, (∀ y, y ∈ l → p y = (q y || r y) ∧ ¬ (q y = true ∧ r y = true)) → l.countP p = l.countP q + l.countP r
  | [], _ => rfl
  | a :: l, h => by
    have h1 := h a (.head _)
    have h2 := countP_or (fun y hy => h y (.tail _ hy))
    rw [List.countP_cons, List.countP_cons, List.countP_cons, h2, h1.1]
    have h3 := h1.2
    cases hq : q a <;> cases hr : r a <;> simp [hq, hr] at h3 ⊢ <;> omega
theorem countP_le_or {p q r : IDV → Bool} : ∀ {l : List IDV}, (∀ y, y ∈ l → p y = true → q y = true ∨ r y = true) → l.countP p ≤ l.countP q + l.countP r
  | [], _ => Nat.le_refl _
  | a :: l, h => by
    have h1 := h a (.head _)
    have h2 := countP_le_or (fun y hy => h y (.tail _ hy))
    rw [List.countP_cons, List.countP_cons, List.countP_cons]
    cases hp : p a <;> cases hq : q a <;> cases hr : r a <;> simp [hp, hq, hr] at h1 ⊢ <;> omega
theorem countP_one {l : List IDV} (hl : Asc l) {m : IDV} (hm : m ∈ l) : l.countP (fun y => decide (y = m)) = 1 := by
  rw [List.countP_eq_length_filter]
  have : l.filter (fun y => decide (y = m)) = [m] := asc_ext (hl.sublist List.filter_sublist) (List.pairwise_singleton _ _) fun x => by
    simp only [List.mem_filter, decide_eq_true_eq, List.mem_singleton]
    exact ⟨fun h => h.2, fun h => ⟨h ▸ hm, h⟩⟩
  rw [this]; rfl
noncomputable def cntR (me : IDV) (xs : List IDV) (at_ : IDV) : Nat := (sortI xs me).countP (fun y => decide (dI me y ≤ dI me at_))
theorem cntR_le (me : IDV) (xs : List IDV) (at_ : IDV) : cntR me xs at_ ≤ (sortI xs me).length := List.countP_le_length
theorem cntR_me (me : IDV) (xs : List IDV) : cntR me xs me = 0 := by
  unfold cntR
  rw [List.countP_eq_zero]
  intro y hy
  have := dI_pos ((sortI_mem xs me y).1 hy).2
  rw [dI_self]
  simp; omega
theorem round_step {me at_ : IDV} {xs : List IDV} (h : cntR me xs at_ < (sortI xs me).length) : ∃ m, nextO at_ xs = some m ∧ m ≠ me ∧ m ∈ sortI xs me ∧ cntR me xs m = cntR me xs at_ + 1 := by
  have hne : (sortI xs me).filter (fun y => decide (dI me at_ < dI me y)) ≠ [] := fun e => by
    have : cntR me xs at_ = (sortI xs me).length := by
      unfold cntR
      rw [List.countP_eq_length]
      intro y hy
      rcases Nat.lt_or_ge (dI me at_) (dI me y) with h1 | h1
      · have : y ∈ (sortI xs me).filter (fun y => decide (dI me at_ < dI me y)) := by simp [hy, h1]
        rw [e] at this
        cases this
      · simpa using h1
    omega
  obtain ⟨m, hm, hmin⟩ := min_exists (f := dI me) hne
  simp only [List.mem_filter, decide_eq_true_eq] at hm hmin
  obtain ⟨hms, hmlt⟩ := hm
  have hmx := (sortI_mem xs me m).1 hms
  have lm := dI_lt me m
  refine ⟨m, nextO_of ⟨⟨hmx.1, fun e => by subst e; omega⟩, fun y hy hya => ?_⟩, hmx.2, hms, ?_⟩
  · rw [dI_shift me at_ m, dI_shift me at_ y, if_pos (Nat.le_of_lt hmlt)]
    have ly := dI_lt me y
    have hne : dI me y ≠ dI me at_ := fun e => hya (dI_inj e)
    split
    · have hym : y ≠ me := fun e => by subst e; rw [dI_self] at *; omega
      have := hmin y ⟨(sortI_mem xs me y).2 ⟨hy, hym⟩, by omega⟩
      omega
    · omega
  · unfold cntR
    rw [← countP_one (sortI_asc xs me) hms]
    refine countP_or fun y hy => ?_
    constructor
    · rw [Bool.eq_iff_iff, Bool.or_eq_true, decide_eq_true_eq, decide_eq_true_eq, decide_eq_true_eq]
      constructor
      · intro h1
        rcases Nat.lt_or_ge (dI me at_) (dI me y) with h2 | h2
        · right
          have := hmin y ⟨hy, h2⟩
          exact dI_inj (by omega : dI me y = dI me m)
        · exact .inl h2
      · rintro (h1 | rfl) <;> omega
    · rw [decide_eq_true_eq, decide_eq_true_eq]
      rintro ⟨h1, rfl⟩
      omega
theorem round_end {me at_ : IDV} {xs : List IDV} (hme : me ∈ xs) (hat : at_ ∈ xs) (h : cntR me xs at_ = (sortI xs me).length) : nextO at_ xs = if (sortI xs me).length = 0 then none else some me := by
  split
  · rename_i h0
    have h1 := List.eq_nil_of_length_eq_zero h0
    have all : ∀ x, x ∈ xs → x = me := fun x hx => by
      apply Classical.byContradiction
      intro hne
      have := (sortI_mem xs me x).2 ⟨hx, hne⟩
      rw [h1] at this
      cases this
    refine nextO_none fun x hx => ?_
    rw [all x hx, all at_ hat]
  · rename_i h0
    have hne : at_ ≠ me := fun e => by subst e; rw [cntR_me] at h; omega
    have hle : ∀ y, y ∈ sortI xs me → dI me y ≤ dI me at_ := fun y hy => by
      have := List.countP_eq_length.1 h y hy
      simpa using this
    refine nextO_of ⟨⟨hme, fun e => hne e.symm⟩, fun y hy hya => ?_⟩
    rw [dI_shift me at_ me, dI_shift me at_ y, dI_self]
    have hp := dI_pos hne
    have ha := dI_lt me at_
    have hne' : dI me y ≠ dI me at_ := fun e => hya (dI_inj e)
    rw [if_neg (by omega)]
    rw [if_neg ?_]
    · omega
    · by_cases hym : y = me
      · subst hym; rw [dI_self]; omega
      · have := hle y ((sortI_mem xs me y).2 ⟨hy, hym⟩)
        omega
/- whoever comes -/
theorem countP_at_most {l : List IDV} (hl : l.Nodup) {p : IDV → Bool} (h : ∀ x y, x ∈ l → y ∈ l → p x = true → p y = true → x = y) : l.countP p ≤ 1 := by
  rw [List.countP_eq_length_filter]
  have hn : (l.filter p).Nodup := hl.sublist List.filter_sublist
  match hf : l.filter p with
  | [] => simp
  | [_] => simp
  | a :: b :: r =>
    exfalso
    have ha : a ∈ l.filter p := by rw [hf]; exact .head _
    have hb : b ∈ l.filter p := by rw [hf]; exact .tail _ (.head _)
    rw [List.mem_filter] at ha hb
    have := h a b ha.1 hb.1 ha.2 hb.2
    subst this
    rw [hf] at hn
    simp at hn
theorem rank_lt {f : IDV → Nat} {L : List IDV} (hL : Asc L) {x y : IDV} (hx : x ∈ L) (h : f x < f y) : L.countP (fun z => decide (f z < f x)) + 1 ≤ L.countP (fun z => decide (f z < f y)) := by
  rw [← countP_one hL hx, ← countP_or (p := fun z => decide (f z < f x) || decide (z = x)) (fun z _ => ⟨rfl, by
    rw [decide_eq_true_eq, decide_eq_true_eq]; rintro ⟨h1, rfl⟩; omega⟩)]
  refine count_le_asc hL hL fun z hz hp => ⟨hz, ?_⟩
  simp only [Bool.or_eq_true, decide_eq_true_eq] at hp ⊢
  rcases hp with hp | rfl <;> omega
theorem grow_sub {me m x : IDV} {xs : List IDV} {half : Int} (hx : x ∈ wantI me (xs ++ [m]) half) (hm : x ≠ m) : x ∈ wantI me xs half := by
  obtain ⟨h1, h2⟩ := mem_wantI.1 hx
  obtain ⟨h3, h4⟩ := (sortI_mem _ _ _).1 h1
  have h5 : x ∈ xs := by simpa [hm] using h3
  have sub : ∀ z, z ∈ sortI xs me → z ∈ sortI (xs ++ [m]) me := fun z hz => by
    rw [sortI_mem] at hz ⊢
    exact ⟨by simp [hz.1], hz.2⟩
  refine mem_wantI.2 ⟨(sortI_mem _ _ _).2 ⟨h5, h4⟩, ?_⟩
  rcases h2 with h | h
  · left
    have := count_le_asc (p := fun y => decide (dI me y < dI me x)) (q := fun y => decide (dI me y < dI me x)) (sortI_asc xs me) (sortI_asc (xs ++ [m]) me) (fun y hy hp => ⟨sub y hy, hp⟩)
    unfold rI at *
    omega
  · right
    have := count_le_asc (p := fun y => decide (eI me y < eI me x)) (q := fun y => decide (eI me y < eI me x)) (sortI_asc xs me) (sortI_asc (xs ++ [m]) me) (fun y hy hp => ⟨sub y hy, hp⟩)
    unfold lI at *
    omega
theorem grow_one {me m : IDV} {xs : List IDV} (p : IDV → Bool) : (sortI (xs ++ [m]) me).countP p ≤ (sortI xs me).countP p + 1 := by
  have h1 := countP_le_or (l := sortI (xs ++ [m]) me) (p := p) (q := fun y => p y && decide (y ≠ m)) (r := fun y => decide (y = m)) (fun y _ hp => by
    by_cases h : y = m
    · right; simpa using h
    · left; simp [hp, h])
  have h2 := count_le_asc (p := fun y => p y && decide (y ≠ m)) (q := p) (sortI_asc (xs ++ [m]) me) (sortI_asc xs me) (fun y hy hp => by
    simp only [Bool.and_eq_true, decide_eq_true_eq] at hp
    obtain ⟨h3, h4⟩ := (sortI_mem _ _ _).1 hy
    exact ⟨(sortI_mem _ _ _).2 ⟨by simpa [hp.2] using h3, h4⟩, hp.1⟩)
  have h3 := countP_at_most (asc_nodup (sortI_asc (xs ++ [m]) me)) (p := fun y => decide (y = m)) (fun x y _ _ hx hy => by
    rw [decide_eq_true_eq] at hx hy
    rw [hx, hy])
  omega
theorem grow_gone (me m : IDV) (xs : List IDV) (half : Int) : (wantI me xs half).countP (fun x => !decide (x ∈ wantI me (xs ++ [m]) half)) ≤ 2 := by
  have h1 := countP_le_or (l := wantI me xs half) (p := fun x => !decide (x ∈ wantI me (xs ++ [m]) half)) (q := fun x => decide ((rI me (sortI xs me) x : Int) + 1 = half)) (r := fun x => decide ((lI me (sortI xs me) x : Int) + 1 = half)) (fun x hx hp => by
    obtain ⟨h2, h3⟩ := mem_wantI.1 hx
    obtain ⟨h4, h5⟩ := (sortI_mem _ _ _).1 h2
    have h6 : ¬ x ∈ wantI me (xs ++ [m]) half := by simpa using hp
    rw [mem_wantI] at h6
    have h7 : x ∈ sortI (xs ++ [m]) me := (sortI_mem _ _ _).2 ⟨by simp [h4], h5⟩
    have h8 := grow_one (me := me) (m := m) (xs := xs) (fun y => decide (dI me y < dI me x))
    have h9 := grow_one (me := me) (m := m) (xs := xs) (fun y => decide (eI me y < eI me x))
    rw [decide_eq_true_eq, decide_eq_true_eq]
    unfold rI lI at *
    have h10 : ¬ (((sortI (xs ++ [m]) me).countP (fun y => decide (dI me y < dI me x)) : Nat) : Int) < half := fun h => h6 ⟨h7, .inl h⟩
    have h11 : ¬ (((sortI (xs ++ [m]) me).countP (fun y => decide (eI me y < eI me x)) : Nat) : Int) < half := fun h => h6 ⟨h7, .inr h⟩
    omega)
  have hn := asc_nodup (wantI_asc me xs half)
  have h2 := countP_at_most hn (p := fun x => decide ((rI me (sortI xs me) x : Int) + 1 = half)) (fun x y hx hy px py => by
    rw [decide_eq_true_eq] at px py
    have hxs := (mem_wantI.1 hx).1
    have hys := (mem_wantI.1 hy).1
    unfold rI at px py
    apply dI_inj (me := me)
    rcases Nat.lt_trichotomy (dI me x) (dI me y) with h | h | h
    · have := rank_lt (f := dI me) (sortI_asc xs me) hxs h
      omega
    · exact h
    · have := rank_lt (f := dI me) (sortI_asc xs me) hys h
      omega)
  have h3 := countP_at_most hn (p := fun x => decide ((lI me (sortI xs me) x : Int) + 1 = half)) (fun x y hx hy px py => by
    rw [decide_eq_true_eq] at px py
    have hxs := (mem_wantI.1 hx).1
    have hys := (mem_wantI.1 hy).1
    unfold lI at px py
    have hx2 := ((sortI_mem _ _ _).1 hxs).2
    have hy2 := ((sortI_mem _ _ _).1 hys).2
    have ax := dI_add_eI hx2
    have ay := dI_add_eI hy2
    apply dI_inj (me := me)
    rcases Nat.lt_trichotomy (eI me x) (eI me y) with h | h | h
    · have := rank_lt (f := eI me) (sortI_asc xs me) hxs h
      omega
    · omega
    · have := rank_lt (f := eI me) (sortI_asc xs me) hys h
      omega)
  omega
end Go.Proofs.Ytbafhclandendaa
