/-
  The plain law of a log: what stands on the disk when power fails at any write, and behind a record that was laid.
-/
import Derived.Test.YtlmbpfgiadbjaaaSf
namespace Go.Proofs.Ytlmbpfgiadbjaaa
open Go.J Go.RowKit
set_option linter.unusedVariables false
set_option linter.unusedSimpArgs false
set_option maxRecDepth 4000

theorem openP_cases' (B : List UInt8) (n : Nat) {q : LogP} {e : Int} (h : openP B n = (e, some q)) : e = 0 ∧ ¬ n < 3 ∧ ¬ badHead n (q.gen, q.used, q.cnt) ∧ bestP B 2 = (q.gen, q.used, q.cnt) ∧ parseS B (2 + q.used) q.cnt 2 = some q.recs := by
  unfold openP at h
  split at h
  · simp at h
  · split at h
    · simp at h
    · rename_i h1 h2
      split at h
      · simp at h
      · rename_i rs h3
        simp only [Prod.mk.injEq, Option.some.injEq] at h
        obtain ⟨rfl, rfl⟩ := h
        exact ⟨rfl, h1, h2, rfl, h3⟩
theorem openP_mk {B : List UInt8} {n : Nat} {q : LogP} (h1 : ¬ n < 3) (h2 : bestP B 2 = (q.gen, q.used, q.cnt)) (h3 : ¬ badHead n (q.gen, q.used, q.cnt)) (h4 : parseS B (2 + q.used) q.cnt 2 = some q.recs) : openP B n = (0, some q) :=
  openP_some h1 h2 h3 h4
theorem put_get {B bs : List UInt8} {n i : Nat} (hB : B.length = 64 * n) (hi : i < n) (hb : bs.length ≤ 64) (j : Nat) : (put B i bs)[j]? = if j < 64 * i then B[j]? else if j < 64 * i + 64 then (bs ++ List.replicate (64 - bs.length) 0)[j - 64 * i]? else B[j]? := by
  rw [← wst_all hb, wst_get hB hi hb 64 j (by omega)]
theorem put_other {B bs : List UInt8} {n i : Nat} (hB : B.length = 64 * n) (hi : i < n) (hb : bs.length ≤ 64) {j : Nat} (h : j < 64 * i ∨ 64 * i + 64 ≤ j) : (put B i bs)[j]? = B[j]? := by
  rw [put_get hB hi hb]
  rcases h with h | h
  · rw [if_pos h]
  · rw [if_neg (by omega), if_neg (by omega)]
/-- the same bytes from a to b -/
def Same (B B' : List UInt8) (a b : Nat) : Prop := ∀ j, a ≤ j → j < b → B'[j]? = B[j]?
theorem Same.sub {B B' : List UInt8} {a b c d : Nat} (h : Same B B' a b) (h1 : a ≤ c) (h2 : d ≤ b) : Same B B' c d := fun j ha hb => h j (by omega) (by omega)
theorem Same.getD {B B' : List UInt8} {a b j : Nat} (h : Same B B' a b) (h1 : a ≤ j) (h2 : j < b) : B'.getD j 0 = B.getD j 0 := by
  rw [List.getD_eq_getElem?_getD, List.getD_eq_getElem?_getD, h j h1 h2]
theorem Same.take {B B' : List UInt8} {a b o m : Nat} (h : Same B B' a b) (h1 : a ≤ o) (h2 : o + m ≤ b) : (B'.drop o).take m = (B.drop o).take m := by
  apply List.ext_getElem?
  intro j
  by_cases hj : j < m
  · rw [List.getElem?_take_of_lt hj, List.getElem?_take_of_lt hj, List.getElem?_drop, List.getElem?_drop]
    exact h _ (by omega) (by omega)
  · rw [List.getElem?_eq_none (by simp; omega), List.getElem?_eq_none (by simp; omega)]
theorem Same.sec {B B' : List UInt8} {a b i : Nat} (h : Same B B' a b) (h1 : a ≤ 64 * i) (h2 : 64 * i + 64 ≤ b) : sec B' i = sec B i := h.take h1 h2
theorem Same.sizeAt {B B' : List UInt8} {a b at_ : Nat} (h : Same B B' a b) (h1 : a ≤ 64 * at_) (h2 : 64 * at_ + 2 ≤ b) : sizeAt B' at_ = sizeAt B at_ := by
  unfold Go.Proofs.Ytlmbpfgiadbjaaa.sizeAt
  rw [h.getD h1 (by omega), h.getD (by omega) (by omega)]
theorem parse_same {B B' : List UInt8} {top : Nat} : ∀ (k at_ : Nat), Same B B' (64 * at_) (64 * top) → parseS B' top k at_ = parseS B top k at_ := by
  intro k
  induction k with
  | zero => intro at_ _; rfl
  | succ k ih =>
    intro at_ h
    unfold parseS
    by_cases h1 : top ≤ at_
    · rw [if_pos h1, if_pos h1]
    · have hs := h.sizeAt (at_ := at_) (by omega) (by omega)
      rw [if_neg h1, if_neg h1, hs]
      by_cases h2 : 1024 < sizeAt B at_ ∨ top - at_ < needN (sizeAt B at_)
      · rw [if_pos h2, if_pos h2]
      · have hn := @need_bounds (sizeAt B at_)
        rw [if_neg h2, if_neg h2, ih _ (h.sub (by omega) (by omega)), h.take (by omega) (by omega)]
/-- a record that was laid behind is read behind -/
theorem parse_more {B B' rec_ : List UInt8} {top : Nat} (hl : rec_.length ≤ 1024) (hz : sizeAt B' top = rec_.length) (hr : (B'.drop (64 * top + 2)).take rec_.length = rec_) :
    ∀ (k at_ : Nat) (rs : List (List UInt8)), Same B B' (64 * at_) (64 * top) → parseS B top k at_ = some rs → parseS B' (top + needN rec_.length) (k + 1) at_ = some (rs ++ [rec_]) := by
  have hnb := @need_bounds rec_.length
  intro k
  induction k with
  | zero =>
    intro at_ rs _ h
    unfold parseS at h
    split at h
    · rename_i h1
      subst h1
      simp only [Option.some.injEq] at h
      subst h
      unfold parseS
      rw [if_neg (by omega), hz, if_neg (by omega), hr]
      unfold parseS
      rw [if_pos rfl]
      rfl
    · simp at h
  | succ k ih =>
    intro at_ rs hs h
    unfold parseS at h
    split at h
    · simp at h
    · rename_i h1
      split at h
      · simp at h
      · rename_i h2
        rw [Option.map_eq_some_iff] at h
        obtain ⟨rs', h3, rfl⟩ := h
        have hn := @need_bounds (sizeAt B at_)
        have h4 := hs.sizeAt (at_ := at_) (by omega) (by omega)
        have h5 := ih (at_ + needN (sizeAt B at_)) rs' (hs.sub (by omega) (by omega)) h3
        rw [parseS, if_neg (by omega), h4, if_neg (by omega), h5, hs.take (by omega) (by omega)]
        rfl
/-- so far the pieces of a payload were written -/
structure Ext (n top : Nat) (pay B : List UInt8) (i : Nat) (B' : List UInt8) : Prop where
  len : B'.length = 64 * n
  below : Same B B' 0 (64 * top)
  written : ∀ j, j < 64 * i → j < pay.length → B'[64 * top + j]? = pay[j]?
theorem Ext.step {n top : Nat} {pay B B' : List UInt8} {i : Nat} (h : Ext n top pay B i B') (hi : top + i < n) : Ext n top pay B (i + 1) (put B' (top + i) (piece pay i)) := by
  have hpl : (piece pay i).length ≤ 64 := by rw [piece_length]; omega
  refine ⟨put_length h.len hi hpl, fun j h1 h2 => ?_, fun j h1 h2 => ?_⟩
  · rw [put_other h.len hi hpl (.inl (by omega))]
    exact h.below j h1 h2
  · by_cases h3 : j < 64 * i
    · rw [put_other h.len hi hpl (.inl (by omega))]
      exact h.written j h3 h2
    · rw [put_get h.len hi hpl, if_neg (by omega), if_pos (by omega), List.getElem?_append_left (by rw [piece_length]; omega), piece, List.getElem?_take_of_lt (by omega), List.getElem?_drop]
      congr 1
      omega
theorem Ext.start {n top : Nat} {pay B : List UInt8} (hB : B.length = 64 * n) : Ext n top pay B 0 B := ⟨hB, fun _ _ _ => rfl, fun j h _ => by omega⟩
def pickH (b h : Nat × Nat × Nat) : Nat × Nat × Nat := if b.1 < h.1 then h else b
theorem bestP_pick (B : List UInt8) : bestP B 2 = pickH (pickH (0, 0, 0) (headP (sec B 0))) (headP (sec B 1)) := rfl
theorem bestP_same {B B' : List UInt8} (h : Same B B' 0 128) : bestP B' 2 = bestP B 2 := by
  have h0 := h.sec (i := 0) (by omega) (by omega)
  have h1 := h.sec (i := 1) (by omega) (by omega)
  rw [bestP_pick, bestP_pick, h0, h1]
theorem Ext.open {n top : Nat} {pay B B' : List UInt8} {i : Nat} {q : LogP} (h : Ext n top pay B i B') (ht : top = 2 + q.used) (ho : openP B n = (0, some q)) : openP B' n = (0, some q) := by
  obtain ⟨_, h1, h2, h3, h4⟩ := openP_cases' B n ho
  refine openP_mk h1 ?_ h2 ?_
  · rw [bestP_same (h.below.sub (by omega) (by omega))]; exact h3
  · rw [parse_same _ _ (h.below.sub (by omega) (by omega))]; exact h4
theorem bestP_ge (B : List UInt8) : (headP (sec B 0)).1 ≤ (bestP B 2).1 ∧ (headP (sec B 1)).1 ≤ (bestP B 2).1 := by
  simp only [bestP]
  by_cases h0 : 0 < (headP (sec B 0)).1
  · simp only [h0, if_true]
    split <;> omega
  · simp only [h0, if_false]
    split <;> simp at * <;> omega
theorem headP_laid {g u c : Nat} (hg : g < 18446744073709551616) (hu : u < 18446744073709551616) (hc : c < 18446744073709551616) : headP ([g, u, c].flatMap be8 ++ List.replicate 40 0) = (g, u, c) := by
  have e : [g, u, c].flatMap be8 ++ List.replicate 40 0 = be8 g ++ (be8 u ++ (be8 c ++ List.replicate 40 0)) := by simp
  have l1 := be8_length g
  have l2 := be8_length u
  have l3 := be8_length c
  rw [e]
  unfold headP
  have d8 : (be8 g ++ (be8 u ++ (be8 c ++ List.replicate 40 (0 : UInt8)))).drop 8 = be8 u ++ (be8 c ++ List.replicate 40 0) := List.drop_left' l1
  have d16 : (be8 g ++ (be8 u ++ (be8 c ++ List.replicate 40 (0 : UInt8)))).drop 16 = be8 c ++ List.replicate 40 0 := by
    rw [show 16 = 8 + 8 from rfl, ← List.drop_drop, d8]; exact List.drop_left' l2
  have d24 : (be8 g ++ (be8 u ++ (be8 c ++ List.replicate 40 (0 : UInt8)))).drop 24 = List.replicate 40 0 := by
    rw [show 24 = 16 + 8 from rfl, ← List.drop_drop, d16]; exact List.drop_left' l3
  rw [d24, if_pos (by simp), d8, d16, List.take_left' l1, List.take_left' l2, List.take_left' l3, num_be8 g hg, num_be8 u hu, num_be8 c hc]
/-- the last write: the head -/
theorem Ext.done {n : Nat} {rec_ B B' : List UInt8} {q : LogP} (h : Ext n (2 + q.used) (payload rec_) B (needN rec_.length) B') (ho : openP B n = (0, some q)) (hn : n ≤ 4096) (hl : rec_.length ≤ 1024) (hf : needN rec_.length ≤ n - 2 - q.used) (hg : q.gen + 1 < 9223372036854775808) :
    openP (put B' ((q.gen + 1) % 2) ([q.gen + 1, q.used + needN rec_.length, q.cnt + 1].flatMap be8)) n = (0, some ⟨q.gen + 1, q.used + needN rec_.length, q.cnt + 1, q.recs ++ [rec_]⟩) := by
  obtain ⟨_, h1, h2, h3, h4⟩ := openP_cases' B n ho
  have hnb := @need_bounds rec_.length
  have hpl := payload_length rec_
  unfold badHead at h2
  simp only at h2
  have hfl : ([q.gen + 1, q.used + needN rec_.length, q.cnt + 1].flatMap be8).length = 24 := by rw [flat_length]; rfl
  have hi : (q.gen + 1) % 2 < n := by omega
  have hother : ∀ j, 128 ≤ j → (put B' ((q.gen + 1) % 2) ([q.gen + 1, q.used + needN rec_.length, q.cnt + 1].flatMap be8))[j]? = B'[j]? := fun j hj => put_other h.len hi (by omega) (.inr (by omega))
  have hge := bestP_ge B
  rw [h3] at hge
  simp only at hge
  have hs0 : sec B' 0 = sec B 0 := h.below.sec (by omega) (by omega)
  have hs1 : sec B' 1 = sec B 1 := h.below.sec (by omega) (by omega)
  have hnew : sec (put B' ((q.gen + 1) % 2) ([q.gen + 1, q.used + needN rec_.length, q.cnt + 1].flatMap be8)) ((q.gen + 1) % 2) = [q.gen + 1, q.used + needN rec_.length, q.cnt + 1].flatMap be8 ++ List.replicate 40 0 := by
    apply List.ext_getElem?
    intro j
    by_cases hj : j < 64
    · rw [sec, List.getElem?_take_of_lt hj, List.getElem?_drop, put_get h.len hi (by omega), if_neg (by omega), if_pos (by omega), hfl]
      congr 1
      omega
    · rw [List.getElem?_eq_none (by simp [sec]; omega), List.getElem?_eq_none (by simp only [List.length_append, hfl, List.length_replicate]; omega)]
  have hkeep : ∀ k, k < 2 → k ≠ (q.gen + 1) % 2 → sec (put B' ((q.gen + 1) % 2) ([q.gen + 1, q.used + needN rec_.length, q.cnt + 1].flatMap be8)) k = sec B' k := by
    intro k hk hne
    have : Same B' (put B' ((q.gen + 1) % 2) ([q.gen + 1, q.used + needN rec_.length, q.cnt + 1].flatMap be8)) (64 * k) (64 * k + 64) := fun j ha hb => put_other h.len hi (by omega) (by omega)
    exact this.sec (Nat.le_refl _) (Nat.le_refl _)
  have hhead := headP_laid (g := q.gen + 1) (u := q.used + needN rec_.length) (c := q.cnt + 1) (by omega) (by omega) (by omega)
  refine openP_mk h1 ?_ ?_ ?_
  · rcases Nat.mod_two_eq_zero_or_one (q.gen + 1) with hm | hm
    · have e0 := hnew
      have e1 := hkeep 1 (by omega) (by omega)
      rw [hm] at e0 e1 ⊢
      simp only [bestP, e0, e1, hhead, hs1, show 0 < q.gen + 1 by omega, if_true]
      rw [if_neg (by omega)]
    · have e0 := hkeep 0 (by omega) (by omega)
      have e1 := hnew
      rw [hm] at e0 e1 ⊢
      simp only [bestP, e0, e1, hhead, hs0]
      by_cases hz : 0 < (headP (sec B 0)).1
      · rw [if_pos hz, if_pos (by omega)]
      · rw [if_neg hz, if_pos (by simp only; omega)]
  · unfold badHead; simp only; omega
  · have hsame : Same B (put B' ((q.gen + 1) % 2) ([q.gen + 1, q.used + needN rec_.length, q.cnt + 1].flatMap be8)) (64 * 2) (64 * (2 + q.used)) := fun j ha hb => by
      rw [hother j (by omega)]; exact h.below j (by omega) hb
    have hw : ∀ j, j < 2 + rec_.length → (put B' ((q.gen + 1) % 2) ([q.gen + 1, q.used + needN rec_.length, q.cnt + 1].flatMap be8))[64 * (2 + q.used) + j]? = (payload rec_)[j]? := fun j hj => by
      rw [hother _ (by omega)]; exact h.written j (by omega) (by omega)
    have := parse_more (B := B) (B' := put B' ((q.gen + 1) % 2) ([q.gen + 1, q.used + needN rec_.length, q.cnt + 1].flatMap be8)) (rec_ := rec_) (top := 2 + q.used) hl ?_ ?_ q.cnt 2 q.recs hsame h4
    · rw [← Nat.add_assoc]; exact this
    · unfold sizeAt
      rw [List.getD_eq_getElem?_getD, List.getD_eq_getElem?_getD, hw 1 (by omega)]
      have := hw 0 (by omega)
      simp only [Nat.add_zero] at this
      rw [this]
      simp only [payload, List.cons_append, List.getElem?_cons_zero, List.getElem?_cons_succ, Option.getD_some, UInt8.toNat_ofNat']
      omega
    · apply List.ext_getElem?
      intro j
      by_cases hj : j < rec_.length
      · rw [List.getElem?_take_of_lt hj, List.getElem?_drop, show 64 * (2 + q.used) + 2 + j = 64 * (2 + q.used) + (j + 2) by omega, hw _ (by omega)]
        simp [payload]
      · rw [List.getElem?_eq_none (by simp; omega), List.getElem?_eq_none (by omega)]
/-- what appending leaves on the disk -/
theorem dws_open {n : Nat} {rec_ B : List UInt8} {q : LogP} (hn : n ≤ 4096) (ho : openP B n = (0, some q)) (hl : rec_.length ≤ 1024) (hf : needN rec_.length ≤ n - 2 - q.used) (hg : q.gen + 1 < 9223372036854775808) :
    ∀ (m i : Nat) (σ : DS), m = needN rec_.length - i → i ≤ needN rec_.length → Ext n (2 + q.used) (payload rec_) B i σ.B →
      (((dws σ ((planP q.gen q.used q.cnt rec_).drop i)).2 = false ∧ openP (dws σ ((planP q.gen q.used q.cnt rec_).drop i)).1.B n = (0, some q)) ∨
        ((dws σ ((planP q.gen q.used q.cnt rec_).drop i)).2 = true ∧ openP (dws σ ((planP q.gen q.used q.cnt rec_).drop i)).1.B n = (0, some ⟨q.gen + 1, q.used + needN rec_.length, q.cnt + 1, q.recs ++ [rec_]⟩))) ∧
      (dws σ ((planP q.gen q.used q.cnt rec_).drop i)).1.B.length = 64 * n ∧ σ.k ≤ (dws σ ((planP q.gen q.used q.cnt rec_).drop i)).1.k ∧ (dws σ ((planP q.gen q.used q.cnt rec_).drop i)).1.k ≤ σ.k + m + 1 ∧ (σ.p < 9223372036854775808 → (dws σ ((planP q.gen q.used q.cnt rec_).drop i)).1.p < 9223372036854775808) := by
  obtain ⟨_, h1, h2, _, _⟩ := openP_cases' B n ho
  unfold badHead at h2
  simp only at h2
  intro m
  induction m with
  | zero =>
    intro i σ hm hi hE
    obtain rfl : i = needN rec_.length := by omega
    rw [plan_last]
    by_cases hp : σ.p = 0
    · have e : dws σ [((q.gen + 1) % 2, [q.gen + 1, q.used + needN rec_.length, q.cnt + 1].flatMap be8)] = (σ, false) := by simp [dws, hp]
      rw [e]
      exact ⟨.inl ⟨rfl, hE.open rfl ho⟩, hE.len, Int.le_refl _, by simp only; omega, fun h => h⟩
    · have e : dws σ [((q.gen + 1) % 2, [q.gen + 1, q.used + needN rec_.length, q.cnt + 1].flatMap be8)] = (dw σ ((q.gen + 1) % 2) ([q.gen + 1, q.used + needN rec_.length, q.cnt + 1].flatMap be8), true) := by simp [dws, hp]
      rw [e]
      refine ⟨.inr ⟨rfl, hE.done ho hn hl hf hg⟩, put_length hE.len (by omega) (by rw [flat_length]; simp), by simp only [dw]; omega, by simp only [dw]; omega, fun h => by simp only [dw]; split <;> omega⟩
  | succ m ih =>
    intro i σ hm hi hE
    rw [plan_at (by omega)]
    by_cases hp : σ.p = 0
    · have e : ∀ x xs, dws σ (x :: xs) = (σ, false) := by intro x xs; simp [dws, hp]
      rw [e]
      exact ⟨.inl ⟨rfl, hE.open rfl ho⟩, hE.len, Int.le_refl _, by simp only; omega, fun h => h⟩
    · rw [dws_cons hp]
      have := ih (i + 1) (dw σ (2 + q.used + i) (piece (payload rec_) i)) (by omega) (by omega) (hE.step (by omega))
      refine ⟨this.1, this.2.1, ?_, ?_, fun h => this.2.2.2.2 (by simp only [dw]; split <;> omega)⟩
      · have h3 := this.2.2.1; simp only [dw] at h3 ⊢; omega
      · have h3 := this.2.2.2.1; simp only [dw] at h3 ⊢; omega
/-- what holds between a log and its disk -/
structure LogI (n : Nat) (q : LogP) (σ : DS) : Prop where
  len : σ.B.length = 64 * n
  open_ : openP σ.B n = (0, some q)
  p : σ.p < 9223372036854775808
theorem append_law {n : Nat} {q : LogP} {σ : DS} {down : Bool} {rec_ : List UInt8} (hn : n ≤ 4096) (h : LogI n q σ) (hg : q.gen + 1 < 9223372036854775808) :
    ∃ e q' down' σ', appendP n q down σ rec_ = (e, q', down', σ') ∧ LogI n q' σ' ∧ σ.k ≤ σ'.k ∧ σ'.k ≤ σ.k + 19 ∧ q'.gen ≤ q.gen + 1 ∧ q.gen ≤ q'.gen ∧
      ((e = 0 ∧ q'.recs = q.recs ++ [rec_]) ∨ (e ≠ 0 ∧ q' = q)) ∧ (e = 8 ↔ down' = true) := by
  unfold appendP
  by_cases h0 : down = true
  · exact ⟨8, q, true, σ, by rw [if_pos h0], h, Int.le_refl _, by omega, by omega, by omega, .inr ⟨by omega, rfl⟩, by simp⟩
  rw [if_neg h0]
  by_cases h1 : 1024 < rec_.length
  · exact ⟨4, q, false, σ, by rw [if_pos h1], h, Int.le_refl _, by omega, by omega, by omega, .inr ⟨by omega, rfl⟩, by simp⟩
  rw [if_neg h1]
  by_cases h2 : n - 2 - q.used < needN rec_.length
  · exact ⟨5, q, false, σ, by rw [if_pos h2], h, Int.le_refl _, by omega, by omega, by omega, .inr ⟨by omega, rfl⟩, by simp⟩
  rw [if_neg h2]
  have hnb : needN rec_.length ≤ 18 := by unfold needN; omega
  have key := dws_open (rec_ := rec_) hn h.open_ (by omega) (by omega) hg (needN rec_.length) 0 σ (by omega) (by omega) (Ext.start h.len)
  rw [List.drop_zero] at key
  obtain ⟨hk, hlen, hk1, hk2, hp⟩ := key
  generalize dws σ (planP q.gen q.used q.cnt rec_) = x at hk hlen hk1 hk2 hp ⊢
  obtain ⟨σ', ok⟩ := x
  simp only at hk hlen hk1 hk2 hp
  rcases hk with ⟨rfl, ho⟩ | ⟨rfl, ho⟩
  · exact ⟨8, q, true, σ', rfl, ⟨hlen, ho, hp h.p⟩, hk1, by omega, by omega, by omega, .inr ⟨by omega, rfl⟩, by simp⟩
  · exact ⟨0, _, false, σ', rfl, ⟨hlen, ho, hp h.p⟩, hk1, by omega, by simp only; omega, by simp only; omega, .inl ⟨rfl, rfl⟩, by simp⟩
theorem openP_zero {n : Nat} (h : 3 ≤ n) (hn : n ≤ 4096) : openP (List.replicate (64 * n) 0) n = (0, some ⟨0, 0, 0, []⟩) := by
  have hs : ∀ k, k < 2 → sec (List.replicate (64 * n) (0 : UInt8)) k = List.replicate 64 0 := by
    intro k hk
    simp only [sec, List.drop_replicate, List.take_replicate]
    congr 1; omega
  have hh : headP (List.replicate 64 (0 : UInt8)) = (0, 0, 0) := by decide
  refine openP_mk (by omega) ?_ ?_ ?_
  · simp only [bestP, hs 0 (by omega), hs 1 (by omega), hh]
    rfl
  · unfold badHead; simp only; omega
  · rfl
end Go.Proofs.Ytlmbpfgiadbjaaa
