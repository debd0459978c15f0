/-
  How far and how near: the document's Far and Nearer, the program's Far, Nearer, Nearest: contracts.
-/
import Derived.Test.YtohldionclgljaaLb
namespace Go.Proofs.Ytohldionclgljaa
open Go.J Go.RowKit
set_option linter.unusedVariables false
set_option linter.unusedSimpArgs false
set_option maxRecDepth 4000
noncomputable def dI (me x : IDV) : Nat := valI (subI x me)
theorem dI_inj {me a b : IDV} (h : dI me a = dI me b) : a = b := by
  unfold dI at h
  rw [valI_subI, valI_subI] at h
  have h1 := valI_lt a
  have h2 := valI_lt b
  have h3 := valI_lt me
  exact valI_inj (by omega)
noncomputable def eI (me x : IDV) : Nat := valI (subI me x)
theorem dI_lt (me x : IDV) : dI me x < 2 ^ 128 := valI_lt _
theorem dI_eq (me x : IDV) : dI me x = (valI x + 2 ^ 128 - valI me) % 2 ^ 128 := valI_subI x me
theorem eI_eq (me x : IDV) : eI me x = (valI me + 2 ^ 128 - valI x) % 2 ^ 128 := valI_subI me x
theorem modM (a b : Nat) (ha : a < 2 ^ 128) (hb : b < 2 ^ 128) : (a + 2 ^ 128 - b) % 2 ^ 128 = if b ≤ a then a - b else a + 2 ^ 128 - b := by
  split <;> omega
theorem dI_shift (d a c : IDV) : dI a c = if dI d a ≤ dI d c then dI d c - dI d a else dI d c + 2 ^ 128 - dI d a := by
  rw [← modM _ _ (dI_lt _ _) (dI_lt _ _), dI_eq, dI_eq, dI_eq]
  have h1 := valI_lt a
  have h2 := valI_lt c
  have h3 := valI_lt d
  omega
theorem eI_of (d a : IDV) : eI d a = if dI d a = 0 then 0 else 2 ^ 128 - dI d a := by
  rw [eI_eq, dI_eq]
  have h1 := valI_lt a
  have h3 := valI_lt d
  split <;> omega
theorem eI_swap (a c : IDV) : eI a c = dI c a := by rw [eI_eq, dI_eq]
/-- how far, the shorter way -/
noncomputable def farI (d a : IDV) : Nat := if eI d a < dI d a then eI d a else dI d a
theorem farI_of (d a : IDV) : farI d a = if 2 ^ 128 < 2 * dI d a then 2 ^ 128 - dI d a else dI d a := by
  unfold farI
  rw [eI_of]
  have h := dI_lt d a
  split <;> split <;> (try split at *) <;> omega
def nearP (d a b : IDV) : Prop := farI d a < farI d b ∨ (farI d a = farI d b ∧ dI d a < dI d b)
/-- how near, as one number -/
theorem kN_exists (d x : IDV) : ∃ n : Nat, n = farI d x * 2 ^ 128 + dI d x := ⟨_, rfl⟩
noncomputable def kN (d x : IDV) : Nat := (kN_exists d x).choose
theorem kN_eq (d x : IDV) : kN d x = farI d x * 2 ^ 128 + dI d x := (kN_exists d x).choose_spec
theorem near_kN {d a b : IDV} : nearP d a b ↔ kN d a < kN d b := by
  rw [kN_eq, kN_eq]
  unfold nearP
  have h1 := dI_lt d a
  have h2 := dI_lt d b
  omega
theorem kN_inj {d a b : IDV} (h : kN d a = kN d b) : a = b := by
  rw [kN_eq, kN_eq] at h
  have h1 := dI_lt d a
  have h2 := dI_lt d b
  exact dI_inj (by omega : dI d a = dI d b)
theorem min_exists {f : IDV → Nat} : ∀ {L : List IDV}, L ≠ [] → ∃ m, m ∈ L ∧ ∀ y, y ∈ L → f m ≤ f y
  | [], h => absurd rfl h
  | [x], _ => ⟨x, .head _, fun y hy => by simp only [List.mem_singleton] at hy; subst hy; exact Nat.le_refl _⟩
  | x :: y :: L, _ => by
    obtain ⟨m, h1, h2⟩ := min_exists (f := f) (L := y :: L) (by simp)
    rcases Nat.le_total (f x) (f m) with h | h
    · exact ⟨x, .head _, fun z hz => by
        rcases List.mem_cons.1 hz with rfl | hz
        · exact Nat.le_refl _
        · exact Nat.le_trans h (h2 z hz)⟩
    · exact ⟨m, .tail _ h1, fun z hz => by
        rcases List.mem_cons.1 hz with rfl | hz
        · exact h
        · exact h2 z hz⟩
/-- the place of the first one of which a number is least; -1 -/
def argI (f : IDV → Nat) (xs : List IDV) : Int := match xs.findIdx? (fun x => xs.all (fun y => decide (f x ≤ f y))) with
  | some i => (i : Int)
  | none => -1
theorem argI_at {f : IDV → Nat} {xs : List IDV} {i : Nat} (h : i < xs.length) (h1 : ∀ y, y ∈ xs → f xs[i] ≤ f y) (h2 : ∀ j z, j < i → xs[j]? = some z → ∃ y, y ∈ xs ∧ f y < f z) : argI f xs = i := by
  unfold argI
  have : xs.findIdx? (fun x => xs.all (fun y => decide (f x ≤ f y))) = some i := by
    rw [List.findIdx?_eq_some_iff_getElem]
    refine ⟨h, by simpa using h1, fun j hj => ?_⟩
    obtain ⟨y, hy, hlt⟩ := h2 j xs[j] hj (List.getElem?_eq_getElem (by omega))
    intro hall
    rw [List.all_eq_true] at hall
    have := hall y hy
    rw [decide_eq_true_eq] at this
    omega
  rw [this]
theorem argI_nil (f : IDV → Nat) : argI f [] = -1 := rfl
theorem argI_spec {f : IDV → Nat} {xs : List IDV} (h : xs ≠ []) : ∃ i x, argI f xs = ((i : Nat) : Int) ∧ xs[i]? = some x ∧ ∀ y, y ∈ xs → f x ≤ f y := by
  obtain ⟨m, hm, hmin⟩ := min_exists (f := f) h
  unfold argI
  cases hf : xs.findIdx? (fun x => xs.all (fun y => decide (f x ≤ f y))) with
  | none =>
    rw [List.findIdx?_eq_none_iff] at hf
    have h2 := hf m hm
    have h3 : (xs.all fun y => decide (f m ≤ f y)) = true := by
      rw [List.all_eq_true]
      intro y hy
      rw [decide_eq_true_eq]
      exact hmin y hy
    rw [h3] at h2
    cases h2
  | some i =>
    rw [List.findIdx?_eq_some_iff_getElem] at hf
    obtain ⟨hi, hp, _⟩ := hf
    exact ⟨i, xs[i], rfl, List.getElem?_eq_getElem hi, by simpa using hp⟩
noncomputable def farV (d x : IDV) : IDV := if eI d x < dI d x then subI d x else subI x d
theorem val_farV (d x : IDV) : valI (farV d x) = farI d x := by
  unfold farV farI
  split <;> rfl
theorem farV_alt (d x : IDV) : farV d x = if dI d x < eI d x then subI x d else subI d x := by
  unfold farV
  rcases Nat.lt_trichotomy (eI d x) (dI d x) with h | h | h
  · rw [if_pos h, if_neg (by omega)]
  · rw [if_neg (by omega), if_neg (by omega)]; exact valI_inj h.symm
  · rw [if_neg (by omega), if_pos h]
theorem near_cmp (d a b : IDV) : kN d a < kN d b ↔ farI d a < farI d b ∨ (farI d a = farI d b ∧ dI d a < dI d b) := near_kN.symm
theorem cmpI_neg {a b : IDV} : cmpI a b < 0 ↔ valI a < valI b := by
  unfold cmpI
  split
  · simp; assumption
  · split <;> simp <;> omega
theorem cmpI_zero {a b : IDV} : cmpI a b = 0 ↔ valI a = valI b := by
  unfold cmpI
  split
  · simp; omega
  · split <;> simp <;> omega

theorem rfar_spec (x d : IDV) (w : World) :
    Calls Try.prog 50 [.agg (cI x).toArray, .agg (cI d).toArray].toArray w fun r w' => r = .returned (.agg (cI (farV d x)).toArray) ∧ Bel w w' := by
  refine calls_of_J (args := [.agg (cI x).toArray, .agg (cI d).toArray]) (e := [(0, .agg (cI x).toArray), (1, .agg (cI d).toArray)]) Try.func50 rfl rfl ⟨rfl, rfl, trivial⟩ (St.start w) ?_
  refine JC.seq (fun K0 hK0 => ?_)
  refine JC.region ?_
  refine J.box rfl rfl rfl (fun b2 => ?_)
  refine J.box rfl rfl rfl (fun b3 => ?_)
  refine J.alloc Ty.zID rfl rfl (fun b4 => ?_)
  refine J.nil ?_
  refine JX.thenN (hK0 _ _ ?_)
  refine JC.seq (fun K1 hK1 => ?_)
  refine JC.seq (fun K2 hK2 => ?_)
  apply JC.drawL 7 [Eqv (.agg (cI d).toArray), Eqv (.agg (cI x).toArray), Eqv (.agg (cI (subI d x)).toArray), Eqv (.agg (cI x).toArray), Eqv (.agg (cI d).toArray), Eqv (.agg (cI (subI x d)).toArray), Eqv (.bool (decide (eI d x < dI d x)))] Ty.mixed rfl rfl rfl (by kernel_rfl) rfl rfl (fun w w' hw hb => hw.step hb) ⟨fun _ _ _ h _ => h, fun _ _ _ h _ => h, fun _ _ _ h _ => h, fun _ _ _ h _ => h, fun _ _ _ h _ => h, fun _ _ _ h _ => h, fun _ _ _ h _ => h, trivial⟩ ?hstep ?htail
  case hstep =>
    refine ⟨fun wi => ?_, fun wi => ?_, fun wi => ?_, fun wi => ?_, fun wi => ?_, fun wi => ?_, fun wi => ?_, trivial⟩
    · skip
      refine Fin.nil ?_
      refine J.loadA (vs := cI d) Ty.a23 Ty.s23 rfl rfl (fun w1 hw => Cells.of_block (hw.2.own _ (.tail _ (.head _))) rfl) rfl ?_
      exact J.finP rfl
    · skip
      refine Fin.nil ?_
      refine J.loadA (vs := cI x) Ty.a23 Ty.s23 rfl rfl (fun w1 hw => Cells.of_block (hw.2.own _ (.tail _ (.tail _ (.head _)))) rfl) rfl ?_
      exact J.finP rfl
    · skip
      refine Fin.consE rfl (Fin.consE rfl (Fin.nil ?_))
      refine J.callD (v := .agg (cI (subI d x)).toArray) Ty.bd52 rfl rfl (fun w1 hw => rsub_spec d x w1) ?_
      exact J.finQ rfl
    · skip
      refine Fin.nil ?_
      refine J.loadA (vs := cI x) Ty.a23 Ty.s23 rfl rfl (fun w1 hw => Cells.of_block (hw.2.own _ (.tail _ (.tail _ (.head _)))) rfl) rfl ?_
      exact J.finP rfl
    · skip
      refine Fin.nil ?_
      refine J.loadA (vs := cI d) Ty.a23 Ty.s23 rfl rfl (fun w1 hw => Cells.of_block (hw.2.own _ (.tail _ (.head _))) rfl) rfl ?_
      exact J.finP rfl
    · skip
      refine Fin.consE rfl (Fin.consE rfl (Fin.consE rfl (Fin.nil ?_)))
      refine J.callD (v := .agg (cI (subI x d)).toArray) Ty.bd52 rfl rfl (fun w1 hw => rsub_spec x d w1) ?_
      exact J.finQ rfl
    · skip
      refine Fin.consE rfl (Fin.consE rfl (Fin.consE rfl (Fin.nil ?_)))
      refine J.callD (v := .bool (decide (eI d x < dI d x))) Ty.bd51 rfl rfl (fun w1 hw => less_spec (subI d x) (subI x d) w1) ?_
      exact J.finQ rfl
  case htail =>
    refine Fin.consE rfl (Fin.consE rfl (Fin.consE rfl (Fin.consE rfl (Fin.consE rfl (Fin.consE rfl (Fin.consE rfl (Fin.nil ?_)))))))
    refine J.nil ?_
    refine JX.thenN (hK2 _ _ ?_)
    refine JC.cond rfl (fun h0 => ?_) (fun h0 => ?_)
    · skip
      have hf : farV d x = subI d x := if_pos (by simpa using h0)
      refine JC.seq (fun K3 hK3 => ?_)
      refine JC.region ?_
      refine J.loadA (vs := cI d) Ty.a23 Ty.s23 rfl rfl (fun w1 hw => Cells.of_block (hw.own _ (.tail _ (.head _))) rfl) rfl ?_
      refine J.loadA (vs := cI x) Ty.a23 Ty.s23 rfl rfl (fun w1 hw => Cells.of_block (hw.own _ (.tail _ (.tail _ (.head _)))) rfl) rfl ?_
      refine J.callB (v := .agg (cI (subI d x)).toArray) (fun w1 w2 hw hb => hw.step hb) Ty.bd52 rfl rfl (fun w1 hw => rsub_spec d x w1) ?_
      refine J.storeW (cs := cI zI) (vs := cI (subI d x)) Ty.s23 rfl rfl rfl rfl rfl (by simp [Value.oneCell']) .here ?_
      refine J.nil ?_
      refine JX.thenN (hK3 _ _ ?_)
      refine JC.ret ?_
      refine JX.thenR ?_
      refine JX.retC rfl rfl Ty.a23 Ty.s23 (vs := cI (subI d x)) rfl (fun w1 hw => Cells.of_block (hw.own _ (.head _)) rfl) (fun w1 hw => ?_)
      exact ⟨by rw [hf], (hw.drop (List.nil_sublist _)).below⟩
    · skip
      have hf : farV d x = subI x d := if_neg (by simpa using h0)
      refine JC.skip ?_
      refine JX.thenN (hK1 _ _ ?_)
      refine JC.seq (fun K4 hK4 => ?_)
      refine JC.region ?_
      refine J.loadA (vs := cI x) Ty.a23 Ty.s23 rfl rfl (fun w1 hw => Cells.of_block (hw.own _ (.tail _ (.tail _ (.head _)))) rfl) rfl ?_
      refine J.loadA (vs := cI d) Ty.a23 Ty.s23 rfl rfl (fun w1 hw => Cells.of_block (hw.own _ (.tail _ (.head _))) rfl) rfl ?_
      refine J.callB (v := .agg (cI (subI x d)).toArray) (fun w1 w2 hw hb => hw.step hb) Ty.bd52 rfl rfl (fun w1 hw => rsub_spec x d w1) ?_
      refine J.storeW (cs := cI zI) (vs := cI (subI x d)) Ty.s23 rfl rfl rfl rfl rfl (by simp [Value.oneCell']) .here ?_
      refine J.nil ?_
      refine JX.thenN (hK4 _ _ ?_)
      refine JC.ret ?_
      refine JX.retC rfl rfl Ty.a23 Ty.s23 (vs := cI (subI x d)) rfl (fun w1 hw => Cells.of_block (hw.own _ (.head _)) rfl) (fun w1 hw => ?_)
      exact ⟨by rw [hf], (hw.drop (List.nil_sublist _)).below⟩

theorem rnearer_spec (d a b : IDV) (w : World) :
    Calls Try.prog 24 [.agg (cI d).toArray, .agg (cI a).toArray, .agg (cI b).toArray].toArray w fun r w' => r = .returned (.bool (decide (kN d a < kN d b))) ∧ Bel w w' := by
  have hke : nearP d a b ↔ kN d a < kN d b := near_kN
  have hcv : farV d a = farV d b ↔ farI d a = farI d b := ⟨fun h => by rw [← val_farV, ← val_farV, h], fun h => valI_inj (by rw [val_farV, val_farV, h])⟩
  have hk : (decide (kN d a < kN d b) = false ↔ ¬ nearP d a b) ∧ (farI d a < farI d b ∨ False → decide (kN d a < kN d b) = true) := ⟨by rw [decide_eq_false_iff_not, hke], fun h => by rw [decide_eq_true_eq, ← hke]; exact h.elim .inl False.elim⟩
  refine calls_of_J (args := [.agg (cI d).toArray, .agg (cI a).toArray, .agg (cI b).toArray]) (e := [(0, .agg (cI d).toArray), (1, .agg (cI a).toArray), (2, .agg (cI b).toArray)]) Try.func24 rfl rfl ⟨rfl, rfl, rfl, trivial⟩ (St.start w) ?_
  refine JC.seq (fun K0 hK0 => ?_)
  refine JC.region ?_
  refine J.box rfl rfl rfl (fun b3 => ?_)
  refine J.box rfl rfl rfl (fun b4 => ?_)
  refine J.box rfl rfl rfl (fun b5 => ?_)
  refine J.assign rfl rfl ?_
  refine J.nil ?_
  refine JX.thenN (hK0 _ _ ?_)
  refine JC.seq (fun K1 hK1 => ?_)
  apply JC.drawX (α := Nat × Nat) 8 (fun x => match x with | ⟨x6, x7⟩ => [.agg (cI a).toArray, .agg (cI d).toArray, .agg (cI (farV d a)).toArray, .agg (cI b).toArray, .agg (cI d).toArray, .agg (cI (farV d b)).toArray, .pointer (some ⟨x6, 0, none⟩), .pointer (some ⟨x7, 0, none⟩)]) (fun m x => match x with | ⟨x6, x7⟩ => fun w1 => (True) ∧ St w [] ((b5, cb (cI b) 23) :: (b4, cb (cI a) 23) :: (b3, cb (cI d) 23) :: ((bif m 6 then [(x6, cb (cI zI) 23)] else []) ++ (bif m 7 then [(x7, cb (cI zI) 23)] else []))) w1) Ty.mixed rfl rfl rfl (by kernel_rfl) rfl rfl ?hinit ?hstep ?htail
  case hinit => exact fun w1 hw => ⟨(0, 0), trivial, hw.drew⟩
  case hstep =>
    refine ⟨fun m x hm hp => ?_, fun m x hm hp => ?_, fun m x hm hp => ?_, fun m x hm hp => ?_, fun m x hm hp => ?_, fun m x hm hp => ?_, fun m x hm hp => ?_, fun m x hm hp => ?_, trivial⟩
    · skip
      obtain ⟨x6, x7⟩ := x
      show J _ _ _ _ _ (_) _
      refine J.pr (fun hF => ?_)
      refine J.loadA (vs := cI a) Ty.a23 Ty.s23 rfl rfl (fun w1 hw => Cells.of_block (hw.own _ (.tail _ (.head _))) rfl) rfl ?_
      exact J.finX rfl (fun _ hw => ⟨⟨x6, x7⟩, rfl, fun _ _ _ => rfl, hF, hw⟩)
    · skip
      obtain ⟨x6, x7⟩ := x
      show J _ _ _ _ _ (_) _
      refine J.pr (fun hF => ?_)
      refine J.loadA (vs := cI d) Ty.a23 Ty.s23 rfl rfl (fun w1 hw => Cells.of_block (hw.own _ (.tail _ (.tail _ (.head _)))) rfl) rfl ?_
      exact J.finX rfl (fun _ hw => ⟨⟨x6, x7⟩, rfl, fun _ _ _ => rfl, hF, hw⟩)
    · skip
      obtain ⟨x6, x7⟩ := x
      show J _ _ _ _ _ ((10, .agg (cI d).toArray) :: (9, .agg (cI a).toArray) :: _) _
      refine J.pr (fun hF => ?_)
      refine J.callB (v := .agg (cI (farV d a)).toArray) (fun w1 w2 hw hb => hw.step hb) Ty.bd50 rfl rfl (fun w1 hw => rfar_spec a d w1) ?_
      exact J.finX rfl (fun _ hw => ⟨⟨x6, x7⟩, rfl, fun _ _ _ => rfl, hF, hw⟩)
    · skip
      obtain ⟨x6, x7⟩ := x
      show J _ _ _ _ _ (_) _
      refine J.pr (fun hF => ?_)
      refine J.loadA (vs := cI b) Ty.a23 Ty.s23 rfl rfl (fun w1 hw => Cells.of_block (hw.own _ (.head _)) rfl) rfl ?_
      exact J.finX rfl (fun _ hw => ⟨⟨x6, x7⟩, rfl, fun _ _ _ => rfl, hF, hw⟩)
    · skip
      obtain ⟨x6, x7⟩ := x
      show J _ _ _ _ _ (_) _
      refine J.pr (fun hF => ?_)
      refine J.loadA (vs := cI d) Ty.a23 Ty.s23 rfl rfl (fun w1 hw => Cells.of_block (hw.own _ (.tail _ (.tail _ (.head _)))) rfl) rfl ?_
      exact J.finX rfl (fun _ hw => ⟨⟨x6, x7⟩, rfl, fun _ _ _ => rfl, hF, hw⟩)
    · skip
      obtain ⟨x6, x7⟩ := x
      show J _ _ _ _ _ ((11, .agg (cI (farV d a)).toArray) :: (13, .agg (cI d).toArray) :: (12, .agg (cI b).toArray) :: _) _
      refine J.pr (fun hF => ?_)
      refine J.callB (v := .agg (cI (farV d b)).toArray) (fun w1 w2 hw hb => hw.step hb) Ty.bd50 rfl rfl (fun w1 hw => rfar_spec b d w1) ?_
      exact J.finX rfl (fun _ hw => ⟨⟨x6, x7⟩, rfl, fun _ _ _ => rfl, hF, hw⟩)
    · skip
      obtain ⟨x6, x7⟩ := x
      show J _ _ _ _ _ (_) _
      refine J.pr (fun hF => ?_)
      refine J.alloc Ty.zID rfl rfl (fun b7 => ?_)
      refine J.nil (JX.finB rfl (fun w1 hw => ⟨⟨⟨b7, x7⟩, rfl, fun j h1 h2 => ?_, ?_⟩, trivial⟩))
      · match j, h1 with
        | 0, _ => (first | rfl | trivial)
        | 1, _ => (first | rfl | trivial)
        | 2, _ => (first | rfl | trivial)
        | 3, _ => (first | rfl | trivial)
        | 4, _ => (first | rfl | trivial)
        | 5, _ => (first | rfl | trivial)
        | 6, _ => exact absurd (h2.symm.trans hm) (by decide)
        | 7, _ => (first | rfl | trivial)
        | j + 8, h1 => omega
      show (True) ∧ St w [] ((b5, cb (cI b) 23) :: (b4, cb (cI a) 23) :: (b3, cb (cI d) 23) :: ((bif true then [(b7, cb (cI zI) 23)] else []) ++ (bif m 7 then [(x7, cb (cI zI) 23)] else []))) w1
      simp only [hm, cond_true, cond_false] at hw ⊢
      exact ⟨trivial, hw.perm (by (refine perm_cnt (fun _ => ?_)); simp only [cntB_append, cntB_cons, cntB_nil, Nat.add_zero, Nat.zero_add]; try ac_rfl)⟩
    · skip
      obtain ⟨x6, x7⟩ := x
      show J _ _ _ _ _ (_) _
      refine J.pr (fun hF => ?_)
      refine J.alloc Ty.zID rfl rfl (fun b8 => ?_)
      refine J.nil (JX.finB rfl (fun w1 hw => ⟨⟨⟨x6, b8⟩, rfl, fun j h1 h2 => ?_, ?_⟩, trivial⟩))
      · match j, h1 with
        | 0, _ => (first | rfl | trivial)
        | 1, _ => (first | rfl | trivial)
        | 2, _ => (first | rfl | trivial)
        | 3, _ => (first | rfl | trivial)
        | 4, _ => (first | rfl | trivial)
        | 5, _ => (first | rfl | trivial)
        | 6, _ => (first | rfl | trivial)
        | 7, _ => exact absurd (h2.symm.trans hm) (by decide)
        | j + 8, h1 => omega
      show (True) ∧ St w [] ((b5, cb (cI b) 23) :: (b4, cb (cI a) 23) :: (b3, cb (cI d) 23) :: ((bif m 6 then [(x6, cb (cI zI) 23)] else []) ++ (bif true then [(b8, cb (cI zI) 23)] else []))) w1
      simp only [hm, cond_true, cond_false] at hw ⊢
      exact ⟨trivial, hw.perm (by (refine perm_cnt (fun _ => ?_)); simp only [cntB_append, cntB_cons, cntB_nil, Nat.add_zero, Nat.zero_add]; try ac_rfl)⟩
  case htail =>
    intro x
    obtain ⟨x6, x7⟩ := x
    show J _ _ _ _ _ ((8, .pointer (some ⟨x7, 0, none⟩)) :: (7, .pointer (some ⟨x6, 0, none⟩)) :: (14, .agg (cI (farV d b)).toArray) :: (13, .agg (cI d).toArray) :: (12, .agg (cI b).toArray) :: (11, .agg (cI (farV d a)).toArray) :: (10, .agg (cI d).toArray) :: (9, .agg (cI a).toArray) :: _) (fun w1 => (True) ∧ St w [] ((b5, cb (cI b) 23) :: (b4, cb (cI a) 23) :: (b3, cb (cI d) 23) :: ((bif true then [(x6, cb (cI zI) 23)] else []) ++ (bif true then [(x7, cb (cI zI) 23)] else []))) w1)
    refine J.pr (fun hF => ?_)
    refine J.conseq (I' := St w [] [(x6, cb (cI zI) 23), (x7, cb (cI zI) 23), (b5, cb (cI b) 23), (b4, cb (cI a) 23), (b3, cb (cI d) 23)]) ?_ (fun w1 hw => by simp only [cond_true] at hw; exact hw.perm (by (refine perm_cnt (fun _ => ?_)); simp only [cntB_append, cntB_cons, cntB_nil, Nat.add_zero, Nat.zero_add]; try ac_rfl))
    refine J.storeW (cs := cI zI) (vs := cI (farV d a)) Ty.s23 rfl rfl rfl rfl rfl (by simp [Value.oneCell']) .here ?_
    refine J.storeW (cs := cI zI) (vs := cI (farV d b)) Ty.s23 rfl rfl rfl rfl rfl (by simp [Value.oneCell']) (.there .here) ?_
    refine J.nil ?_
    refine JX.thenN (hK1 _ _ ?_)
    refine JC.seq (fun K2 hK2 => ?_)
    by_cases hc1 : farI d a < farI d b
    · skip
      apply JC.drawL 17 [Eqv (.agg (cI (farV d a)).toArray), Eqv (.agg (cI (farV d b)).toArray), Eqv (.bool true), Eqv (.bool true), Eqv (undef), Eqv (undef), Eqv (undef), Eqv (undef), Eqv (undef), Eqv (undef), Eqv (undef), Eqv (undef), Eqv (undef), Eqv (undef), Eqv (undef), Eqv (undef), Eqv (.bool true)] Ty.mixed rfl rfl rfl (by kernel_rfl) rfl rfl (fun w w' hw hb => hw.step hb) ⟨fun _ _ _ h _ => h, fun _ _ _ h _ => h, fun _ _ _ h _ => h, fun _ _ _ h _ => h, fun _ _ _ h _ => h, fun _ _ _ h _ => h, fun _ _ _ h _ => h, fun _ _ _ h _ => h, fun _ _ _ h _ => h, fun _ _ _ h _ => h, fun _ _ _ h _ => h, fun _ _ _ h _ => h, fun _ _ _ h _ => h, fun _ _ _ h _ => h, fun _ _ _ h _ => h, fun _ _ _ h _ => h, fun _ _ _ h _ => h, trivial⟩ ?hstep ?htail
      case hstep =>
        refine ⟨fun wi => ?_, fun wi => ?_, fun wi => ?_, fun wi => ?_, fun wi => ?_, fun wi => ?_, fun wi => ?_, fun wi => ?_, fun wi => ?_, fun wi => ?_, fun wi => ?_, fun wi => ?_, fun wi => ?_, fun wi => ?_, fun wi => ?_, fun wi => ?_, fun wi => ?_, trivial⟩
        · skip
          refine Fin.nil ?_
          refine J.loadA (vs := cI (farV d a)) Ty.a23 Ty.s23 rfl rfl (fun w1 hw => Cells.of_block (hw.2.own _ (.head _)) rfl) rfl ?_
          exact J.finP rfl
        · skip
          refine Fin.nil ?_
          refine J.loadA (vs := cI (farV d b)) Ty.a23 Ty.s23 rfl rfl (fun w1 hw => Cells.of_block (hw.2.own _ (.tail _ (.head _))) rfl) rfl ?_
          exact J.finP rfl
        · skip
          refine Fin.consE rfl (Fin.consE rfl (Fin.nil ?_))
          refine J.callD (v := .bool (decide (farI d a < farI d b))) Ty.bd51 rfl rfl (fun w1 hw => by have h := less_spec (farV d a) (farV d b) w1; rw [val_farV, val_farV] at h; exact h) ?_
          refine J.name 17 rfl (show _ = Value.bool true by simp [hc1]) ?_
          exact J.finQ rfl
        · skip
          refine Fin.consE rfl (Fin.consE rfl (Fin.nil ?_))
          refine J.move rfl rfl ?_
          exact J.finP rfl
        · skip
          refine Fin.consE rfl (Fin.nil ?_)
          first | refine J.skip rfl rfl rfl rfl rfl ?_ | refine J.skipU rfl rfl rfl rfl ?_ | (refine J.unguard rfl rfl rfl ?_; refine J.loadOA Ty.a23 Ty.s23 rfl (by repeat first | exact .head _ | apply List.Mem.tail | apply List.mem_append_right) (by exact rfl) rfl rfl ?_)
          exact J.finP rfl
        · skip
          refine Fin.consE rfl (Fin.nil ?_)
          first | refine J.skip rfl rfl rfl rfl rfl ?_ | refine J.skipU rfl rfl rfl rfl ?_ | (refine J.unguard rfl rfl rfl ?_; refine J.loadOA Ty.a23 Ty.s23 rfl (by repeat first | exact .head _ | apply List.Mem.tail | apply List.mem_append_right) (by exact rfl) rfl rfl ?_)
          exact J.finP rfl
        · skip
          refine Fin.consE rfl (Fin.consE rfl (Fin.consE rfl (Fin.nil ?_)))
          first | refine J.skip rfl rfl rfl rfl rfl ?_ | refine J.skipU rfl rfl rfl rfl ?_ | (refine J.unguard rfl rfl rfl ?_; refine J.eqI Ty.QI Ty.keyI rfl rfl rfl ?_)
          exact J.finP rfl
        · skip
          refine Fin.consE rfl (Fin.consE rfl (Fin.consE rfl (Fin.nil ?_)))
          first | refine J.skip rfl rfl rfl rfl rfl ?_ | refine J.skipU rfl rfl rfl rfl ?_ | (refine J.unguard rfl rfl rfl ?_; refine J.move rfl rfl ?_)
          exact J.finP rfl
        · skip
          refine Fin.consE rfl (Fin.nil ?_)
          first | refine J.skip rfl rfl rfl rfl rfl ?_ | refine J.skipU rfl rfl rfl rfl ?_ | (refine J.unguard rfl rfl rfl ?_; refine J.loadOA Ty.a23 Ty.s23 rfl (by repeat first | exact .head _ | apply List.Mem.tail | apply List.mem_append_right) (by exact rfl) rfl rfl ?_)
          exact J.finP rfl
        · skip
          refine Fin.consE rfl (Fin.nil ?_)
          first | refine J.skip rfl rfl rfl rfl rfl ?_ | refine J.skipU rfl rfl rfl rfl ?_ | (refine J.unguard rfl rfl rfl ?_; refine J.loadOA Ty.a23 Ty.s23 rfl (by repeat first | exact .head _ | apply List.Mem.tail | apply List.mem_append_right) (by exact rfl) rfl rfl ?_)
          exact J.finP rfl
        · skip
          refine Fin.consE rfl (Fin.consE rfl (Fin.consE rfl (Fin.consE rfl (Fin.nil ?_))))
          first | refine J.skip rfl rfl rfl rfl rfl ?_ | refine J.skipU rfl rfl rfl rfl ?_ | (refine J.unguard rfl rfl rfl ?_; fail)
          exact J.finP rfl
        · skip
          refine Fin.consE rfl (Fin.nil ?_)
          first | refine J.skip rfl rfl rfl rfl rfl ?_ | refine J.skipU rfl rfl rfl rfl ?_ | (refine J.unguard rfl rfl rfl ?_; refine J.loadOA Ty.a23 Ty.s23 rfl (by repeat first | exact .head _ | apply List.Mem.tail | apply List.mem_append_right) (by exact rfl) rfl rfl ?_)
          exact J.finP rfl
        · skip
          refine Fin.consE rfl (Fin.nil ?_)
          first | refine J.skip rfl rfl rfl rfl rfl ?_ | refine J.skipU rfl rfl rfl rfl ?_ | (refine J.unguard rfl rfl rfl ?_; refine J.loadOA Ty.a23 Ty.s23 rfl (by repeat first | exact .head _ | apply List.Mem.tail | apply List.mem_append_right) (by exact rfl) rfl rfl ?_)
          exact J.finP rfl
        · skip
          refine Fin.consE rfl (Fin.consE rfl (Fin.consE rfl (Fin.consE rfl (Fin.nil ?_))))
          first | refine J.skip rfl rfl rfl rfl rfl ?_ | refine J.skipU rfl rfl rfl rfl ?_ | (refine J.unguard rfl rfl rfl ?_; fail)
          exact J.finP rfl
        · skip
          refine Fin.consE rfl (Fin.consE rfl (Fin.consE rfl (Fin.consE rfl (Fin.nil ?_))))
          first | refine J.skip rfl rfl rfl rfl rfl ?_ | refine J.skipU rfl rfl rfl rfl ?_ | (refine J.unguard rfl rfl rfl ?_; fail)
          exact J.finP rfl
        · skip
          refine Fin.consE rfl (Fin.consE rfl (Fin.consE rfl (Fin.nil ?_)))
          first | refine J.skip rfl rfl rfl rfl rfl ?_ | refine J.skipU rfl rfl rfl rfl ?_ | (refine J.unguard rfl rfl rfl ?_; (first | refine J.pickT rfl rfl rfl ?_ | refine J.pickF rfl rfl rfl ?_))
          exact J.finP rfl
        · skip
          refine Fin.consE rfl (Fin.consE rfl (Fin.nil ?_))
          (first | refine J.pickT rfl rfl rfl ?_ | refine J.pickF rfl rfl rfl ?_)
          exact J.finP rfl
      case htail =>
        refine Fin.consE rfl (Fin.consE rfl (Fin.consE rfl (Fin.consE rfl (Fin.consE rfl (Fin.consE rfl (Fin.consE rfl (Fin.consE rfl (Fin.consE rfl (Fin.consE rfl (Fin.consE rfl (Fin.consE rfl (Fin.consE rfl (Fin.consE rfl (Fin.consE rfl (Fin.consE rfl (Fin.consE rfl (Fin.nil ?_)))))))))))))))))
        refine J.assign rfl rfl ?_
        refine J.nil ?_
        refine JX.thenN (hK2 _ _ ?_)
        refine JC.ret ?_
        refine JX.ret1 rfl rfl (fun w hw => ?_)
        exact ⟨by rw [hk.2 (.inl hc1)], (hw.drop (List.nil_sublist _)).below⟩
    · skip
      by_cases hc2 : farV d a = farV d b
      · skip
        apply JC.drawL 17 [Eqv (.agg (cI (farV d a)).toArray), Eqv (.agg (cI (farV d b)).toArray), Eqv (.bool false), Eqv (.bool false), Eqv (.agg (cI (farV d a)).toArray), Eqv (.agg (cI (farV d b)).toArray), Eqv (.bool true), Eqv (.bool true), Eqv (.agg (cI a).toArray), Eqv (.agg (cI d).toArray), Eqv (.agg (cI (subI a d)).toArray), Eqv (.agg (cI b).toArray), Eqv (.agg (cI d).toArray), Eqv (.agg (cI (subI b d)).toArray), Eqv (.bool (decide (dI d a < dI d b))), Eqv (.bool (decide (dI d a < dI d b))), Eqv (.bool (decide (dI d a < dI d b)))] Ty.mixed rfl rfl rfl (by kernel_rfl) rfl rfl (fun w w' hw hb => hw.step hb) ⟨fun _ _ _ h _ => h, fun _ _ _ h _ => h, fun _ _ _ h _ => h, fun _ _ _ h _ => h, fun _ _ _ h _ => h, fun _ _ _ h _ => h, fun _ _ _ h _ => h, fun _ _ _ h _ => h, fun _ _ _ h _ => h, fun _ _ _ h _ => h, fun _ _ _ h _ => h, fun _ _ _ h _ => h, fun _ _ _ h _ => h, fun _ _ _ h _ => h, fun _ _ _ h _ => h, fun _ _ _ h _ => h, fun _ _ _ h _ => h, trivial⟩ ?hstep ?htail
        case hstep =>
          refine ⟨fun wi => ?_, fun wi => ?_, fun wi => ?_, fun wi => ?_, fun wi => ?_, fun wi => ?_, fun wi => ?_, fun wi => ?_, fun wi => ?_, fun wi => ?_, fun wi => ?_, fun wi => ?_, fun wi => ?_, fun wi => ?_, fun wi => ?_, fun wi => ?_, fun wi => ?_, trivial⟩
          · skip
            refine Fin.nil ?_
            refine J.loadA (vs := cI (farV d a)) Ty.a23 Ty.s23 rfl rfl (fun w1 hw => Cells.of_block (hw.2.own _ (.head _)) rfl) rfl ?_
            exact J.finP rfl
          · skip
            refine Fin.nil ?_
            refine J.loadA (vs := cI (farV d b)) Ty.a23 Ty.s23 rfl rfl (fun w1 hw => Cells.of_block (hw.2.own _ (.tail _ (.head _))) rfl) rfl ?_
            exact J.finP rfl
          · skip
            refine Fin.consE rfl (Fin.consE rfl (Fin.nil ?_))
            refine J.callD (v := .bool (decide (farI d a < farI d b))) Ty.bd51 rfl rfl (fun w1 hw => by have h := less_spec (farV d a) (farV d b) w1; rw [val_farV, val_farV] at h; exact h) ?_
            refine J.name 17 rfl (show _ = Value.bool false by simp [hc1]) ?_
            exact J.finQ rfl
          · skip
            refine Fin.consE rfl (Fin.consE rfl (Fin.nil ?_))
            refine J.move rfl rfl ?_
            exact J.finP rfl
          · skip
            refine Fin.consE rfl (Fin.nil ?_)
            refine J.unguard rfl rfl rfl ?_
            refine J.loadA (vs := cI (farV d a)) Ty.a23 Ty.s23 rfl rfl (fun w1 hw => Cells.of_block (hw.2.own _ (.head _)) rfl) rfl ?_
            exact J.finP rfl
          · skip
            refine Fin.consE rfl (Fin.nil ?_)
            refine J.unguard rfl rfl rfl ?_
            refine J.loadA (vs := cI (farV d b)) Ty.a23 Ty.s23 rfl rfl (fun w1 hw => Cells.of_block (hw.2.own _ (.tail _ (.head _))) rfl) rfl ?_
            exact J.finP rfl
          · skip
            refine Fin.consE rfl (Fin.consE rfl (Fin.consE rfl (Fin.nil ?_)))
            refine J.unguard rfl rfl rfl ?_
            refine J.eqI Ty.QI Ty.keyI rfl rfl rfl ?_
            refine J.name 21 rfl (show _ = Value.bool true by simp [hc2]) ?_
            exact J.finP rfl
          · skip
            refine Fin.consE rfl (Fin.consE rfl (Fin.consE rfl (Fin.nil ?_)))
            first | refine J.skip rfl rfl rfl rfl rfl ?_ | refine J.skipU rfl rfl rfl rfl ?_ | (refine J.unguard rfl rfl rfl ?_; refine J.move rfl rfl ?_)
            exact J.finP rfl
          · skip
            refine Fin.consE rfl (Fin.nil ?_)
            refine J.unguard rfl rfl rfl ?_
            refine J.loadA (vs := cI a) Ty.a23 Ty.s23 rfl rfl (fun w1 hw => Cells.of_block (hw.2.own _ (.tail _ (.tail _ (.tail _ (.head _))))) rfl) rfl ?_
            exact J.finP rfl
          · skip
            refine Fin.consE rfl (Fin.nil ?_)
            refine J.unguard rfl rfl rfl ?_
            refine J.loadA (vs := cI d) Ty.a23 Ty.s23 rfl rfl (fun w1 hw => Cells.of_block (hw.2.own _ (.tail _ (.tail _ (.tail _ (.tail _ (.head _)))))) rfl) rfl ?_
            exact J.finP rfl
          · skip
            refine Fin.consE rfl (Fin.consE rfl (Fin.consE rfl (Fin.consE rfl (Fin.nil ?_))))
            refine J.unguard rfl rfl rfl ?_
            refine J.callD (v := .agg (cI (subI a d)).toArray) Ty.bd52 rfl rfl (fun w1 hw => rsub_spec a d w1) ?_
            exact J.finQ rfl
          · skip
            refine Fin.consE rfl (Fin.nil ?_)
            refine J.unguard rfl rfl rfl ?_
            refine J.loadA (vs := cI b) Ty.a23 Ty.s23 rfl rfl (fun w1 hw => Cells.of_block (hw.2.own _ (.tail _ (.tail _ (.head _)))) rfl) rfl ?_
            exact J.finP rfl
          · skip
            refine Fin.consE rfl (Fin.nil ?_)
            refine J.unguard rfl rfl rfl ?_
            refine J.loadA (vs := cI d) Ty.a23 Ty.s23 rfl rfl (fun w1 hw => Cells.of_block (hw.2.own _ (.tail _ (.tail _ (.tail _ (.tail _ (.head _)))))) rfl) rfl ?_
            exact J.finP rfl
          · skip
            refine Fin.consE rfl (Fin.consE rfl (Fin.consE rfl (Fin.consE rfl (Fin.nil ?_))))
            refine J.unguard rfl rfl rfl ?_
            refine J.callD (v := .agg (cI (subI b d)).toArray) Ty.bd52 rfl rfl (fun w1 hw => rsub_spec b d w1) ?_
            exact J.finQ rfl
          · skip
            refine Fin.consE rfl (Fin.consE rfl (Fin.consE rfl (Fin.consE rfl (Fin.nil ?_))))
            refine J.unguard rfl rfl rfl ?_
            refine J.callD (v := .bool (decide (dI d a < dI d b))) Ty.bd51 rfl rfl (fun w1 hw => less_spec (subI a d) (subI b d) w1) ?_
            exact J.finQ rfl
          · skip
            refine Fin.consE rfl (Fin.consE rfl (Fin.consE rfl (Fin.nil ?_)))
            first | refine J.skip rfl rfl rfl rfl rfl ?_ | refine J.skipU rfl rfl rfl rfl ?_ | (refine J.unguard rfl rfl rfl ?_; (first | refine J.pickT rfl rfl rfl ?_ | refine J.pickF rfl rfl rfl ?_))
            exact J.finP rfl
          · skip
            refine Fin.consE rfl (Fin.consE rfl (Fin.nil ?_))
            (first | refine J.pickT rfl rfl rfl ?_ | refine J.pickF rfl rfl rfl ?_)
            exact J.finP rfl
        case htail =>
          refine Fin.consE rfl (Fin.consE rfl (Fin.consE rfl (Fin.consE rfl (Fin.consE rfl (Fin.consE rfl (Fin.consE rfl (Fin.consE rfl (Fin.consE rfl (Fin.consE rfl (Fin.consE rfl (Fin.consE rfl (Fin.consE rfl (Fin.consE rfl (Fin.consE rfl (Fin.consE rfl (Fin.consE rfl (Fin.nil ?_)))))))))))))))))
          refine J.assign rfl rfl ?_
          refine J.nil ?_
          refine JX.thenN (hK2 _ _ ?_)
          refine JC.ret ?_
          refine JX.ret1 rfl rfl (fun w hw => ?_)
          exact ⟨by rw [show decide (kN d a < kN d b) = decide (dI d a < dI d b) from by rw [decide_eq_decide, ← hke]; unfold nearP; rw [or_iff_right hc1, and_iff_right (hcv.1 hc2)]], (hw.drop (List.nil_sublist _)).below⟩
      · skip
        apply JC.drawL 17 [Eqv (.agg (cI (farV d a)).toArray), Eqv (.agg (cI (farV d b)).toArray), Eqv (.bool false), Eqv (.bool false), Eqv (.agg (cI (farV d a)).toArray), Eqv (.agg (cI (farV d b)).toArray), Eqv (.bool false), Eqv (.bool false), Eqv (undef), Eqv (undef), Eqv (undef), Eqv (undef), Eqv (undef), Eqv (undef), Eqv (undef), Eqv (.bool false), Eqv (.bool false)] Ty.mixed rfl rfl rfl (by kernel_rfl) rfl rfl (fun w w' hw hb => hw.step hb) ⟨fun _ _ _ h _ => h, fun _ _ _ h _ => h, fun _ _ _ h _ => h, fun _ _ _ h _ => h, fun _ _ _ h _ => h, fun _ _ _ h _ => h, fun _ _ _ h _ => h, fun _ _ _ h _ => h, fun _ _ _ h _ => h, fun _ _ _ h _ => h, fun _ _ _ h _ => h, fun _ _ _ h _ => h, fun _ _ _ h _ => h, fun _ _ _ h _ => h, fun _ _ _ h _ => h, fun _ _ _ h _ => h, fun _ _ _ h _ => h, trivial⟩ ?hstep ?htail
        case hstep =>
          refine ⟨fun wi => ?_, fun wi => ?_, fun wi => ?_, fun wi => ?_, fun wi => ?_, fun wi => ?_, fun wi => ?_, fun wi => ?_, fun wi => ?_, fun wi => ?_, fun wi => ?_, fun wi => ?_, fun wi => ?_, fun wi => ?_, fun wi => ?_, fun wi => ?_, fun wi => ?_, trivial⟩
          · skip
            refine Fin.nil ?_
            refine J.loadA (vs := cI (farV d a)) Ty.a23 Ty.s23 rfl rfl (fun w1 hw => Cells.of_block (hw.2.own _ (.head _)) rfl) rfl ?_
            exact J.finP rfl
          · skip
            refine Fin.nil ?_
            refine J.loadA (vs := cI (farV d b)) Ty.a23 Ty.s23 rfl rfl (fun w1 hw => Cells.of_block (hw.2.own _ (.tail _ (.head _))) rfl) rfl ?_
            exact J.finP rfl
          · skip
            refine Fin.consE rfl (Fin.consE rfl (Fin.nil ?_))
            refine J.callD (v := .bool (decide (farI d a < farI d b))) Ty.bd51 rfl rfl (fun w1 hw => by have h := less_spec (farV d a) (farV d b) w1; rw [val_farV, val_farV] at h; exact h) ?_
            refine J.name 17 rfl (show _ = Value.bool false by simp [hc1]) ?_
            exact J.finQ rfl
          · skip
            refine Fin.consE rfl (Fin.consE rfl (Fin.nil ?_))
            refine J.move rfl rfl ?_
            exact J.finP rfl
          · skip
            refine Fin.consE rfl (Fin.nil ?_)
            refine J.unguard rfl rfl rfl ?_
            refine J.loadA (vs := cI (farV d a)) Ty.a23 Ty.s23 rfl rfl (fun w1 hw => Cells.of_block (hw.2.own _ (.head _)) rfl) rfl ?_
            exact J.finP rfl
          · skip
            refine Fin.consE rfl (Fin.nil ?_)
            refine J.unguard rfl rfl rfl ?_
            refine J.loadA (vs := cI (farV d b)) Ty.a23 Ty.s23 rfl rfl (fun w1 hw => Cells.of_block (hw.2.own _ (.tail _ (.head _))) rfl) rfl ?_
            exact J.finP rfl
          · skip
            refine Fin.consE rfl (Fin.consE rfl (Fin.consE rfl (Fin.nil ?_)))
            refine J.unguard rfl rfl rfl ?_
            refine J.eqI Ty.QI Ty.keyI rfl rfl rfl ?_
            refine J.name 21 rfl (show _ = Value.bool false by simp [hc2]) ?_
            exact J.finP rfl
          · skip
            refine Fin.consE rfl (Fin.consE rfl (Fin.consE rfl (Fin.nil ?_)))
            first | refine J.skip rfl rfl rfl rfl rfl ?_ | refine J.skipU rfl rfl rfl rfl ?_ | (refine J.unguard rfl rfl rfl ?_; refine J.move rfl rfl ?_)
            exact J.finP rfl
          · skip
            refine Fin.consE rfl (Fin.nil ?_)
            first | refine J.skip rfl rfl rfl rfl rfl ?_ | refine J.skipU rfl rfl rfl rfl ?_ | (refine J.unguard rfl rfl rfl ?_; refine J.loadOA Ty.a23 Ty.s23 rfl (by repeat first | exact .head _ | apply List.Mem.tail | apply List.mem_append_right) (by exact rfl) rfl rfl ?_)
            exact J.finP rfl
          · skip
            refine Fin.consE rfl (Fin.nil ?_)
            first | refine J.skip rfl rfl rfl rfl rfl ?_ | refine J.skipU rfl rfl rfl rfl ?_ | (refine J.unguard rfl rfl rfl ?_; refine J.loadOA Ty.a23 Ty.s23 rfl (by repeat first | exact .head _ | apply List.Mem.tail | apply List.mem_append_right) (by exact rfl) rfl rfl ?_)
            exact J.finP rfl
          · skip
            refine Fin.consE rfl (Fin.consE rfl (Fin.consE rfl (Fin.consE rfl (Fin.nil ?_))))
            first | refine J.skip rfl rfl rfl rfl rfl ?_ | refine J.skipU rfl rfl rfl rfl ?_ | (refine J.unguard rfl rfl rfl ?_; fail)
            exact J.finP rfl
          · skip
            refine Fin.consE rfl (Fin.nil ?_)
            first | refine J.skip rfl rfl rfl rfl rfl ?_ | refine J.skipU rfl rfl rfl rfl ?_ | (refine J.unguard rfl rfl rfl ?_; refine J.loadOA Ty.a23 Ty.s23 rfl (by repeat first | exact .head _ | apply List.Mem.tail | apply List.mem_append_right) (by exact rfl) rfl rfl ?_)
            exact J.finP rfl
          · skip
            refine Fin.consE rfl (Fin.nil ?_)
            first | refine J.skip rfl rfl rfl rfl rfl ?_ | refine J.skipU rfl rfl rfl rfl ?_ | (refine J.unguard rfl rfl rfl ?_; refine J.loadOA Ty.a23 Ty.s23 rfl (by repeat first | exact .head _ | apply List.Mem.tail | apply List.mem_append_right) (by exact rfl) rfl rfl ?_)
            exact J.finP rfl
          · skip
            refine Fin.consE rfl (Fin.consE rfl (Fin.consE rfl (Fin.consE rfl (Fin.nil ?_))))
            first | refine J.skip rfl rfl rfl rfl rfl ?_ | refine J.skipU rfl rfl rfl rfl ?_ | (refine J.unguard rfl rfl rfl ?_; fail)
            exact J.finP rfl
          · skip
            refine Fin.consE rfl (Fin.consE rfl (Fin.consE rfl (Fin.consE rfl (Fin.nil ?_))))
            first | refine J.skip rfl rfl rfl rfl rfl ?_ | refine J.skipU rfl rfl rfl rfl ?_ | (refine J.unguard rfl rfl rfl ?_; fail)
            exact J.finP rfl
          · skip
            refine Fin.consE rfl (Fin.consE rfl (Fin.consE rfl (Fin.nil ?_)))
            first | refine J.skip rfl rfl rfl rfl rfl ?_ | refine J.skipU rfl rfl rfl rfl ?_ | (refine J.unguard rfl rfl rfl ?_; (first | refine J.pickT rfl rfl rfl ?_ | refine J.pickF rfl rfl rfl ?_))
            exact J.finP rfl
          · skip
            refine Fin.consE rfl (Fin.consE rfl (Fin.nil ?_))
            (first | refine J.pickT rfl rfl rfl ?_ | refine J.pickF rfl rfl rfl ?_)
            exact J.finP rfl
        case htail =>
          refine Fin.consE rfl (Fin.consE rfl (Fin.consE rfl (Fin.consE rfl (Fin.consE rfl (Fin.consE rfl (Fin.consE rfl (Fin.consE rfl (Fin.consE rfl (Fin.consE rfl (Fin.consE rfl (Fin.consE rfl (Fin.consE rfl (Fin.consE rfl (Fin.consE rfl (Fin.consE rfl (Fin.consE rfl (Fin.nil ?_)))))))))))))))))
          refine J.assign rfl rfl ?_
          refine J.nil ?_
          refine JX.thenN (hK2 _ _ ?_)
          refine JC.ret ?_
          refine JX.ret1 rfl rfl (fun w hw => ?_)
          exact ⟨by rw [show decide (kN d a < kN d b) = false from by rw [decide_eq_false_iff_not, ← hke]; rintro (h | h); exact hc1 h; exact hc2 (hcv.2 h.1)], (hw.drop (List.nil_sublist _)).below⟩

set_option maxHeartbeats 1000000 in
theorem far_spec (c d : IDV) (w : World) :
    Calls Try.prog 68 [.agg (cI c).toArray, .agg (cI d).toArray].toArray w fun r w' => r = .returned (.agg (cI (farV d c)).toArray) ∧ Bel w w' := by
  refine calls_of_J (args := [.agg (cI c).toArray, .agg (cI d).toArray]) (e := [(0, .agg (cI c).toArray), (1, .agg (cI d).toArray)]) Try.func68 rfl rfl ⟨rfl, rfl, trivial⟩ (St.start w) ?_
  refine JC.seq (fun K0 hK0 => ?_)
  refine JC.region ?_
  refine J.box rfl rfl rfl (fun b2 => ?_)
  refine J.box rfl rfl rfl (fun b3 => ?_)
  refine J.alloc Ty.zID rfl rfl (fun b4 => ?_)
  refine J.nil ?_
  refine JX.thenN (hK0 _ _ ?_)
  refine JC.seq (fun K1 hK1 => ?_)
  apply JC.drawX (α := Nat × Nat) 8 (fun x => match x with | ⟨x6, x7⟩ => [.agg (cI c).toArray, .agg (cI d).toArray, .agg (cI (subI c d)).toArray, .agg (cI d).toArray, .agg (cI c).toArray, .agg (cI (subI d c)).toArray, .pointer (some ⟨x6, 0, none⟩), .pointer (some ⟨x7, 0, none⟩)]) (fun m x => match x with | ⟨x6, x7⟩ => fun w1 => (True) ∧ St w [] ((b4, cb (cI zI) 23) :: (b3, cb (cI d) 23) :: (b2, cb (cI c) 23) :: ((bif m 6 then [(x6, cb (cI zI) 23)] else []) ++ (bif m 7 then [(x7, cb (cI zI) 23)] else []))) w1) Ty.mixed rfl rfl rfl (by kernel_rfl) rfl rfl ?hinit ?hstep ?htail
  case hinit => exact fun w1 hw => ⟨(0, 0), trivial, hw.drew⟩
  case hstep =>
    refine ⟨fun m x hm hp => ?_, fun m x hm hp => ?_, fun m x hm hp => ?_, fun m x hm hp => ?_, fun m x hm hp => ?_, fun m x hm hp => ?_, fun m x hm hp => ?_, fun m x hm hp => ?_, trivial⟩
    · skip
      obtain ⟨x6, x7⟩ := x
      show J _ _ _ _ _ (_) _
      refine J.pr (fun hF => ?_)
      refine J.loadA (vs := cI c) Ty.a23 Ty.s23 rfl rfl (fun w1 hw => Cells.of_block (hw.own _ (.tail _ (.tail _ (.head _)))) rfl) rfl ?_
      exact J.finX rfl (fun _ hw => ⟨⟨x6, x7⟩, rfl, fun _ _ _ => rfl, hF, hw⟩)
    · skip
      obtain ⟨x6, x7⟩ := x
      show J _ _ _ _ _ (_) _
      refine J.pr (fun hF => ?_)
      refine J.loadA (vs := cI d) Ty.a23 Ty.s23 rfl rfl (fun w1 hw => Cells.of_block (hw.own _ (.tail _ (.head _))) rfl) rfl ?_
      exact J.finX rfl (fun _ hw => ⟨⟨x6, x7⟩, rfl, fun _ _ _ => rfl, hF, hw⟩)
    · skip
      obtain ⟨x6, x7⟩ := x
      show J _ _ _ _ _ ((8, .agg (cI d).toArray) :: (7, .agg (cI c).toArray) :: _) _
      refine J.pr (fun hF => ?_)
      refine J.callB (v := .agg (cI (subI c d)).toArray) (fun w1 w2 hw hb => hw.step hb) Ty.bd69 rfl rfl (fun w1 hw => sub_spec c d w1) ?_
      exact J.finX rfl (fun _ hw => ⟨⟨x6, x7⟩, rfl, fun _ _ _ => rfl, hF, hw⟩)
    · skip
      obtain ⟨x6, x7⟩ := x
      show J _ _ _ _ _ (_) _
      refine J.pr (fun hF => ?_)
      refine J.loadA (vs := cI d) Ty.a23 Ty.s23 rfl rfl (fun w1 hw => Cells.of_block (hw.own _ (.tail _ (.head _))) rfl) rfl ?_
      exact J.finX rfl (fun _ hw => ⟨⟨x6, x7⟩, rfl, fun _ _ _ => rfl, hF, hw⟩)
    · skip
      obtain ⟨x6, x7⟩ := x
      show J _ _ _ _ _ (_) _
      refine J.pr (fun hF => ?_)
      refine J.loadA (vs := cI c) Ty.a23 Ty.s23 rfl rfl (fun w1 hw => Cells.of_block (hw.own _ (.tail _ (.tail _ (.head _)))) rfl) rfl ?_
      exact J.finX rfl (fun _ hw => ⟨⟨x6, x7⟩, rfl, fun _ _ _ => rfl, hF, hw⟩)
    · skip
      obtain ⟨x6, x7⟩ := x
      show J _ _ _ _ _ ((9, .agg (cI (subI c d)).toArray) :: (11, .agg (cI c).toArray) :: (10, .agg (cI d).toArray) :: _) _
      refine J.pr (fun hF => ?_)
      refine J.callB (v := .agg (cI (subI d c)).toArray) (fun w1 w2 hw hb => hw.step hb) Ty.bd69 rfl rfl (fun w1 hw => sub_spec d c w1) ?_
      exact J.finX rfl (fun _ hw => ⟨⟨x6, x7⟩, rfl, fun _ _ _ => rfl, hF, hw⟩)
    · skip
      obtain ⟨x6, x7⟩ := x
      show J _ _ _ _ _ (_) _
      refine J.pr (fun hF => ?_)
      refine J.alloc Ty.zID rfl rfl (fun b5 => ?_)
      refine J.nil (JX.finB rfl (fun w1 hw => ⟨⟨⟨b5, x7⟩, rfl, fun j h1 h2 => ?_, ?_⟩, trivial⟩))
      · match j, h1 with
        | 0, _ => (first | rfl | trivial)
        | 1, _ => (first | rfl | trivial)
        | 2, _ => (first | rfl | trivial)
        | 3, _ => (first | rfl | trivial)
        | 4, _ => (first | rfl | trivial)
        | 5, _ => (first | rfl | trivial)
        | 6, _ => exact absurd (h2.symm.trans hm) (by decide)
        | 7, _ => (first | rfl | trivial)
        | j + 8, h1 => omega
      show (True) ∧ St w [] ((b4, cb (cI zI) 23) :: (b3, cb (cI d) 23) :: (b2, cb (cI c) 23) :: ((bif true then [(b5, cb (cI zI) 23)] else []) ++ (bif m 7 then [(x7, cb (cI zI) 23)] else []))) w1
      simp only [hm, cond_true, cond_false] at hw ⊢
      exact ⟨trivial, hw.perm (by (refine perm_cnt (fun _ => ?_)); simp only [cntB_append, cntB_cons, cntB_nil, Nat.add_zero, Nat.zero_add]; try ac_rfl)⟩
    · skip
      obtain ⟨x6, x7⟩ := x
      show J _ _ _ _ _ (_) _
      refine J.pr (fun hF => ?_)
      refine J.alloc Ty.zID rfl rfl (fun b6 => ?_)
      refine J.nil (JX.finB rfl (fun w1 hw => ⟨⟨⟨x6, b6⟩, rfl, fun j h1 h2 => ?_, ?_⟩, trivial⟩))
      · match j, h1 with
        | 0, _ => (first | rfl | trivial)
        | 1, _ => (first | rfl | trivial)
        | 2, _ => (first | rfl | trivial)
        | 3, _ => (first | rfl | trivial)
        | 4, _ => (first | rfl | trivial)
        | 5, _ => (first | rfl | trivial)
        | 6, _ => (first | rfl | trivial)
        | 7, _ => exact absurd (h2.symm.trans hm) (by decide)
        | j + 8, h1 => omega
      show (True) ∧ St w [] ((b4, cb (cI zI) 23) :: (b3, cb (cI d) 23) :: (b2, cb (cI c) 23) :: ((bif m 6 then [(x6, cb (cI zI) 23)] else []) ++ (bif true then [(b6, cb (cI zI) 23)] else []))) w1
      simp only [hm, cond_true, cond_false] at hw ⊢
      exact ⟨trivial, hw.perm (by (refine perm_cnt (fun _ => ?_)); simp only [cntB_append, cntB_cons, cntB_nil, Nat.add_zero, Nat.zero_add]; try ac_rfl)⟩
  case htail =>
    intro x
    obtain ⟨x6, x7⟩ := x
    show J _ _ _ _ _ ((6, .pointer (some ⟨x7, 0, none⟩)) :: (5, .pointer (some ⟨x6, 0, none⟩)) :: (12, .agg (cI (subI d c)).toArray) :: (11, .agg (cI c).toArray) :: (10, .agg (cI d).toArray) :: (9, .agg (cI (subI c d)).toArray) :: (8, .agg (cI d).toArray) :: (7, .agg (cI c).toArray) :: _) (fun w1 => (True) ∧ St w [] ((b4, cb (cI zI) 23) :: (b3, cb (cI d) 23) :: (b2, cb (cI c) 23) :: ((bif true then [(x6, cb (cI zI) 23)] else []) ++ (bif true then [(x7, cb (cI zI) 23)] else []))) w1)
    refine J.pr (fun hF => ?_)
    refine J.conseq (I' := St w [] ((x6, cb (cI zI) 23) :: (x7, cb (cI zI) 23) :: (b4, cb (cI zI) 23) :: (b3, cb (cI d) 23) :: (b2, cb (cI c) 23) ::  [])) ?_ (fun w1 hw => by simp only [cond_true] at hw; exact hw.perm (by (refine perm_cnt (fun _ => ?_)); simp only [cntB_append, cntB_cons, cntB_nil, Nat.add_zero, Nat.zero_add]; try ac_rfl))
    refine J.storeW (cs := cI zI) (vs := cI (subI c d)) Ty.s23 rfl rfl rfl rfl rfl (by simp [Value.oneCell']) .here ?_
    refine J.storeW (cs := cI zI) (vs := cI (subI d c)) Ty.s23 rfl rfl rfl rfl rfl (by simp [Value.oneCell']) (.there .here) ?_
    refine J.nil ?_
    refine JX.thenN (hK1 _ _ ?_)
    refine JC.seq (fun K2 hK2 => ?_)
    refine JC.seq (fun K3 hK3 => ?_)
    refine JC.region ?_
    refine J.loadA (vs := cI (subI c d)) Ty.a23 Ty.s23 rfl rfl (fun w1 hw => Cells.of_block (hw.own _ (.head _)) rfl) rfl ?_
    refine J.loadA (vs := cI (subI d c)) Ty.a23 Ty.s23 rfl rfl (fun w1 hw => Cells.of_block (hw.own _ (.tail _ (.head _))) rfl) rfl ?_
    refine J.callB (v := .int .i64 (cmpI (subI c d) (subI d c))) (fun w1 w2 hw hb => hw.step hb) Ty.bd67 rfl rfl (fun w1 hw => compare_spec (subI c d) (subI d c) w1) ?_
    refine J.bin rfl rfl rfl rfl ?_
    refine J.nil ?_
    refine JX.thenN (hK3 _ _ ?_)
    refine JC.cond rfl (fun h0 => ?_) (fun h0 => ?_)
    · skip
      have hf : farV d c = subI c d := by rw [farV_alt]; exact if_pos (by simp at h0; exact cmpI_neg.1 h0)
      refine JC.seq (fun K4 hK4 => ?_)
      refine JC.region ?_
      refine J.loadA (vs := cI (subI c d)) Ty.a23 Ty.s23 rfl rfl (fun w1 hw => Cells.of_block (hw.own _ (.head _)) rfl) rfl ?_
      refine J.storeW (cs := cI zI) (vs := cI (subI c d)) Ty.s23 rfl rfl rfl rfl rfl (by simp [Value.oneCell']) (.there (.there .here)) ?_
      refine J.nil ?_
      refine JX.thenN (hK4 _ _ ?_)
      refine JC.ret ?_
      refine JX.thenR ?_
      refine JX.retC rfl rfl Ty.a23 Ty.s23 (vs := cI (subI c d)) rfl (fun w1 hw => Cells.of_block (hw.own _ (.tail _ (.tail _ (.head _)))) rfl) (fun w1 hw => ?_)
      exact ⟨by rw [hf], (hw.drop (List.nil_sublist _)).below⟩
    · skip
      have hf : farV d c = subI d c := by rw [farV_alt]; exact if_neg (fun h => by simp at h0; have := cmpI_neg.2 h; unfold dI eI at *; omega)
      refine JC.skip ?_
      refine JX.thenN (hK2 _ _ ?_)
      refine JC.seq (fun K5 hK5 => ?_)
      refine JC.region ?_
      refine J.loadA (vs := cI (subI d c)) Ty.a23 Ty.s23 rfl rfl (fun w1 hw => Cells.of_block (hw.own _ (.tail _ (.head _))) rfl) rfl ?_
      refine J.storeW (cs := cI zI) (vs := cI (subI d c)) Ty.s23 rfl rfl rfl rfl rfl (by simp [Value.oneCell']) (.there (.there .here)) ?_
      refine J.nil ?_
      refine JX.thenN (hK5 _ _ ?_)
      refine JC.ret ?_
      refine JX.retC rfl rfl Ty.a23 Ty.s23 (vs := cI (subI d c)) rfl (fun w1 hw => Cells.of_block (hw.own _ (.tail _ (.tail _ (.head _)))) rfl) (fun w1 hw => ?_)
      exact ⟨by rw [hf], (hw.drop (List.nil_sublist _)).below⟩

set_option maxHeartbeats 1000000 in
theorem nearer_spec (d a b : IDV) (w : World) :
    Calls Try.prog 47 [.agg (cI d).toArray, .agg (cI a).toArray, .agg (cI b).toArray].toArray w fun r w' => r = .returned (.bool (decide (kN d a < kN d b))) ∧ Bel w w' := by
  refine calls_of_J (args := [.agg (cI d).toArray, .agg (cI a).toArray, .agg (cI b).toArray]) (e := [(0, .agg (cI d).toArray), (1, .agg (cI a).toArray), (2, .agg (cI b).toArray)]) Try.func47 rfl rfl ⟨rfl, rfl, rfl, trivial⟩ (St.start w) ?_
  refine JC.seq (fun K0 hK0 => ?_)
  refine JC.region ?_
  refine J.box rfl rfl rfl (fun b3 => ?_)
  refine J.box rfl rfl rfl (fun b4 => ?_)
  refine J.box rfl rfl rfl (fun b5 => ?_)
  refine J.assign rfl rfl ?_
  refine J.nil ?_
  refine JX.thenN (hK0 _ _ ?_)
  refine JC.seq (fun K1 hK1 => ?_)
  refine JC.seq (fun K2 hK2 => ?_)
  apply JC.drawL 7 [Eqv (.agg (cI a).toArray), Eqv (.agg (cI d).toArray), Eqv (.agg (cI (farV d a)).toArray), Eqv (.agg (cI b).toArray), Eqv (.agg (cI d).toArray), Eqv (.agg (cI (farV d b)).toArray), Eqv (.int .i64 (cmpI (farV d a) (farV d b)))] Ty.mixed rfl rfl rfl (by kernel_rfl) rfl rfl (fun w w' hw hb => hw.step hb) ⟨fun _ _ _ h _ => h, fun _ _ _ h _ => h, fun _ _ _ h _ => h, fun _ _ _ h _ => h, fun _ _ _ h _ => h, fun _ _ _ h _ => h, fun _ _ _ h _ => h, trivial⟩ ?hstep ?htail
  case hstep =>
    refine ⟨fun wi => ?_, fun wi => ?_, fun wi => ?_, fun wi => ?_, fun wi => ?_, fun wi => ?_, fun wi => ?_, trivial⟩
    · skip
      refine Fin.nil ?_
      refine J.loadA (vs := cI a) Ty.a23 Ty.s23 rfl rfl (fun w1 hw => Cells.of_block (hw.2.own _ (.tail _ (.head _))) rfl) rfl ?_
      exact J.finP rfl
    · skip
      refine Fin.nil ?_
      refine J.loadA (vs := cI d) Ty.a23 Ty.s23 rfl rfl (fun w1 hw => Cells.of_block (hw.2.own _ (.tail _ (.tail _ (.head _)))) rfl) rfl ?_
      exact J.finP rfl
    · skip
      refine Fin.consE rfl (Fin.consE rfl (Fin.nil ?_))
      refine J.callD (v := .agg (cI (farV d a)).toArray) Ty.bd68 rfl rfl (fun w1 hw => far_spec a d w1) ?_
      exact J.finQ rfl
    · skip
      refine Fin.nil ?_
      refine J.loadA (vs := cI b) Ty.a23 Ty.s23 rfl rfl (fun w1 hw => Cells.of_block (hw.2.own _ (.head _)) rfl) rfl ?_
      exact J.finP rfl
    · skip
      refine Fin.nil ?_
      refine J.loadA (vs := cI d) Ty.a23 Ty.s23 rfl rfl (fun w1 hw => Cells.of_block (hw.2.own _ (.tail _ (.tail _ (.head _)))) rfl) rfl ?_
      exact J.finP rfl
    · skip
      refine Fin.consE rfl (Fin.consE rfl (Fin.consE rfl (Fin.nil ?_)))
      refine J.callD (v := .agg (cI (farV d b)).toArray) Ty.bd68 rfl rfl (fun w1 hw => far_spec b d w1) ?_
      exact J.finQ rfl
    · skip
      refine Fin.consE rfl (Fin.consE rfl (Fin.consE rfl (Fin.nil ?_)))
      refine J.callD (v := .int .i64 (cmpI (farV d a) (farV d b))) Ty.bd67 rfl rfl (fun w1 hw => compare_spec (farV d a) (farV d b) w1) ?_
      exact J.finQ rfl
  case htail =>
    refine Fin.consE rfl (Fin.consE rfl (Fin.consE rfl (Fin.consE rfl (Fin.consE rfl (Fin.consE rfl (Fin.consE rfl (Fin.nil ?_)))))))
    refine J.assign rfl rfl ?_
    refine J.nil ?_
    refine JX.thenN (hK2 _ _ ?_)
    refine JC.seq (fun K3 hK3 => ?_)
    refine JC.region ?_
    refine J.move rfl rfl ?_
    refine J.bin rfl rfl rfl rfl ?_
    refine J.nil ?_
    refine JX.thenN (hK3 _ _ ?_)
    refine JC.cond rfl (fun h0 => ?_) (fun h0 => ?_)
    · skip
      skip
      refine JC.seq (fun K4 hK4 => ?_)
      refine JC.region ?_
      refine J.move rfl rfl ?_
      refine J.bin rfl rfl rfl rfl ?_
      refine J.assign rfl rfl ?_
      refine J.nil ?_
      refine JX.thenN (hK4 _ _ ?_)
      refine JC.ret ?_
      refine JX.thenR ?_
      refine JX.ret1 rfl rfl (fun w hw => ?_)
      exact ⟨by rw [show decide (kN d a < kN d b) = decide (cmpI (farV d a) (farV d b) < 0) from decide_eq_decide.2 (by rw [near_cmp, cmpI_neg, val_farV, val_farV]; simp at h0; have := mt cmpI_zero.2 h0; rw [val_farV, val_farV] at this; omega)], (hw.drop (List.nil_sublist _)).below⟩
    · skip
      skip
      refine JC.skip ?_
      refine JX.thenN (hK1 _ _ ?_)
      refine JC.seq (fun K5 hK5 => ?_)
      apply JC.drawL 8 [Eqv (.agg (cI a).toArray), Eqv (.agg (cI d).toArray), Eqv (.agg (cI (subI a d)).toArray), Eqv (.agg (cI b).toArray), Eqv (.agg (cI d).toArray), Eqv (.agg (cI (subI b d)).toArray), Eqv (.int .i64 (cmpI (subI a d) (subI b d))), Eqv (.bool (decide (dI d a < dI d b)))] Ty.mixed rfl rfl rfl (by kernel_rfl) rfl rfl (fun w w' hw hb => hw.step hb) ⟨fun _ _ _ h _ => h, fun _ _ _ h _ => h, fun _ _ _ h _ => h, fun _ _ _ h _ => h, fun _ _ _ h _ => h, fun _ _ _ h _ => h, fun _ _ _ h _ => h, fun _ _ _ h _ => h, trivial⟩ ?hstep ?htail
      case hstep =>
        refine ⟨fun wi => ?_, fun wi => ?_, fun wi => ?_, fun wi => ?_, fun wi => ?_, fun wi => ?_, fun wi => ?_, fun wi => ?_, trivial⟩
        · skip
          refine Fin.nil ?_
          refine J.loadA (vs := cI a) Ty.a23 Ty.s23 rfl rfl (fun w1 hw => Cells.of_block (hw.2.own _ (.tail _ (.head _))) rfl) rfl ?_
          exact J.finP rfl
        · skip
          refine Fin.nil ?_
          refine J.loadA (vs := cI d) Ty.a23 Ty.s23 rfl rfl (fun w1 hw => Cells.of_block (hw.2.own _ (.tail _ (.tail _ (.head _)))) rfl) rfl ?_
          exact J.finP rfl
        · skip
          refine Fin.consE rfl (Fin.consE rfl (Fin.nil ?_))
          refine J.callD (v := .agg (cI (subI a d)).toArray) Ty.bd69 rfl rfl (fun w1 hw => sub_spec a d w1) ?_
          exact J.finQ rfl
        · skip
          refine Fin.nil ?_
          refine J.loadA (vs := cI b) Ty.a23 Ty.s23 rfl rfl (fun w1 hw => Cells.of_block (hw.2.own _ (.head _)) rfl) rfl ?_
          exact J.finP rfl
        · skip
          refine Fin.nil ?_
          refine J.loadA (vs := cI d) Ty.a23 Ty.s23 rfl rfl (fun w1 hw => Cells.of_block (hw.2.own _ (.tail _ (.tail _ (.head _)))) rfl) rfl ?_
          exact J.finP rfl
        · skip
          refine Fin.consE rfl (Fin.consE rfl (Fin.consE rfl (Fin.nil ?_)))
          refine J.callD (v := .agg (cI (subI b d)).toArray) Ty.bd69 rfl rfl (fun w1 hw => sub_spec b d w1) ?_
          exact J.finQ rfl
        · skip
          refine Fin.consE rfl (Fin.consE rfl (Fin.consE rfl (Fin.nil ?_)))
          refine J.callD (v := .int .i64 (cmpI (subI a d) (subI b d))) Ty.bd67 rfl rfl (fun w1 hw => compare_spec (subI a d) (subI b d) w1) ?_
          exact J.finQ rfl
        · skip
          refine Fin.consE rfl (Fin.nil ?_)
          refine J.bin rfl rfl rfl rfl ?_
          refine J.name 26 rfl (show _ = Value.bool (decide (dI d a < dI d b)) from congrArg Value.bool (decide_eq_decide.2 cmpI_neg)) ?_
          exact J.finP rfl
      case htail =>
        refine Fin.consE rfl (Fin.consE rfl (Fin.consE rfl (Fin.consE rfl (Fin.consE rfl (Fin.consE rfl (Fin.consE rfl (Fin.consE rfl (Fin.nil ?_))))))))
        refine J.assign rfl rfl ?_
        refine J.nil ?_
        refine JX.thenN (hK5 _ _ ?_)
        refine JC.ret ?_
        refine JX.ret1 rfl rfl (fun w hw => ?_)
        exact ⟨by rw [show decide (kN d a < kN d b) = decide (dI d a < dI d b) from decide_eq_decide.2 (by rw [near_cmp]; simp at h0; have := cmpI_zero.1 h0; rw [val_farV, val_farV] at this; omega)], (hw.drop (List.nil_sublist _)).below⟩

end Go.Proofs.Ytohldionclgljaa
