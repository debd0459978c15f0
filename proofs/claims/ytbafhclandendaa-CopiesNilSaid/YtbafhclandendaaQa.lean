/-
  The program's Far, Nearer, Nearest; who is the root, to whom an item is owed: contracts.
-/
import Derived.Test.YtbafhclandendaaLo
namespace Go.Proofs.Ytbafhclandendaa
open Go.J Go.RowKit
set_option linter.unusedVariables false
set_option linter.unusedSimpArgs false
set_option maxRecDepth 4000
theorem farV_alt (d x : IDV) : farV d x = if dI d x < eI d x then subI x d else subI d x := by
  unfold farV
  rcases Nat.lt_trichotomy (eI d x) (dI d x) with h | h | h
  · rw [if_pos h, if_neg (by omega)]
  · rw [if_neg (by omega), if_neg (by omega)]; exact valI_inj h.symm
  · rw [if_neg (by omega), if_pos h]
theorem near_cmp (d a b : IDV) : kN d a < kN d b ↔ farI d a < farI d b ∨ (farI d a = farI d b ∧ dI d a < dI d b) := near_kN.symm
theorem cmpI_neg {a b : IDV} : cmpI a b < 0 ↔ valI a < valI b := by
  unfold cmpI
  split
  · simp; assumption
  · split <;> simp <;> omega
theorem cmpI_zero {a b : IDV} : cmpI a b = 0 ↔ valI a = valI b := by
  unfold cmpI
  split
  · simp; omega
  · split <;> simp <;> omega
def bst : Nat → Nat → Int
  | 0, _ => -1
  | _ + 1, j => (j : Int)
theorem one_fI {xs : List IDV} {y : Value} (h : y ∈ fI xs) : y.oneCell' = true := by
  obtain ⟨x, _, hx⟩ := List.mem_flatMap.1 h
  simp only [List.mem_cons, List.mem_nil_iff, or_false] at hx
  rcases hx with rfl | rfl | rfl | rfl | rfl | rfl | rfl | rfl | rfl | rfl | rfl | rfl | rfl | rfl | rfl | rfl <;> rfl
theorem vec_rowM {w0 w : World} {S : List Nat} {l lp : List (Nat × Obj)} {t sz : Nat} {v : Value} {k : Nat} {xs : List Value} (h : Vec t sz v k xs lp) (hw : St w0 S l w) (hm : ∀ p, p ∈ lp → p ∈ l) : Row w v k xs := by
  obtain ⟨hl, h⟩ := h
  rcases h with ⟨rfl, rfl, rfl⟩ | ⟨b, c, sp, rfl, rfl, _, hk⟩
  · exact ⟨none, 0, rfl, Nat.le_refl _, .inl (List.eq_nil_of_length_eq_zero (by simpa using hl))⟩
  · exact Row.own (cs := xs ++ sp) (tb := t) (fr := (0, 0)) hw (hm _ (.head _)) (by simp) hk
/-- is a node the nearest one of all? -/
noncomputable def rootV (self : IDV) (fs : List IDV) (key : IDV) : Bool := fs.all (fun x => !decide (kN key x < kN key self))
theorem rootV_iff {self : IDV} {fs : List IDV} {key : IDV} : rootV self fs key = true ↔ ∀ x, x ∈ fs → kN key self ≤ kN key x := by
  unfold rootV
  rw [List.all_eq_true]
  constructor
  · intro h x hx; have := h x hx; simp at this; omega
  · intro h x hx; have := h x hx; simp; omega
theorem root_arg (self : IDV) (fs : List IDV) (key : IDV) : (argI (kN key) (self :: fs) = 0) ↔ rootV self fs key = true := by
  rw [rootV_iff]
  constructor
  · intro h x hx
    obtain ⟨i, y, h1, h2, h3⟩ := argI_spec (f := kN key) (xs := self :: fs) (by simp)
    rw [h] at h1
    have : i = 0 := by omega
    subst this
    simp only [List.getElem?_cons_zero, Option.some.injEq] at h2
    subst h2
    exact h3 x (.tail _ hx)
  · intro h
    refine argI_at (i := 0) (by simp) (fun y hy => ?_) (fun j z hj => by omega)
    rcases List.mem_cons.1 hy with rfl | hy
    · exact Nat.le_refl _
    · exact h y hy
/-- the nearest one of some -/
noncomputable def minV (key : IDV) (l : List IDV) : IDV := (l[(argI (kN key) l).toNat]?).getD zI
theorem minV_at {key : IDV} {l : List IDV} (h : l ≠ []) : ∃ i, argI (kN key) l = ((i : Nat) : Int) ∧ l[i]? = some (minV key l) ∧ minV key l ∈ l ∧ ∀ y, y ∈ l → kN key (minV key l) ≤ kN key y := by
  obtain ⟨i, x, h1, h2, h3⟩ := argI_spec (f := kN key) h
  have e : minV key l = x := by
    unfold minV
    rw [h1, Int.toNat_natCast, h2]
    rfl
  rw [e]
  exact ⟨i, h1, h2, List.mem_of_getElem? h2, h3⟩
/-- to whom an item is handed -/
noncomputable def owedV (self : IDV) (fs : List IDV) (key : IDV) : List IDV := if rootV self (sortI fs self) key = true then sortI fs self else [minV key (sortI fs self)]
theorem root_nil (self key : IDV) : rootV self [] key = true := rfl
theorem owed_len (self : IDV) (fs : List IDV) (key : IDV) : (owedV self fs key).length ≤ fs.length := by
  have h := sortI_le fs self
  unfold owedV
  split
  · exact h
  · rename_i hr
    cases hs : sortI fs self with
    | nil => rw [hs] at hr; exact absurd (root_nil self key) hr
    | cons a l => rw [hs] at h; simp only [List.length_cons, List.length_nil] at h ⊢; omega

set_option maxHeartbeats 1000000 in
theorem far_spec (c d : IDV) (w : World) :
    Calls Try.prog 76 [.agg (cI c).toArray, .agg (cI d).toArray].toArray w fun r w' => r = .returned (.agg (cI (farV d c)).toArray) ∧ Bel w w' := by
  refine calls_of_J (args := [.agg (cI c).toArray, .agg (cI d).toArray]) (e := [(0, .agg (cI c).toArray), (1, .agg (cI d).toArray)]) Try.func76 rfl rfl ⟨rfl, rfl, trivial⟩ (St.start w) ?_
  refine JC.seq (fun K0 hK0 => ?_)
  refine JC.region ?_
  refine J.box rfl rfl rfl (fun b2 => ?_)
  refine J.box rfl rfl rfl (fun b3 => ?_)
  refine J.alloc Ty.zID rfl rfl (fun b4 => ?_)
  refine J.nil ?_
  refine JX.thenN (hK0 _ _ ?_)
  refine JC.seq (fun K1 hK1 => ?_)
  apply JC.drawX (α := Nat × Nat) 8 (fun x => match x with | ⟨x6, x7⟩ => [.agg (cI c).toArray, .agg (cI d).toArray, .agg (cI (subI c d)).toArray, .agg (cI d).toArray, .agg (cI c).toArray, .agg (cI (subI d c)).toArray, .pointer (some ⟨x6, 0, none⟩), .pointer (some ⟨x7, 0, none⟩)]) (fun m x => match x with | ⟨x6, x7⟩ => fun w1 => (True) ∧ St w [] ((b4, cb (cI zI) 23) :: (b3, cb (cI d) 23) :: (b2, cb (cI c) 23) :: ((bif m 6 then [(x6, cb (cI zI) 23)] else []) ++ (bif m 7 then [(x7, cb (cI zI) 23)] else []))) w1) Ty.mixed rfl rfl rfl (by kernel_rfl) rfl rfl ?hinit ?hstep ?htail
  case hinit => exact fun w1 hw => ⟨(0, 0), trivial, hw.drew⟩
  case hstep =>
    refine ⟨fun m x hm hp => ?_, fun m x hm hp => ?_, fun m x hm hp => ?_, fun m x hm hp => ?_, fun m x hm hp => ?_, fun m x hm hp => ?_, fun m x hm hp => ?_, fun m x hm hp => ?_, trivial⟩
    · skip
      obtain ⟨x6, x7⟩ := x
      show J _ _ _ _ _ (_) _
      refine J.pr (fun hF => ?_)
      refine J.loadA (vs := cI c) Ty.a23 Ty.s23 rfl rfl (fun w1 hw => Cells.of_block (hw.own _ (.tail _ (.tail _ (.head _)))) rfl) rfl ?_
      exact J.finX rfl (fun _ hw => ⟨⟨x6, x7⟩, rfl, fun _ _ _ => rfl, hF, hw⟩)
    · skip
      obtain ⟨x6, x7⟩ := x
      show J _ _ _ _ _ (_) _
      refine J.pr (fun hF => ?_)
      refine J.loadA (vs := cI d) Ty.a23 Ty.s23 rfl rfl (fun w1 hw => Cells.of_block (hw.own _ (.tail _ (.head _))) rfl) rfl ?_
      exact J.finX rfl (fun _ hw => ⟨⟨x6, x7⟩, rfl, fun _ _ _ => rfl, hF, hw⟩)
    · skip
      obtain ⟨x6, x7⟩ := x
      show J _ _ _ _ _ ((8, .agg (cI d).toArray) :: (7, .agg (cI c).toArray) :: _) _
      refine J.pr (fun hF => ?_)
      refine J.callB (v := .agg (cI (subI c d)).toArray) (fun w1 w2 hw hb => hw.step hb) Ty.bd70 rfl rfl (fun w1 hw => sub_spec c d w1) ?_
      exact J.finX rfl (fun _ hw => ⟨⟨x6, x7⟩, rfl, fun _ _ _ => rfl, hF, hw⟩)
    · skip
      obtain ⟨x6, x7⟩ := x
      show J _ _ _ _ _ (_) _
      refine J.pr (fun hF => ?_)
      refine J.loadA (vs := cI d) Ty.a23 Ty.s23 rfl rfl (fun w1 hw => Cells.of_block (hw.own _ (.tail _ (.head _))) rfl) rfl ?_
      exact J.finX rfl (fun _ hw => ⟨⟨x6, x7⟩, rfl, fun _ _ _ => rfl, hF, hw⟩)
    · skip
      obtain ⟨x6, x7⟩ := x
      show J _ _ _ _ _ (_) _
      refine J.pr (fun hF => ?_)
      refine J.loadA (vs := cI c) Ty.a23 Ty.s23 rfl rfl (fun w1 hw => Cells.of_block (hw.own _ (.tail _ (.tail _ (.head _)))) rfl) rfl ?_
      exact J.finX rfl (fun _ hw => ⟨⟨x6, x7⟩, rfl, fun _ _ _ => rfl, hF, hw⟩)
    · skip
      obtain ⟨x6, x7⟩ := x
      show J _ _ _ _ _ ((9, .agg (cI (subI c d)).toArray) :: (11, .agg (cI c).toArray) :: (10, .agg (cI d).toArray) :: _) _
      refine J.pr (fun hF => ?_)
      refine J.callB (v := .agg (cI (subI d c)).toArray) (fun w1 w2 hw hb => hw.step hb) Ty.bd70 rfl rfl (fun w1 hw => sub_spec d c w1) ?_
      exact J.finX rfl (fun _ hw => ⟨⟨x6, x7⟩, rfl, fun _ _ _ => rfl, hF, hw⟩)
    · skip
      obtain ⟨x6, x7⟩ := x
      show J _ _ _ _ _ (_) _
      refine J.pr (fun hF => ?_)
      refine J.alloc Ty.zID rfl rfl (fun b5 => ?_)
      refine J.nil (JX.finB rfl (fun w1 hw => ⟨⟨⟨b5, x7⟩, rfl, fun j h1 h2 => ?_, ?_⟩, trivial⟩))
      · match j, h1 with
        | 0, _ => (first | rfl | trivial)
        | 1, _ => (first | rfl | trivial)
        | 2, _ => (first | rfl | trivial)
        | 3, _ => (first | rfl | trivial)
        | 4, _ => (first | rfl | trivial)
        | 5, _ => (first | rfl | trivial)
        | 6, _ => exact absurd (h2.symm.trans hm) (by decide)
        | 7, _ => (first | rfl | trivial)
        | j + 8, h1 => omega
      show (True) ∧ St w [] ((b4, cb (cI zI) 23) :: (b3, cb (cI d) 23) :: (b2, cb (cI c) 23) :: ((bif true then [(b5, cb (cI zI) 23)] else []) ++ (bif m 7 then [(x7, cb (cI zI) 23)] else []))) w1
      simp only [hm, cond_true, cond_false] at hw ⊢
      exact ⟨trivial, hw.perm (by (refine perm_cnt (fun _ => ?_)); simp only [cntB_append, cntB_cons, cntB_nil, Nat.add_zero, Nat.zero_add]; try ac_rfl)⟩
    · skip
      obtain ⟨x6, x7⟩ := x
      show J _ _ _ _ _ (_) _
      refine J.pr (fun hF => ?_)
      refine J.alloc Ty.zID rfl rfl (fun b6 => ?_)
      refine J.nil (JX.finB rfl (fun w1 hw => ⟨⟨⟨x6, b6⟩, rfl, fun j h1 h2 => ?_, ?_⟩, trivial⟩))
      · match j, h1 with
        | 0, _ => (first | rfl | trivial)
        | 1, _ => (first | rfl | trivial)
        | 2, _ => (first | rfl | trivial)
        | 3, _ => (first | rfl | trivial)
        | 4, _ => (first | rfl | trivial)
        | 5, _ => (first | rfl | trivial)
        | 6, _ => (first | rfl | trivial)
        | 7, _ => exact absurd (h2.symm.trans hm) (by decide)
        | j + 8, h1 => omega
      show (True) ∧ St w [] ((b4, cb (cI zI) 23) :: (b3, cb (cI d) 23) :: (b2, cb (cI c) 23) :: ((bif m 6 then [(x6, cb (cI zI) 23)] else []) ++ (bif true then [(b6, cb (cI zI) 23)] else []))) w1
      simp only [hm, cond_true, cond_false] at hw ⊢
      exact ⟨trivial, hw.perm (by (refine perm_cnt (fun _ => ?_)); simp only [cntB_append, cntB_cons, cntB_nil, Nat.add_zero, Nat.zero_add]; try ac_rfl)⟩
  case htail =>
    intro x
    obtain ⟨x6, x7⟩ := x
    show J _ _ _ _ _ ((6, .pointer (some ⟨x7, 0, none⟩)) :: (5, .pointer (some ⟨x6, 0, none⟩)) :: (12, .agg (cI (subI d c)).toArray) :: (11, .agg (cI c).toArray) :: (10, .agg (cI d).toArray) :: (9, .agg (cI (subI c d)).toArray) :: (8, .agg (cI d).toArray) :: (7, .agg (cI c).toArray) :: _) (fun w1 => (True) ∧ St w [] ((b4, cb (cI zI) 23) :: (b3, cb (cI d) 23) :: (b2, cb (cI c) 23) :: ((bif true then [(x6, cb (cI zI) 23)] else []) ++ (bif true then [(x7, cb (cI zI) 23)] else []))) w1)
    refine J.pr (fun hF => ?_)
    refine J.conseq (I' := St w [] ((x6, cb (cI zI) 23) :: (x7, cb (cI zI) 23) :: (b4, cb (cI zI) 23) :: (b3, cb (cI d) 23) :: (b2, cb (cI c) 23) ::  [])) ?_ (fun w1 hw => by simp only [cond_true] at hw; exact hw.perm (by (refine perm_cnt (fun _ => ?_)); simp only [cntB_append, cntB_cons, cntB_nil, Nat.add_zero, Nat.zero_add]; try ac_rfl))
    refine J.storeW (cs := cI zI) (vs := cI (subI c d)) Ty.s23 rfl rfl rfl rfl rfl (by simp [Value.oneCell']) .here ?_
    refine J.storeW (cs := cI zI) (vs := cI (subI d c)) Ty.s23 rfl rfl rfl rfl rfl (by simp [Value.oneCell']) (.there .here) ?_
    refine J.nil ?_
    refine JX.thenN (hK1 _ _ ?_)
    refine JC.seq (fun K2 hK2 => ?_)
    refine JC.seq (fun K3 hK3 => ?_)
    refine JC.region ?_
    refine J.loadA (vs := cI (subI c d)) Ty.a23 Ty.s23 rfl rfl (fun w1 hw => Cells.of_block (hw.own _ (.head _)) rfl) rfl ?_
    refine J.loadA (vs := cI (subI d c)) Ty.a23 Ty.s23 rfl rfl (fun w1 hw => Cells.of_block (hw.own _ (.tail _ (.head _))) rfl) rfl ?_
    refine J.callB (v := .int .i64 (cmpI (subI c d) (subI d c))) (fun w1 w2 hw hb => hw.step hb) Ty.bd65 rfl rfl (fun w1 hw => compare_spec (subI c d) (subI d c) w1) ?_
    refine J.bin rfl rfl rfl rfl ?_
    refine J.nil ?_
    refine JX.thenN (hK3 _ _ ?_)
    refine JC.cond rfl (fun h0 => ?_) (fun h0 => ?_)
    · skip
      have hf : farV d c = subI c d := by rw [farV_alt]; exact if_pos (by simp at h0; exact cmpI_neg.1 h0)
      refine JC.seq (fun K4 hK4 => ?_)
      refine JC.region ?_
      refine J.loadA (vs := cI (subI c d)) Ty.a23 Ty.s23 rfl rfl (fun w1 hw => Cells.of_block (hw.own _ (.head _)) rfl) rfl ?_
      refine J.storeW (cs := cI zI) (vs := cI (subI c d)) Ty.s23 rfl rfl rfl rfl rfl (by simp [Value.oneCell']) (.there (.there .here)) ?_
      refine J.nil ?_
      refine JX.thenN (hK4 _ _ ?_)
      refine JC.ret ?_
      refine JX.thenR ?_
      refine JX.retC rfl rfl Ty.a23 Ty.s23 (vs := cI (subI c d)) rfl (fun w1 hw => Cells.of_block (hw.own _ (.tail _ (.tail _ (.head _)))) rfl) (fun w1 hw => ?_)
      exact ⟨by rw [hf], (hw.drop (List.nil_sublist _)).below⟩
    · skip
      have hf : farV d c = subI d c := by rw [farV_alt]; exact if_neg (fun h => by simp at h0; have := cmpI_neg.2 h; unfold dI eI at *; omega)
      refine JC.skip ?_
      refine JX.thenN (hK2 _ _ ?_)
      refine JC.seq (fun K5 hK5 => ?_)
      refine JC.region ?_
      refine J.loadA (vs := cI (subI d c)) Ty.a23 Ty.s23 rfl rfl (fun w1 hw => Cells.of_block (hw.own _ (.tail _ (.head _))) rfl) rfl ?_
      refine J.storeW (cs := cI zI) (vs := cI (subI d c)) Ty.s23 rfl rfl rfl rfl rfl (by simp [Value.oneCell']) (.there (.there .here)) ?_
      refine J.nil ?_
      refine JX.thenN (hK5 _ _ ?_)
      refine JC.ret ?_
      refine JX.retC rfl rfl Ty.a23 Ty.s23 (vs := cI (subI d c)) rfl (fun w1 hw => Cells.of_block (hw.own _ (.tail _ (.tail _ (.head _)))) rfl) (fun w1 hw => ?_)
      exact ⟨by rw [hf], (hw.drop (List.nil_sublist _)).below⟩

set_option maxHeartbeats 1000000 in
theorem nearer_spec (d a b : IDV) (w : World) :
    Calls Try.prog 61 [.agg (cI d).toArray, .agg (cI a).toArray, .agg (cI b).toArray].toArray w fun r w' => r = .returned (.bool (decide (kN d a < kN d b))) ∧ Bel w w' := by
  refine calls_of_J (args := [.agg (cI d).toArray, .agg (cI a).toArray, .agg (cI b).toArray]) (e := [(0, .agg (cI d).toArray), (1, .agg (cI a).toArray), (2, .agg (cI b).toArray)]) Try.func61 rfl rfl ⟨rfl, rfl, rfl, trivial⟩ (St.start w) ?_
  refine JC.seq (fun K0 hK0 => ?_)
  refine JC.region ?_
  refine J.box rfl rfl rfl (fun b3 => ?_)
  refine J.box rfl rfl rfl (fun b4 => ?_)
  refine J.box rfl rfl rfl (fun b5 => ?_)
  refine J.assign rfl rfl ?_
  refine J.nil ?_
  refine JX.thenN (hK0 _ _ ?_)
  refine JC.seq (fun K1 hK1 => ?_)
  refine JC.seq (fun K2 hK2 => ?_)
  apply JC.drawL 7 [Eqv (.agg (cI a).toArray), Eqv (.agg (cI d).toArray), Eqv (.agg (cI (farV d a)).toArray), Eqv (.agg (cI b).toArray), Eqv (.agg (cI d).toArray), Eqv (.agg (cI (farV d b)).toArray), Eqv (.int .i64 (cmpI (farV d a) (farV d b)))] Ty.mixed rfl rfl rfl (by kernel_rfl) rfl rfl (fun w w' hw hb => hw.step hb) ⟨fun _ _ _ h _ => h, fun _ _ _ h _ => h, fun _ _ _ h _ => h, fun _ _ _ h _ => h, fun _ _ _ h _ => h, fun _ _ _ h _ => h, fun _ _ _ h _ => h, trivial⟩ ?hstep ?htail
  case hstep =>
    refine ⟨fun wi => ?_, fun wi => ?_, fun wi => ?_, fun wi => ?_, fun wi => ?_, fun wi => ?_, fun wi => ?_, trivial⟩
    · skip
      refine Fin.nil ?_
      refine J.loadA (vs := cI a) Ty.a23 Ty.s23 rfl rfl (fun w1 hw => Cells.of_block (hw.2.own _ (.tail _ (.head _))) rfl) rfl ?_
      exact J.finP rfl
    · skip
      refine Fin.nil ?_
      refine J.loadA (vs := cI d) Ty.a23 Ty.s23 rfl rfl (fun w1 hw => Cells.of_block (hw.2.own _ (.tail _ (.tail _ (.head _)))) rfl) rfl ?_
      exact J.finP rfl
    · skip
      refine Fin.consE rfl (Fin.consE rfl (Fin.nil ?_))
      refine J.callD (v := .agg (cI (farV d a)).toArray) Ty.bd76 rfl rfl (fun w1 hw => far_spec a d w1) ?_
      exact J.finQ rfl
    · skip
      refine Fin.nil ?_
      refine J.loadA (vs := cI b) Ty.a23 Ty.s23 rfl rfl (fun w1 hw => Cells.of_block (hw.2.own _ (.head _)) rfl) rfl ?_
      exact J.finP rfl
    · skip
      refine Fin.nil ?_
      refine J.loadA (vs := cI d) Ty.a23 Ty.s23 rfl rfl (fun w1 hw => Cells.of_block (hw.2.own _ (.tail _ (.tail _ (.head _)))) rfl) rfl ?_
      exact J.finP rfl
    · skip
      refine Fin.consE rfl (Fin.consE rfl (Fin.consE rfl (Fin.nil ?_)))
      refine J.callD (v := .agg (cI (farV d b)).toArray) Ty.bd76 rfl rfl (fun w1 hw => far_spec b d w1) ?_
      exact J.finQ rfl
    · skip
      refine Fin.consE rfl (Fin.consE rfl (Fin.consE rfl (Fin.nil ?_)))
      refine J.callD (v := .int .i64 (cmpI (farV d a) (farV d b))) Ty.bd65 rfl rfl (fun w1 hw => compare_spec (farV d a) (farV d b) w1) ?_
      exact J.finQ rfl
  case htail =>
    refine Fin.consE rfl (Fin.consE rfl (Fin.consE rfl (Fin.consE rfl (Fin.consE rfl (Fin.consE rfl (Fin.consE rfl (Fin.nil ?_)))))))
    refine J.assign rfl rfl ?_
    refine J.nil ?_
    refine JX.thenN (hK2 _ _ ?_)
    refine JC.seq (fun K3 hK3 => ?_)
    refine JC.region ?_
    refine J.move rfl rfl ?_
    refine J.bin rfl rfl rfl rfl ?_
    refine J.nil ?_
    refine JX.thenN (hK3 _ _ ?_)
    refine JC.cond rfl (fun h0 => ?_) (fun h0 => ?_)
    · skip
      skip
      refine JC.seq (fun K4 hK4 => ?_)
      refine JC.region ?_
      refine J.move rfl rfl ?_
      refine J.bin rfl rfl rfl rfl ?_
      refine J.assign rfl rfl ?_
      refine J.nil ?_
      refine JX.thenN (hK4 _ _ ?_)
      refine JC.ret ?_
      refine JX.thenR ?_
      refine JX.ret1 rfl rfl (fun w hw => ?_)
      exact ⟨by rw [show decide (kN d a < kN d b) = decide (cmpI (farV d a) (farV d b) < 0) from decide_eq_decide.2 (by rw [near_cmp, cmpI_neg, val_farV, val_farV]; simp at h0; have := mt cmpI_zero.2 h0; rw [val_farV, val_farV] at this; omega)], (hw.drop (List.nil_sublist _)).below⟩
    · skip
      skip
      refine JC.skip ?_
      refine JX.thenN (hK1 _ _ ?_)
      refine JC.seq (fun K5 hK5 => ?_)
      apply JC.drawL 8 [Eqv (.agg (cI a).toArray), Eqv (.agg (cI d).toArray), Eqv (.agg (cI (subI a d)).toArray), Eqv (.agg (cI b).toArray), Eqv (.agg (cI d).toArray), Eqv (.agg (cI (subI b d)).toArray), Eqv (.int .i64 (cmpI (subI a d) (subI b d))), Eqv (.bool (decide (dI d a < dI d b)))] Ty.mixed rfl rfl rfl (by kernel_rfl) rfl rfl (fun w w' hw hb => hw.step hb) ⟨fun _ _ _ h _ => h, fun _ _ _ h _ => h, fun _ _ _ h _ => h, fun _ _ _ h _ => h, fun _ _ _ h _ => h, fun _ _ _ h _ => h, fun _ _ _ h _ => h, fun _ _ _ h _ => h, trivial⟩ ?hstep ?htail
      case hstep =>
        refine ⟨fun wi => ?_, fun wi => ?_, fun wi => ?_, fun wi => ?_, fun wi => ?_, fun wi => ?_, fun wi => ?_, fun wi => ?_, trivial⟩
        · skip
          refine Fin.nil ?_
          refine J.loadA (vs := cI a) Ty.a23 Ty.s23 rfl rfl (fun w1 hw => Cells.of_block (hw.2.own _ (.tail _ (.head _))) rfl) rfl ?_
          exact J.finP rfl
        · skip
          refine Fin.nil ?_
          refine J.loadA (vs := cI d) Ty.a23 Ty.s23 rfl rfl (fun w1 hw => Cells.of_block (hw.2.own _ (.tail _ (.tail _ (.head _)))) rfl) rfl ?_
          exact J.finP rfl
        · skip
          refine Fin.consE rfl (Fin.consE rfl (Fin.nil ?_))
          refine J.callD (v := .agg (cI (subI a d)).toArray) Ty.bd70 rfl rfl (fun w1 hw => sub_spec a d w1) ?_
          exact J.finQ rfl
        · skip
          refine Fin.nil ?_
          refine J.loadA (vs := cI b) Ty.a23 Ty.s23 rfl rfl (fun w1 hw => Cells.of_block (hw.2.own _ (.head _)) rfl) rfl ?_
          exact J.finP rfl
        · skip
          refine Fin.nil ?_
          refine J.loadA (vs := cI d) Ty.a23 Ty.s23 rfl rfl (fun w1 hw => Cells.of_block (hw.2.own _ (.tail _ (.tail _ (.head _)))) rfl) rfl ?_
          exact J.finP rfl
        · skip
          refine Fin.consE rfl (Fin.consE rfl (Fin.consE rfl (Fin.nil ?_)))
          refine J.callD (v := .agg (cI (subI b d)).toArray) Ty.bd70 rfl rfl (fun w1 hw => sub_spec b d w1) ?_
          exact J.finQ rfl
        · skip
          refine Fin.consE rfl (Fin.consE rfl (Fin.consE rfl (Fin.nil ?_)))
          refine J.callD (v := .int .i64 (cmpI (subI a d) (subI b d))) Ty.bd65 rfl rfl (fun w1 hw => compare_spec (subI a d) (subI b d) w1) ?_
          exact J.finQ rfl
        · skip
          refine Fin.consE rfl (Fin.nil ?_)
          refine J.bin rfl rfl rfl rfl ?_
          refine J.name 26 rfl (show _ = Value.bool (decide (dI d a < dI d b)) from congrArg Value.bool (decide_eq_decide.2 cmpI_neg)) ?_
          exact J.finP rfl
      case htail =>
        refine Fin.consE rfl (Fin.consE rfl (Fin.consE rfl (Fin.consE rfl (Fin.consE rfl (Fin.consE rfl (Fin.consE rfl (Fin.consE rfl (Fin.nil ?_))))))))
        refine J.assign rfl rfl ?_
        refine J.nil ?_
        refine JX.thenN (hK5 _ _ ?_)
        refine JC.ret ?_
        refine JX.ret1 rfl rfl (fun w hw => ?_)
        exact ⟨by rw [show decide (kN d a < kN d b) = decide (dI d a < dI d b) from decide_eq_decide.2 (by rw [near_cmp]; simp at h0; have := cmpI_zero.1 h0; rw [val_farV, val_farV] at this; omega)], (hw.drop (List.nil_sublist _)).below⟩

set_option maxHeartbeats 1000000 in
theorem nearest_spec (d : IDV) (v : Value) (xs : List IDV) (w : World) (hr : Row w v xs.length (fI xs)) (hl : xs.length ≤ 1099511627776) :
    Calls Try.prog 42 [.agg (cI d).toArray, v].toArray w fun r w' => r = .returned (.int .i64 (argI (kN d) xs)) ∧ Bel w w' := by
  obtain ⟨a, c, rfl, hc, _⟩ := id hr
  refine calls_of_J (args := [.agg (cI d).toArray, .slice a xs.length c]) (e := [(0, .agg (cI d).toArray), (1, .slice a xs.length c)]) Try.func42 rfl rfl ⟨rfl, rfl, trivial⟩ (St.start w) ?_
  refine JC.seq (fun K0 hK0 => ?_)
  refine JC.region ?_
  refine J.box rfl rfl rfl (fun b2 => ?_)
  refine J.assign rfl rfl ?_
  refine J.nil ?_
  refine JX.thenN (hK0 _ _ ?_)
  refine JC.seq (fun K1 hK1 => ?_)
  refine JC.region ?_
  refine J.assign rfl rfl ?_
  refine J.nil ?_
  refine JX.thenN (hK1 _ _ ?_)
  refine JC.seq (fun K2 hK2 => ?_)
  refine JC.seq (fun K3 hK3 => ?_)
  refine JC.region ?_
  refine J.move rfl rfl ?_
  refine J.lenS rfl Ty.u24 rfl rfl ?_
  refine J.move rfl rfl ?_
  refine J.nil ?_
  refine JX.thenN (hK3 _ _ ?_)
  refine JC.block ?_
  refine JC.conseq (JC.cov (f := (fun st => [(1, .slice a xs.length c), (2, .pointer (some ⟨b2, 0, none⟩)), (5, .int .i64 (bst st.1 st.2)), (8, .slice a xs.length c), (9, .int .i64 ((xs.length : Nat) : Int)), (10, .int .i64 ((st.1 : Nat) : Int))]) ((0, 0) : Nat × Nat)) ⟨rfl, rfl, rfl, rfl, rfl, rfl, trivial⟩ (JC.loop (α := Nat × Nat) (fun st => [(1, .slice a xs.length c), (2, .pointer (some ⟨b2, 0, none⟩)), (5, .int .i64 (bst st.1 st.2)), (8, .slice a xs.length c), (9, .int .i64 ((xs.length : Nat) : Int)), (10, .int .i64 ((st.1 : Nat) : Int))]) (fun st w' => (st.1 ≤ xs.length ∧ (0 < st.1 → st.2 < st.1 ∧ ∃ x, xs[st.2]? = some x ∧ (∀ k z, k < st.1 → xs[k]? = some z → kN d x ≤ kN d z) ∧ ∀ k z, k < st.2 → xs[k]? = some z → kN d x < kN d z)) ∧ St w [] [(b2, cb (cI d) 23)] w') (fun st => xs.length - st.1) ((0, 0) : Nat × Nat) (fun st => ?_))) (fun w hw => ⟨⟨Nat.zero_le _, fun h => by simp at h⟩, hw⟩)
  obtain ⟨i, j⟩ := st
  refine JC.pr (fun hx1 => ?_)
  obtain ⟨hi, hb⟩ := hx1
  simp only at hi hb ⊢
  refine JC.seq (fun K4 hK4 => ?_)
  refine JC.region ?_
  refine J.bin rfl rfl rfl rfl ?_
  refine J.nil ?_
  refine JX.thenN (hK4 _ _ ?_)
  refine JC.seq (fun K5 hK5 => ?_)
  refine JC.cond rfl (fun h0 => ?_) (fun h0 => ?_)
  · skip
    have hlt : i < xs.length := by simp at h0; omega
    have hfl := fI_length xs
    obtain ⟨q1, o1, c9, hqe, _, _⟩ := Row.some hr (by omega)
    simp only [Value.slice.injEq] at hqe
    obtain ⟨ha, _, _⟩ := hqe
    have h1s : Row w (.slice (some ⟨q1, o1, none⟩) xs.length c) xs.length (fI xs) := by rw [← ha]; exact hr
    obtain ⟨xa, hxa⟩ : ∃ x, xs[i]? = some x := ⟨_, List.getElem?_eq_getElem hlt⟩
    refine JC.skip ?_
    refine JX.thenN (hK5 _ _ ?_)
    refine JC.seq (fun K6 hK6 => ?_)
    refine JC.block ?_
    refine JC.seq (fun K7 hK7 => ?_)
    refine JC.region ?_
    refine J.move rfl rfl ?_
    refine J.indexAddrS Ty.el24 Ty.s23 ((rfl : ev _ _ = some (Value.slice a xs.length c)).trans (congrArg (fun a => some (Value.slice a xs.length c)) ha)) rfl (by omega) (by omega) rfl ?_
    refine J.loadA (vs := cI xa) Ty.a23 Ty.s23 rfl rfl (fun w1 hw => rowF_at (h1s.below (hw.drop (List.nil_sublist _)).below) hxa (by simp)) rfl ?_
    refine J.alloc Ty.zID rfl rfl (fun b7 => ?_)
    refine J.assign rfl rfl ?_
    refine J.storeW (cs := cI zI) (vs := cI xa) Ty.s23 rfl rfl rfl rfl rfl (by simp [Value.oneCell']) .here ?_
    refine J.nil ?_
    refine JX.thenN (hK7 _ _ ?_)
    refine JC.seq (fun K8 hK8 => ?_)
    cases i with
    | zero =>
      apply JC.drawL 11 [Eqv (.int .i64 (-1)), Eqv (.bool true), Eqv (.bool true), Eqv (undef), Eqv (undef), Eqv (undef), Eqv (undef), Eqv (undef), Eqv (undef), Eqv (undef), Eqv (.bool true)] Ty.mixed rfl rfl rfl (by kernel_rfl) rfl rfl (fun w w' hw hb => hw.step hb) ⟨fun _ _ _ h _ => h, fun _ _ _ h _ => h, fun _ _ _ h _ => h, fun _ _ _ h _ => h, fun _ _ _ h _ => h, fun _ _ _ h _ => h, fun _ _ _ h _ => h, fun _ _ _ h _ => h, fun _ _ _ h _ => h, fun _ _ _ h _ => h, fun _ _ _ h _ => h, trivial⟩ ?hstep ?htail
      case hstep =>
        refine ⟨fun wi => ?_, fun wi => ?_, fun wi => ?_, fun wi => ?_, fun wi => ?_, fun wi => ?_, fun wi => ?_, fun wi => ?_, fun wi => ?_, fun wi => ?_, fun wi => ?_, trivial⟩
        · skip
          refine Fin.nil ?_
          refine J.move rfl rfl ?_
          exact J.finP rfl
        · skip
          refine Fin.consE rfl (Fin.nil ?_)
          refine J.bin rfl rfl rfl rfl ?_
          exact J.finP rfl
        · skip
          refine Fin.consE rfl (Fin.nil ?_)
          refine J.move rfl rfl ?_
          exact J.finP rfl
        · skip
          refine Fin.consE rfl (Fin.nil ?_)
          first | refine J.skip rfl rfl rfl rfl rfl ?_ | refine J.skipU rfl rfl rfl rfl ?_ | (refine J.unguard rfl rfl rfl ?_; refine J.loadOA Ty.a23 Ty.s23 rfl (by repeat first | exact .head _ | apply List.Mem.tail | apply List.mem_append_right) (by exact rfl) rfl rfl ?_)
          exact J.finP rfl
        · skip
          refine Fin.consE rfl (Fin.nil ?_)
          first | refine J.skip rfl rfl rfl rfl rfl ?_ | refine J.skipU rfl rfl rfl rfl ?_ | (refine J.unguard rfl rfl rfl ?_; refine J.loadOA Ty.a23 Ty.s23 rfl (by repeat first | exact .head _ | apply List.Mem.tail | apply List.mem_append_right) (by exact rfl) rfl rfl ?_)
          exact J.finP rfl
        · skip
          refine Fin.consE rfl (Fin.nil ?_)
          first | refine J.skip rfl rfl rfl rfl rfl ?_ | refine J.skipU rfl rfl rfl rfl ?_ | (refine J.unguard rfl rfl rfl ?_; refine J.move rfl rfl ?_)
          exact J.finP rfl
        · skip
          refine Fin.consE rfl (Fin.nil ?_)
          first | refine J.skip rfl rfl rfl rfl rfl ?_ | refine J.skipU rfl rfl rfl rfl ?_ | (refine J.unguard rfl rfl rfl ?_; refine J.move rfl rfl ?_)
          exact J.finP rfl
        · skip
          refine Fin.consE rfl (Fin.consE rfl (Fin.consE rfl (Fin.nil ?_)))
          first | refine J.skip rfl rfl rfl rfl rfl ?_ | refine J.skipU rfl rfl rfl rfl ?_ | (refine J.unguard rfl rfl rfl ?_; refine J.indexAddrS Ty.el24 Ty.s23 rfl rfl (by omega) (by omega) rfl ?_)
          exact J.finP rfl
        · skip
          refine Fin.consE rfl (Fin.consE rfl (Fin.nil ?_))
          first | refine J.skip rfl rfl rfl rfl rfl ?_ | refine J.skipU rfl rfl rfl rfl ?_ | (refine J.unguard rfl rfl rfl ?_; refine J.loadOA Ty.a23 Ty.s23 rfl (by repeat first | exact .head _ | apply List.Mem.tail | apply List.mem_append_right) (by exact rfl) rfl rfl ?_)
          exact J.finP rfl
        · skip
          refine Fin.consE rfl (Fin.consE rfl (Fin.consE rfl (Fin.consE rfl (Fin.consE rfl (Fin.nil ?_)))))
          first | refine J.skip rfl rfl rfl rfl rfl ?_ | refine J.skipU rfl rfl rfl rfl ?_ | (refine J.unguard rfl rfl rfl ?_; fail)
          exact J.finP rfl
        · skip
          refine Fin.consE rfl (Fin.consE rfl (Fin.nil ?_))
          (first | refine J.pickT rfl rfl rfl ?_ | refine J.pickF rfl rfl rfl ?_)
          exact J.finP rfl
      case htail =>
        refine Fin.consE rfl (Fin.consE rfl (Fin.consE rfl (Fin.consE rfl (Fin.consE rfl (Fin.consE rfl (Fin.consE rfl (Fin.consE rfl (Fin.consE rfl (Fin.consE rfl (Fin.consE rfl (Fin.nil ?_)))))))))))
        refine J.nil ?_
        refine JX.thenN (hK8 _ _ ?_)
        first | refine JC.condT rfl ?_ | refine JC.cond rfl (fun _ => ?_) (fun h => by first | (exfalso; simp at h; omega) | (simp at h))
        refine JC.region ?_
        refine J.move rfl rfl ?_
        refine J.assign rfl rfl ?_
        refine J.nil ?_
        refine JX.blockN ?_
        refine JX.thenN (hK6 _ _ ?_)
        refine JC.region ?_
        (first | refine J.addN rfl rfl (by omega) (by omega) rfl ?_ | refine J.bin rfl rfl rfl rfl ?_)
        refine J.move rfl rfl ?_
        refine J.nil ?_
        refine JX.thenN ?_
        refine JX.again ((0 + 1, 0) : Nat × Nat) ?_ ?_ ?_
        · simp only; omega
        · exact ⟨rfl, rfl, rfl, rfl, rfl, rfl, trivial⟩
        · exact fun w1 hw => ⟨⟨hlt, fun _ => ⟨by omega, xa, hxa, fun k z hk hz => (by
          have : k = 0 := by omega
          subst this; rw [hxa] at hz; cases hz; exact Nat.le_refl _), fun k z hk => by omega⟩⟩, hw.drop (List.sublist_cons_self _ _)⟩
    | succ i9 =>
      obtain ⟨hji, y, hy, hb2, hb3⟩ := hb (by omega)
      apply JC.drawL 11 [Eqv (.int .i64 ((j : Nat) : Int)), Eqv (.bool false), Eqv (.bool false), Eqv (.agg (cI d).toArray), Eqv (.agg (cI xa).toArray), Eqv (.slice (some ⟨q1, o1, none⟩) xs.length c), Eqv (.int .i64 ((j : Nat) : Int)), Eqv (.pointer (some ⟨q1, o1 + (j : Int).toNat * 16, none⟩)), Eqv (.agg (cI y).toArray), Eqv (.bool (decide (kN d xa < kN d y))), Eqv (.bool (decide (kN d xa < kN d y)))] Ty.mixed rfl rfl rfl (by kernel_rfl) rfl rfl (fun w w' hw hb => hw.step hb) ⟨fun _ _ _ h _ => h, fun _ _ _ h _ => h, fun _ _ _ h _ => h, fun _ _ _ h _ => h, fun _ _ _ h _ => h, fun _ _ _ h _ => h, fun _ _ _ h _ => h, fun _ _ _ h _ => h, fun _ _ _ h _ => h, fun _ _ _ h _ => h, fun _ _ _ h _ => h, trivial⟩ ?hstep ?htail
      case hstep =>
        refine ⟨fun wi => ?_, fun wi => ?_, fun wi => ?_, fun wi => ?_, fun wi => ?_, fun wi => ?_, fun wi => ?_, fun wi => ?_, fun wi => ?_, fun wi => ?_, fun wi => ?_, trivial⟩
        · skip
          refine Fin.nil ?_
          refine J.move rfl rfl ?_
          exact J.finP rfl
        · skip
          refine Fin.consE rfl (Fin.nil ?_)
          refine J.bin rfl rfl rfl rfl ?_
          refine J.name 16 rfl (show _ = Value.bool false by first | (simp; done) | (simp; omega)) ?_
          exact J.finP rfl
        · skip
          refine Fin.consE rfl (Fin.nil ?_)
          refine J.move rfl rfl ?_
          exact J.finP rfl
        · skip
          refine Fin.consE rfl (Fin.nil ?_)
          refine J.unguard rfl rfl rfl ?_
          refine J.loadA (vs := cI d) Ty.a23 Ty.s23 rfl rfl (fun w1 hw => Cells.of_block (hw.2.own ((b2, cb (cI d) 23)) (by repeat first | exact .head _ | apply List.Mem.tail | apply List.mem_append_right)) rfl) rfl ?_
          exact J.finP rfl
        · skip
          refine Fin.consE rfl (Fin.nil ?_)
          refine J.unguard rfl rfl rfl ?_
          refine J.loadA (vs := cI xa) Ty.a23 Ty.s23 rfl rfl (fun w1 hw => Cells.of_block (hw.2.own ((b7, cb (cI xa) 23)) (by repeat first | exact .head _ | apply List.Mem.tail | apply List.mem_append_right)) rfl) rfl ?_
          exact J.finP rfl
        · skip
          refine Fin.consE rfl (Fin.nil ?_)
          refine J.unguard rfl rfl rfl ?_
          refine J.move rfl rfl ?_
          refine J.name 20 rfl (show _ = Value.slice (some ⟨q1, o1, none⟩) xs.length c by rw [ha]) ?_
          exact J.finP rfl
        · skip
          refine Fin.consE rfl (Fin.nil ?_)
          first | refine J.skip rfl rfl rfl rfl rfl ?_ | refine J.skipU rfl rfl rfl rfl ?_ | (refine J.unguard rfl rfl rfl ?_; refine J.move rfl rfl ?_)
          exact J.finP rfl
        · skip
          refine Fin.consE rfl (Fin.consE rfl (Fin.consE rfl (Fin.nil ?_)))
          refine J.unguard rfl rfl rfl ?_
          refine J.indexAddrS Ty.el24 Ty.s23 rfl rfl (by omega) (by omega) rfl ?_
          exact J.finP rfl
        · skip
          refine Fin.consE rfl (Fin.consE rfl (Fin.nil ?_))
          refine J.unguard rfl rfl rfl ?_
          refine J.loadA (vs := cI y) Ty.a23 Ty.s23 rfl rfl (fun w1 hw => rowF_at (h1s.below (hw.2.drop (List.nil_sublist _)).below) hy (by simp)) rfl ?_
          exact J.finP rfl
        · skip
          refine Fin.consE rfl (Fin.consE rfl (Fin.consE rfl (Fin.consE rfl (Fin.consE rfl (Fin.nil ?_)))))
          refine J.unguard rfl rfl rfl ?_
          refine J.callD (v := .bool (decide (kN d xa < kN d y))) Ty.bd61 rfl rfl (fun w1 hw => nearer_spec d xa y w1) ?_
          exact J.finQ rfl
        · skip
          refine Fin.consE rfl (Fin.consE rfl (Fin.nil ?_))
          (first | refine J.pickT rfl rfl rfl ?_ | refine J.pickF rfl rfl rfl ?_)
          exact J.finP rfl
      case htail =>
        refine Fin.consE rfl (Fin.consE rfl (Fin.consE rfl (Fin.consE rfl (Fin.consE rfl (Fin.consE rfl (Fin.consE rfl (Fin.consE rfl (Fin.consE rfl (Fin.consE rfl (Fin.consE rfl (Fin.nil ?_)))))))))))
        refine J.nil ?_
        refine JX.thenN (hK8 _ _ ?_)
        refine JC.cond rfl (fun h1 => ?_) (fun h1 => ?_)
        · skip
          have hlt2 : kN d xa < kN d y := by simpa using h1
          refine JC.region ?_
          refine J.move rfl rfl ?_
          refine J.assign rfl rfl ?_
          refine J.nil ?_
          refine JX.blockN ?_
          refine JX.thenN (hK6 _ _ ?_)
          refine JC.region ?_
          (first | refine J.addN rfl rfl (by omega) (by omega) rfl ?_ | refine J.bin rfl rfl rfl rfl ?_)
          refine J.move rfl rfl ?_
          refine J.nil ?_
          refine JX.thenN ?_
          refine JX.again ((i9 + 1 + 1, i9 + 1) : Nat × Nat) ?_ ?_ ?_
          · simp only; omega
          · exact ⟨rfl, rfl, rfl, rfl, rfl, rfl, trivial⟩
          · exact fun w1 hw => ⟨⟨hlt, fun _ => ⟨by omega, xa, hxa, fun k z hk hz => (by
            rcases Nat.lt_or_ge k (i9 + 1) with h | h
            · have := hb2 k z h hz; omega
            · have : k = i9 + 1 := by omega
              subst this; rw [hxa] at hz; cases hz; exact Nat.le_refl _), fun k z hk hz => (by have := hb2 k z hk hz; omega)⟩⟩, hw.drop (List.sublist_cons_self _ _)⟩
        · skip
          have hlt2 : ¬ kN d xa < kN d y := by simpa using h1
          refine JC.skip ?_
          refine JX.blockN ?_
          refine JX.thenN (hK6 _ _ ?_)
          refine JC.region ?_
          (first | refine J.addN rfl rfl (by omega) (by omega) rfl ?_ | refine J.bin rfl rfl rfl rfl ?_)
          refine J.move rfl rfl ?_
          refine J.nil ?_
          refine JX.thenN ?_
          refine JX.again ((i9 + 1 + 1, j) : Nat × Nat) ?_ ?_ ?_
          · simp only; omega
          · exact ⟨rfl, rfl, rfl, rfl, rfl, rfl, trivial⟩
          · exact fun w1 hw => ⟨⟨hlt, fun _ => ⟨by omega, y, hy, fun k z hk hz => (by
            rcases Nat.lt_or_ge k (i9 + 1) with h | h
            · exact hb2 k z h hz
            · have : k = i9 + 1 := by omega
              subst this; rw [hxa] at hz; cases hz; omega), hb3⟩⟩, hw.drop (List.sublist_cons_self _ _)⟩
  · skip
    have hge : i = xs.length := by simp at h0; omega
    have hres : bst i j = argI (kN d) xs := by
      cases i with
      | zero => rw [List.eq_nil_of_length_eq_zero hge.symm]; rfl
      | succ i9 =>
        obtain ⟨h1, x, h2, h3, h4⟩ := hb (by omega)
        obtain ⟨hj9, hx9⟩ := List.getElem?_eq_some_iff.1 h2
        exact (argI_at hj9 (fun y hy => by
          obtain ⟨k, hk, rfl⟩ := List.getElem_of_mem hy
          rw [hx9]
          exact h3 k _ (by omega) (List.getElem?_eq_getElem hk)) (fun k z hk hz => ⟨x, List.mem_of_getElem? h2, h4 k z hk hz⟩)).symm
    refine JC.exit ?_
    refine JX.thenE ?_
    refine JX.thenE ?_
    refine JX.blockE ?_
    refine JX.thenN (hK2 _ _ ?_)
    refine JC.seq (fun K9 hK9 => ?_)
    refine JC.region ?_
    refine J.move rfl rfl ?_
    refine J.assign rfl rfl ?_
    refine J.nil ?_
    refine JX.thenN (hK9 _ _ ?_)
    refine JC.ret ?_
    refine JX.ret1 rfl rfl (fun w hw => ?_)
    exact ⟨by rw [hres], (hw.drop (List.nil_sublist _)).below⟩

end Go.Proofs.Ytbafhclandendaa
