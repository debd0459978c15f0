/-
  MinFunc as ring.Next calls it; ring.Next: contracts.
-/
import Derived.Test.YtdpbgmbicdgdbaaKk
namespace Go.Proofs.Ytdpbgmbicdgdbaa
open Go.J Go.RowKit
set_option linter.unusedVariables false
set_option linter.unusedSimpArgs false
set_option maxRecDepth 4000
theorem cfN_neg {f : IDV → Nat} {a b : IDV} : cfN f a b < 0 ↔ f a < f b := by
  unfold cfN
  split
  · simp [*]
  · split <;> simp [*]
structure MS where
  i : Nat
  m : IDV
structure MinInv (f : IDV → Nat) (xs : List IDV) (s : MS) : Prop where
  h1 : 1 ≤ s.i
  hi : s.i ≤ xs.length
  hm : s.m ∈ xs
  le : ∀ j y, j < s.i → xs[j]? = some y → f s.m ≤ f y
theorem MinInv.done {f : IDV → Nat} {xs : List IDV} {i : Nat} {m : IDV} (h : MinInv f xs ⟨i, m⟩) (hi : i = xs.length) : m ∈ xs ∧ ∀ y, y ∈ xs → f m ≤ f y := by
  refine ⟨h.hm, fun y hy => ?_⟩
  obtain ⟨j, hj, rfl⟩ := List.getElem_of_mem hy
  exact h.le j _ (by simp only; omega) (List.getElem?_eq_getElem hj)
theorem MinInv.start {f : IDV → Nat} {xs : List IDV} {m : IDV} (h : xs[0]? = some m) : MinInv f xs ⟨1, m⟩ := by
  have hl := (List.getElem?_eq_some_iff.1 h).1
  refine ⟨Nat.le_refl _, hl, ?_, fun j y hj hy => ?_⟩
  · exact List.mem_of_getElem? h
  · have : j = 0 := by simp only at hj; omega
    subst this
    rw [h] at hy
    cases hy
    exact Nat.le_refl _
theorem MinInv.next {f : IDV → Nat} {xs : List IDV} {i : Nat} {m m' : IDV} (h : MinInv f xs ⟨i, m⟩) (hlt : i < xs.length) (hm : m' = m ∨ m' = xs[i]) (h1 : f m' ≤ f m) (h2 : f m' ≤ f xs[i]) : MinInv f xs ⟨i + 1, m'⟩ := by
  refine ⟨by simp only; omega, hlt, ?_, fun j y hj hy => ?_⟩
  · rcases hm with rfl | rfl
    · exact h.hm
    · exact List.getElem_mem hlt
  · rcases Nat.lt_or_ge j i with hji | hji
    · exact Nat.le_trans h1 (h.le j y hji hy)
    · have : j = i := by simp only at hj; omega
      subst this
      rw [List.getElem?_eq_getElem hlt] at hy
      cases hy
      exact h2

theorem minFunc_spec (v : Value) (xs : List IDV) (s : Nat) (self : IDV) (w : World) (hw0 : Own w [(s, cb (cI self) 23)]) (hr : Row w v xs.length (fI xs)) (hoff : Off [s] v (fI xs)) (hl : xs.length < 4611686018427387904) (hne0 : 0 < xs.length) :
    Calls Try.prog 46 [v, .func (.func 47) #[] #[.pointer (some ⟨s, 0, none⟩)]].toArray w fun r w' => ∃ m : IDV, r = .returned (.agg (cI m).toArray) ∧ (m ∈ xs ∧ ∀ y, y ∈ xs → dI self m ≤ dI self y) ∧ Bel w w' := by
  obtain ⟨a, c, rfl, hc, _⟩ := id hr
  have hfl := fI_length xs
  have hcl := (Row.some hr (by omega))
  obtain ⟨b, o, c', hqe, _, _⟩ := hcl
  simp only [Value.slice.injEq] at hqe
  obtain ⟨rfl, _, rfl⟩ := hqe
  refine calls_of_J (args := [.slice (some ⟨b, o, none⟩) xs.length c, .func (.func 47) #[] #[.pointer (some ⟨s, 0, none⟩)]]) (e := [(0, .slice (some ⟨b, o, none⟩) xs.length c), (1, .func (.func 47) #[] #[.pointer (some ⟨s, 0, none⟩)])]) Try.func46 rfl rfl ⟨rfl, rfl, trivial⟩ (hw0.st) ?_
  refine JC.seq (fun K0 hK0 => ?_)
  refine JC.region ?_
  refine J.alloc Ty.zID rfl rfl (fun b4 => ?_)
  refine J.nil ?_
  refine JX.thenN (hK0 _ _ ?_)
  refine JC.seq (fun K1 hK1 => ?_)
  refine JC.seq (fun K2 hK2 => ?_)
  refine JC.region ?_
  refine J.move rfl rfl ?_
  refine J.lenS rfl Ty.u24 rfl rfl ?_
  refine J.bin rfl rfl rfl rfl ?_
  refine J.name 9 rfl (show _ = Value.bool false by simp; omega) ?_
  refine J.nil ?_
  refine JX.thenN (hK2 _ _ ?_)
  first | refine JC.condF rfl ?_ | refine JC.cond rfl (fun h => by first | (exfalso; simp at h; omega) | (simp at h)) (fun _ => ?_)
  refine JC.skip ?_
  refine JX.thenN (hK1 _ _ ?_)
  refine JC.seq (fun K3 hK3 => ?_)
  refine JC.region ?_
  refine J.move rfl rfl ?_
  refine J.indexAddrS Ty.el24 Ty.s23 rfl rfl (by omega) (by omega) rfl ?_
  refine J.loadA (vs := cI (xs[0]'hne0)) Ty.a23 Ty.s23 rfl rfl (fun w1 hw => rowF_at (hr.st hoff hw) (List.getElem?_eq_getElem hne0) (by omega)) rfl ?_
  refine J.alloc Ty.zID rfl rfl (fun b5 => ?_)
  (first | refine J.storeW Ty.s23 rfl rfl rfl rfl rfl (by simp [Value.oneCell']) .here ?_ | refine J.storeW Ty.s23 rfl rfl rfl rfl rfl (by simp [Value.oneCell']) (.there .here) ?_ | refine J.storeW Ty.s23 rfl rfl rfl rfl rfl (by simp [Value.oneCell']) (.there (.there .here)) ?_ | refine J.storeW Ty.s23 rfl rfl rfl rfl rfl (by simp [Value.oneCell']) (.there (.there (.there .here))) ?_ | refine J.storeW Ty.s23 rfl rfl rfl rfl rfl (by simp [Value.oneCell']) (.there (.there (.there (.there .here)))) ?_ | refine J.storeW Ty.s23 rfl rfl rfl rfl rfl (by simp [Value.oneCell']) (.there (.there (.there (.there (.there .here))))) ?_ | refine J.storeW Ty.s23 rfl rfl rfl rfl rfl (by simp [Value.oneCell']) (.there (.there (.there (.there (.there (.there .here)))))) ?_ | refine J.storeW Ty.s23 rfl rfl rfl rfl rfl (by simp [Value.oneCell']) (.there (.there (.there (.there (.there (.there (.there .here))))))) ?_ | refine J.storeW Ty.s23 rfl rfl rfl rfl rfl (by simp [Value.oneCell']) (.there (.there (.there (.there (.there (.there (.there (.there .here)))))))) ?_ | refine J.storeW Ty.s23 rfl rfl rfl rfl rfl (by simp [Value.oneCell']) (.there (.there (.there (.there (.there (.there (.there (.there (.there .here))))))))) ?_)
  refine J.nil ?_
  refine JX.thenN (hK3 _ _ ?_)
  refine JC.seq (fun K4 hK4 => ?_)
  refine JC.seq (fun K5 hK5 => ?_)
  refine JC.region ?_
  refine J.assign rfl rfl ?_
  refine J.nil ?_
  refine JX.thenN (hK5 _ _ ?_)
  refine JC.block ?_
  refine JC.conseq (JC.cov (f := (fun st => [(0, .slice (some ⟨b, o, none⟩) xs.length c), (1, .func (.func 47) #[] #[.pointer (some ⟨s, 0, none⟩)]), (4, .pointer (some ⟨b4, 0, none⟩)), (5, .pointer (some ⟨b5, 0, none⟩)), (6, .int .i64 ((st.i : Nat) : Int))]) (⟨1, xs[0]'hne0⟩ : MS)) ⟨rfl, rfl, rfl, rfl, rfl, trivial⟩ (JC.loop (α := MS) (fun st => [(0, .slice (some ⟨b, o, none⟩) xs.length c), (1, .func (.func 47) #[] #[.pointer (some ⟨s, 0, none⟩)]), (4, .pointer (some ⟨b4, 0, none⟩)), (5, .pointer (some ⟨b5, 0, none⟩)), (6, .int .i64 ((st.i : Nat) : Int))]) (fun st w' => MinInv (dI self) xs st ∧ St w [s] [(b5, cb (cI st.m) 23), (b4, cb (cI zI) 23), (s, cb (cI self) 23)] w') (fun st => xs.length - st.i) (⟨1, xs[0]'hne0⟩ : MS) (fun st => ?_))) (fun w hw => ⟨MinInv.start (List.getElem?_eq_getElem hne0), hw⟩)
  obtain ⟨i, m⟩ := st
  refine JC.pr (fun hI => ?_)
  have hi1 := hI.h1
  have hil := hI.hi
  simp only at hi1 hil ⊢
  refine JC.seq (fun K6 hK6 => ?_)
  refine JC.seq (fun K7 hK7 => ?_)
  refine JC.region ?_
  refine J.move rfl rfl ?_
  refine J.move rfl rfl ?_
  refine J.lenS rfl Ty.u24 rfl rfl ?_
  refine J.bin rfl rfl rfl rfl ?_
  refine J.nil ?_
  refine JX.thenN (hK7 _ _ ?_)
  refine JC.cond rfl (fun h1 => ?_) (fun h1 => ?_)
  · skip
    have hlt : i < xs.length := by simp at h1; omega
    refine JC.skip ?_
    refine JX.thenN (hK6 _ _ ?_)
    refine JC.seq (fun K8 hK8 => ?_)
    refine JC.block ?_
    refine JC.seq (fun K9 hK9 => ?_)
    apply JC.drawL 8 [Eqv (.func (.func 47) #[] #[.pointer (some ⟨s, 0, none⟩)]), Eqv (.slice (some ⟨b, o, none⟩) xs.length c), Eqv (.int .i64 ((i : Nat) : Int)), Eqv (.pointer (some ⟨b, o + (i : Int).toNat * 16, none⟩)), Eqv (.agg (cI (xs[i]'hlt)).toArray), Eqv (.agg (cI m).toArray), Eqv (.int .i64 (cfN (dI self) (xs[i]'hlt) m)), Eqv (.bool (decide (cfN (dI self) (xs[i]'hlt) m < 0)))] Ty.mixed rfl rfl rfl (by kernel_rfl) rfl rfl (fun w w' hw hb => hw.step hb) ⟨fun _ _ _ h _ => h, fun _ _ _ h _ => h, fun _ _ _ h _ => h, fun _ _ _ h _ => h, fun _ _ _ h _ => h, fun _ _ _ h _ => h, fun _ _ _ h _ => h, fun _ _ _ h _ => h, trivial⟩ ?hstep ?htail
    case hstep =>
      refine ⟨fun wi => ?_, fun wi => ?_, fun wi => ?_, fun wi => ?_, fun wi => ?_, fun wi => ?_, fun wi => ?_, fun wi => ?_, trivial⟩
      · skip
        refine Fin.nil ?_
        refine J.move rfl rfl ?_
        refine J.nil (JX.fin rfl (fun w hw => ⟨rfl, (by rw [hw.1]; exact Bel.refl _)⟩))
      · skip
        refine Fin.nil ?_
        refine J.move rfl rfl ?_
        refine J.nil (JX.fin rfl (fun w hw => ⟨rfl, (by rw [hw.1]; exact Bel.refl _)⟩))
      · skip
        refine Fin.nil ?_
        refine J.move rfl rfl ?_
        refine J.nil (JX.fin rfl (fun w hw => ⟨rfl, (by rw [hw.1]; exact Bel.refl _)⟩))
      · skip
        refine Fin.cons (fun v7_1 => ?_)
        refine Fin.cons (fun v7_2 => ?_)
        refine Fin.nil ?_
        refine J.prE (fun h => ?_); subst h
        refine J.prE (fun h => ?_); subst h
        refine J.indexAddrS Ty.el24 Ty.s23 rfl rfl (by omega) (by omega) rfl ?_
        refine J.nil (JX.fin rfl (fun w hw => ⟨rfl, (by rw [hw.1]; exact Bel.refl _)⟩))
      · skip
        refine Fin.cons (fun v7_3 => ?_)
        refine Fin.nil ?_
        refine J.prE (fun h => ?_); subst h
        refine J.loadA (vs := cI (xs[i]'hlt)) Ty.a23 Ty.s23 rfl rfl (fun w1 hw => rowF_at (hr.st hoff hw.2) (List.getElem?_eq_getElem hlt) (by omega)) rfl ?_
        refine J.nil (JX.fin rfl (fun w hw => ⟨rfl, (by rw [hw.1]; exact Bel.refl _)⟩))
      · skip
        refine Fin.nil ?_
        (first | refine J.loadA (vs := cI m) Ty.a23 Ty.s23 rfl rfl (fun w hw => Cells.of_block (hw.2.own _ (.head _)) rfl) rfl ?_ | refine J.loadA (vs := cI m) Ty.a23 Ty.s23 rfl rfl (fun w hw => Cells.of_block (hw.2.own _ (.tail _ (.head _))) rfl) rfl ?_ | refine J.loadA (vs := cI m) Ty.a23 Ty.s23 rfl rfl (fun w hw => Cells.of_block (hw.2.own _ (.tail _ (.tail _ (.head _)))) rfl) rfl ?_ | refine J.loadA (vs := cI m) Ty.a23 Ty.s23 rfl rfl (fun w hw => Cells.of_block (hw.2.own _ (.tail _ (.tail _ (.tail _ (.head _))))) rfl) rfl ?_ | refine J.loadA (vs := cI m) Ty.a23 Ty.s23 rfl rfl (fun w hw => Cells.of_block (hw.2.own _ (.tail _ (.tail _ (.tail _ (.tail _ (.head _)))))) rfl) rfl ?_ | refine J.loadA (vs := cI m) Ty.a23 Ty.s23 rfl rfl (fun w hw => Cells.of_block (hw.2.own _ (.tail _ (.tail _ (.tail _ (.tail _ (.tail _ (.head _))))))) rfl) rfl ?_ | refine J.loadA (vs := cI m) Ty.a23 Ty.s23 rfl rfl (fun w hw => Cells.of_block (hw.2.own _ (.tail _ (.tail _ (.tail _ (.tail _ (.tail _ (.tail _ (.head _)))))))) rfl) rfl ?_ | refine J.loadA (vs := cI m) Ty.a23 Ty.s23 rfl rfl (fun w hw => Cells.of_block (hw.2.own _ (.tail _ (.tail _ (.tail _ (.tail _ (.tail _ (.tail _ (.tail _ (.head _))))))))) rfl) rfl ?_ | refine J.loadA (vs := cI m) Ty.a23 Ty.s23 rfl rfl (fun w hw => Cells.of_block (hw.2.own _ (.tail _ (.tail _ (.tail _ (.tail _ (.tail _ (.tail _ (.tail _ (.tail _ (.head _)))))))))) rfl) rfl ?_ | refine J.loadA (vs := cI m) Ty.a23 Ty.s23 rfl rfl (fun w hw => Cells.of_block (hw.2.own _ (.tail _ (.tail _ (.tail _ (.tail _ (.tail _ (.tail _ (.tail _ (.tail _ (.tail _ (.head _))))))))))) rfl) rfl ?_ | refine J.loadA (vs := cI m) Ty.a23 Ty.s23 rfl rfl (fun w hw => Cells.of_block (hw.2.own _ (.tail _ (.tail _ (.tail _ (.tail _ (.tail _ (.tail _ (.tail _ (.tail _ (.tail _ (.tail _ (.head _)))))))))))) rfl) rfl ?_ | refine J.loadA (vs := cI m) Ty.a23 Ty.s23 rfl rfl (fun w hw => Cells.of_block (hw.2.own _ (.tail _ (.tail _ (.tail _ (.tail _ (.tail _ (.tail _ (.tail _ (.tail _ (.tail _ (.tail _ (.tail _ (.head _))))))))))))) rfl) rfl ?_ | refine J.loadA (vs := cI m) Ty.a23 Ty.s23 rfl rfl (fun w hw => Cells.of_block (hw.2.own _ (List.mem_append_right _ (.head _))) rfl) rfl ?_ | refine J.loadA (vs := cI m) Ty.a23 Ty.s23 rfl rfl (fun w hw => Cells.of_block (hw.2.own _ (List.mem_append_right _ (.tail _ (.head _)))) rfl) rfl ?_ | refine J.loadA (vs := cI m) Ty.a23 Ty.s23 rfl rfl (fun w hw => Cells.of_block (hw.2.own _ (List.mem_append_right _ (.tail _ (.tail _ (.head _))))) rfl) rfl ?_ | refine J.loadA (vs := cI m) Ty.a23 Ty.s23 rfl rfl (fun w hw => Cells.of_block (hw.2.own _ (List.mem_append_right _ (.tail _ (.tail _ (.tail _ (.head _)))))) rfl) rfl ?_ | refine J.loadA (vs := cI m) Ty.a23 Ty.s23 rfl rfl (fun w hw => Cells.of_block (hw.2.own _ (List.mem_append_right _ (.tail _ (.tail _ (.tail _ (.tail _ (.head _))))))) rfl) rfl ?_ | refine J.loadA (vs := cI m) Ty.a23 Ty.s23 rfl rfl (fun w hw => Cells.of_block (hw.2.own _ (List.mem_append_right _ (.tail _ (.tail _ (.tail _ (.tail _ (.tail _ (.head _)))))))) rfl) rfl ?_ | refine J.loadA (vs := cI m) Ty.a23 Ty.s23 rfl rfl (fun w hw => Cells.of_block (hw.2.own _ (List.mem_append_right _ (.tail _ (.tail _ (.tail _ (.tail _ (.tail _ (.tail _ (.head _))))))))) rfl) rfl ?_ | refine J.loadA (vs := cI m) Ty.a23 Ty.s23 rfl rfl (fun w hw => Cells.of_block (hw.2.own _ (List.mem_append_right _ (.tail _ (.tail _ (.tail _ (.tail _ (.tail _ (.tail _ (.tail _ (.head _)))))))))) rfl) rfl ?_ | refine J.loadA (vs := cI m) Ty.a23 Ty.s23 rfl rfl (fun w hw => Cells.of_block (hw.2.own _ (List.mem_append_right _ (.tail _ (.tail _ (.tail _ (.tail _ (.tail _ (.tail _ (.tail _ (.tail _ (.head _))))))))))) rfl) rfl ?_ | refine J.loadA (vs := cI m) Ty.a23 Ty.s23 rfl rfl (fun w hw => Cells.of_block (hw.2.own _ (List.mem_append_right _ (.tail _ (.tail _ (.tail _ (.tail _ (.tail _ (.tail _ (.tail _ (.tail _ (.tail _ (.head _)))))))))))) rfl) rfl ?_ | refine J.loadA (vs := cI m) Ty.a23 Ty.s23 rfl rfl (fun w hw => Cells.of_block (hw.2.own _ (List.mem_append_right _ (.tail _ (.tail _ (.tail _ (.tail _ (.tail _ (.tail _ (.tail _ (.tail _ (.tail _ (.tail _ (.head _))))))))))))) rfl) rfl ?_ | refine J.loadA (vs := cI m) Ty.a23 Ty.s23 rfl rfl (fun w hw => Cells.of_block (hw.2.own _ (List.mem_append_right _ (.tail _ (.tail _ (.tail _ (.tail _ (.tail _ (.tail _ (.tail _ (.tail _ (.tail _ (.tail _ (.tail _ (.head _)))))))))))))) rfl) rfl ?_)
        refine J.nil (JX.fin rfl (fun w hw => ⟨rfl, (by rw [hw.1]; exact Bel.refl _)⟩))
      · skip
        refine Fin.cons (fun v7_0 => ?_)
        refine Fin.cons (fun v7_4 => ?_)
        refine Fin.cons (fun v7_5 => ?_)
        refine Fin.nil ?_
        refine J.prE (fun h => ?_); subst h
        refine J.prE (fun h => ?_); subst h
        refine J.prE (fun h => ?_); subst h
        refine J.callVD (v := .int .i64 (cfN (dI self) (xs[i]'hlt) m)) Ty.bd47 rfl rfl rfl (fun w1 hw => by simpa using next1_spec s self (xs[i]'hlt) m w1 (St.owns (l1 := [(s, cb (cI self) 23)]) (l := [(b5, cb (cI m) 23), (b4, cb (cI zI) 23)]) (hw.perm (by (refine perm_cnt (fun _ => ?_)); simp only [cntB_append, cntB_cons, cntB_nil, Nat.add_zero, Nat.zero_add]; try ac_rfl)))) ?_
        refine J.nil (JX.fin rfl (fun w hw => ⟨rfl, hw⟩))
      · skip
        refine Fin.cons (fun v7_6 => ?_)
        refine Fin.nil ?_
        refine J.prE (fun h => ?_); subst h
        refine J.bin rfl rfl rfl rfl ?_
        refine J.nil (JX.fin rfl (fun w hw => ⟨rfl, (by rw [hw.1]; exact Bel.refl _)⟩))
    case htail =>
      refine Fin.cons (fun v7_0 => ?_)
      refine Fin.cons (fun v7_1 => ?_)
      refine Fin.cons (fun v7_2 => ?_)
      refine Fin.cons (fun v7_3 => ?_)
      refine Fin.cons (fun v7_4 => ?_)
      refine Fin.cons (fun v7_5 => ?_)
      refine Fin.cons (fun v7_6 => ?_)
      refine Fin.cons (fun v7_7 => ?_)
      refine Fin.nil ?_
      refine J.prE (fun h => ?_); subst h
      refine J.prE (fun h => ?_); subst h
      refine J.prE (fun h => ?_); subst h
      refine J.prE (fun h => ?_); subst h
      refine J.prE (fun h => ?_); subst h
      refine J.prE (fun h => ?_); subst h
      refine J.prE (fun h => ?_); subst h
      refine J.prE (fun h => ?_); subst h
      refine J.nil ?_
      refine JX.thenN (hK9 _ _ ?_)
      refine JC.cond rfl (fun h2 => ?_) (fun h2 => ?_)
      · skip
        have hlow : dI self (xs[i]'hlt) < dI self m := cfN_neg.1 (by simpa using h2)
        refine JC.region ?_
        refine J.move rfl rfl ?_
        refine J.move rfl rfl ?_
        refine J.indexAddrS Ty.el24 Ty.s23 rfl rfl (by omega) (by omega) rfl ?_
        refine J.loadA (vs := cI (xs[i]'hlt)) Ty.a23 Ty.s23 rfl rfl (fun w1 hw => rowF_at (hr.st hoff hw) (List.getElem?_eq_getElem hlt) (by omega)) rfl ?_
        (first | refine J.storeW Ty.s23 rfl rfl rfl rfl rfl (by simp [Value.oneCell']) .here ?_ | refine J.storeW Ty.s23 rfl rfl rfl rfl rfl (by simp [Value.oneCell']) (.there .here) ?_ | refine J.storeW Ty.s23 rfl rfl rfl rfl rfl (by simp [Value.oneCell']) (.there (.there .here)) ?_ | refine J.storeW Ty.s23 rfl rfl rfl rfl rfl (by simp [Value.oneCell']) (.there (.there (.there .here))) ?_ | refine J.storeW Ty.s23 rfl rfl rfl rfl rfl (by simp [Value.oneCell']) (.there (.there (.there (.there .here)))) ?_ | refine J.storeW Ty.s23 rfl rfl rfl rfl rfl (by simp [Value.oneCell']) (.there (.there (.there (.there (.there .here))))) ?_ | refine J.storeW Ty.s23 rfl rfl rfl rfl rfl (by simp [Value.oneCell']) (.there (.there (.there (.there (.there (.there .here)))))) ?_ | refine J.storeW Ty.s23 rfl rfl rfl rfl rfl (by simp [Value.oneCell']) (.there (.there (.there (.there (.there (.there (.there .here))))))) ?_ | refine J.storeW Ty.s23 rfl rfl rfl rfl rfl (by simp [Value.oneCell']) (.there (.there (.there (.there (.there (.there (.there (.there .here)))))))) ?_ | refine J.storeW Ty.s23 rfl rfl rfl rfl rfl (by simp [Value.oneCell']) (.there (.there (.there (.there (.there (.there (.there (.there (.there .here))))))))) ?_)
        refine J.nil ?_
        refine JX.blockN ?_
        refine JX.thenN (hK8 _ _ ?_)
        refine JC.region ?_
        refine J.move rfl rfl ?_
        (first | refine J.addN rfl rfl (by omega) (by omega) rfl ?_ | refine J.bin rfl rfl rfl rfl ?_)
        refine J.assign rfl rfl ?_
        refine J.nil ?_
        refine JX.thenN ?_
        refine JX.again (⟨i + 1, (xs[i]'hlt)⟩ : MS) ?_ ?_ ?_
        · simp only; omega
        · exact ⟨rfl, rfl, rfl, rfl, rfl, trivial⟩
        · exact fun w1 hw => ⟨hI.next hlt (.inr rfl) (Nat.le_of_lt hlow) (Nat.le_refl _), hw⟩
      · skip
        have hhigh : ¬ dI self (xs[i]'hlt) < dI self m := fun e => by simp [cfN_neg.2 e] at h2
        refine JC.skip ?_
        refine JX.blockN ?_
        refine JX.thenN (hK8 _ _ ?_)
        refine JC.region ?_
        refine J.move rfl rfl ?_
        (first | refine J.addN rfl rfl (by omega) (by omega) rfl ?_ | refine J.bin rfl rfl rfl rfl ?_)
        refine J.assign rfl rfl ?_
        refine J.nil ?_
        refine JX.thenN ?_
        refine JX.again (⟨i + 1, m⟩ : MS) ?_ ?_ ?_
        · simp only; omega
        · exact ⟨rfl, rfl, rfl, rfl, rfl, trivial⟩
        · exact fun w1 hw => ⟨hI.next hlt (.inl rfl) (Nat.le_refl _) (by omega), hw⟩
  · skip
    have hge : i = xs.length := by simp at h1; omega
    have hdone := hI.done hge
    refine JC.exit ?_
    refine JX.thenE ?_
    refine JX.thenE ?_
    refine JX.blockE ?_
    refine JX.thenN (hK4 _ _ ?_)
    refine JC.seq (fun K10 hK10 => ?_)
    refine JC.region ?_
    (first | refine J.loadOA (vs := cI m) Ty.a23 Ty.s23 rfl (.head _) rfl rfl rfl ?_ | refine J.loadOA (vs := cI m) Ty.a23 Ty.s23 rfl (.tail _ (.head _)) rfl rfl rfl ?_ | refine J.loadOA (vs := cI m) Ty.a23 Ty.s23 rfl (.tail _ (.tail _ (.head _))) rfl rfl rfl ?_ | refine J.loadOA (vs := cI m) Ty.a23 Ty.s23 rfl (.tail _ (.tail _ (.tail _ (.head _)))) rfl rfl rfl ?_ | refine J.loadOA (vs := cI m) Ty.a23 Ty.s23 rfl (.tail _ (.tail _ (.tail _ (.tail _ (.head _))))) rfl rfl rfl ?_ | refine J.loadOA (vs := cI m) Ty.a23 Ty.s23 rfl (.tail _ (.tail _ (.tail _ (.tail _ (.tail _ (.head _)))))) rfl rfl rfl ?_ | refine J.loadOA (vs := cI m) Ty.a23 Ty.s23 rfl (.tail _ (.tail _ (.tail _ (.tail _ (.tail _ (.tail _ (.head _))))))) rfl rfl rfl ?_ | refine J.loadOA (vs := cI m) Ty.a23 Ty.s23 rfl (.tail _ (.tail _ (.tail _ (.tail _ (.tail _ (.tail _ (.tail _ (.head _)))))))) rfl rfl rfl ?_ | refine J.loadOA (vs := cI m) Ty.a23 Ty.s23 rfl (.tail _ (.tail _ (.tail _ (.tail _ (.tail _ (.tail _ (.tail _ (.tail _ (.head _))))))))) rfl rfl rfl ?_ | refine J.loadOA (vs := cI m) Ty.a23 Ty.s23 rfl (.tail _ (.tail _ (.tail _ (.tail _ (.tail _ (.tail _ (.tail _ (.tail _ (.tail _ (.head _)))))))))) rfl rfl rfl ?_ | refine J.loadOA (vs := cI m) Ty.a23 Ty.s23 rfl (.tail _ (.tail _ (.tail _ (.tail _ (.tail _ (.tail _ (.tail _ (.tail _ (.tail _ (.tail _ (.head _))))))))))) rfl rfl rfl ?_ | refine J.loadOA (vs := cI m) Ty.a23 Ty.s23 rfl (.tail _ (.tail _ (.tail _ (.tail _ (.tail _ (.tail _ (.tail _ (.tail _ (.tail _ (.tail _ (.tail _ (.head _)))))))))))) rfl rfl rfl ?_ | refine J.loadOA (vs := cI m) Ty.a23 Ty.s23 rfl (List.mem_append_right _ (.head _)) rfl rfl rfl ?_ | refine J.loadOA (vs := cI m) Ty.a23 Ty.s23 rfl (List.mem_append_right _ (.tail _ (.head _))) rfl rfl rfl ?_ | refine J.loadOA (vs := cI m) Ty.a23 Ty.s23 rfl (List.mem_append_right _ (.tail _ (.tail _ (.head _)))) rfl rfl rfl ?_ | refine J.loadOA (vs := cI m) Ty.a23 Ty.s23 rfl (List.mem_append_right _ (.tail _ (.tail _ (.tail _ (.head _))))) rfl rfl rfl ?_ | refine J.loadOA (vs := cI m) Ty.a23 Ty.s23 rfl (List.mem_append_right _ (.tail _ (.tail _ (.tail _ (.tail _ (.head _)))))) rfl rfl rfl ?_ | refine J.loadOA (vs := cI m) Ty.a23 Ty.s23 rfl (List.mem_append_right _ (.tail _ (.tail _ (.tail _ (.tail _ (.tail _ (.head _))))))) rfl rfl rfl ?_ | refine J.loadOA (vs := cI m) Ty.a23 Ty.s23 rfl (List.mem_append_right _ (.tail _ (.tail _ (.tail _ (.tail _ (.tail _ (.tail _ (.head _)))))))) rfl rfl rfl ?_ | refine J.loadOA (vs := cI m) Ty.a23 Ty.s23 rfl (List.mem_append_right _ (.tail _ (.tail _ (.tail _ (.tail _ (.tail _ (.tail _ (.tail _ (.head _))))))))) rfl rfl rfl ?_ | refine J.loadOA (vs := cI m) Ty.a23 Ty.s23 rfl (List.mem_append_right _ (.tail _ (.tail _ (.tail _ (.tail _ (.tail _ (.tail _ (.tail _ (.tail _ (.head _)))))))))) rfl rfl rfl ?_ | refine J.loadOA (vs := cI m) Ty.a23 Ty.s23 rfl (List.mem_append_right _ (.tail _ (.tail _ (.tail _ (.tail _ (.tail _ (.tail _ (.tail _ (.tail _ (.tail _ (.head _))))))))))) rfl rfl rfl ?_ | refine J.loadOA (vs := cI m) Ty.a23 Ty.s23 rfl (List.mem_append_right _ (.tail _ (.tail _ (.tail _ (.tail _ (.tail _ (.tail _ (.tail _ (.tail _ (.tail _ (.tail _ (.head _)))))))))))) rfl rfl rfl ?_ | refine J.loadOA (vs := cI m) Ty.a23 Ty.s23 rfl (List.mem_append_right _ (.tail _ (.tail _ (.tail _ (.tail _ (.tail _ (.tail _ (.tail _ (.tail _ (.tail _ (.tail _ (.tail _ (.head _))))))))))))) rfl rfl rfl ?_)
    (first | refine J.storeW Ty.s23 rfl rfl rfl rfl rfl (by simp [Value.oneCell']) .here ?_ | refine J.storeW Ty.s23 rfl rfl rfl rfl rfl (by simp [Value.oneCell']) (.there .here) ?_ | refine J.storeW Ty.s23 rfl rfl rfl rfl rfl (by simp [Value.oneCell']) (.there (.there .here)) ?_ | refine J.storeW Ty.s23 rfl rfl rfl rfl rfl (by simp [Value.oneCell']) (.there (.there (.there .here))) ?_ | refine J.storeW Ty.s23 rfl rfl rfl rfl rfl (by simp [Value.oneCell']) (.there (.there (.there (.there .here)))) ?_ | refine J.storeW Ty.s23 rfl rfl rfl rfl rfl (by simp [Value.oneCell']) (.there (.there (.there (.there (.there .here))))) ?_ | refine J.storeW Ty.s23 rfl rfl rfl rfl rfl (by simp [Value.oneCell']) (.there (.there (.there (.there (.there (.there .here)))))) ?_ | refine J.storeW Ty.s23 rfl rfl rfl rfl rfl (by simp [Value.oneCell']) (.there (.there (.there (.there (.there (.there (.there .here))))))) ?_ | refine J.storeW Ty.s23 rfl rfl rfl rfl rfl (by simp [Value.oneCell']) (.there (.there (.there (.there (.there (.there (.there (.there .here)))))))) ?_ | refine J.storeW Ty.s23 rfl rfl rfl rfl rfl (by simp [Value.oneCell']) (.there (.there (.there (.there (.there (.there (.there (.there (.there .here))))))))) ?_)
    refine J.nil ?_
    refine JX.thenN (hK10 _ _ ?_)
    refine JC.ret ?_
    refine JX.retC rfl rfl Ty.a23 Ty.s23 (vs := cI m) rfl (fun w1 hw => Cells.of_block (hw.own _ (.tail _ (.head _))) rfl) (fun w1 hw => ?_)
    exact ⟨m, rfl, hdone, hw.same hw0 (fun p hp => by simp at hp ⊢; subst hp; simp)⟩

end Go.Proofs.Ytdpbgmbicdgdbaa
