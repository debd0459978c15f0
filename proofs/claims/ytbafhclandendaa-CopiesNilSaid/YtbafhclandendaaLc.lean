/-
  The document's Copy, SameIDs and Has: contracts.
-/
import Derived.Test.YtbafhclandendaaLb
namespace Go.Proofs.Ytbafhclandendaa
open Go.J Go.RowKit
set_option linter.unusedVariables false
set_option linter.unusedSimpArgs false
set_option maxRecDepth 4000
theorem same_upto {xs ys : List IDV} {i : Nat} (hl : xs.length = ys.length) (h : ∀ j, j < i → xs[j]? = ys[j]?) (hi : i = xs.length) : xs = ys := by
  refine List.ext_getElem? fun j => ?_
  rcases Nat.lt_or_ge j i with h1 | h1
  · exact h j h1
  · rw [List.getElem?_eq_none (by omega), List.getElem?_eq_none (by omega)]

theorem copy_spec (v : Value) (xs : List IDV) (w : World) (hr : Row w v xs.length (fI xs)) (hl : xs.length ≤ 8796093022208) :
    Calls Try.prog 14 [v].toArray w fun r w' => ∃ x : Value × List (Nat × Obj), r = .returned x.1 ∧ Vec 23 16 x.1 (xs).length (fI (xs)) x.2 ∧ St w [] x.2 w' := by
  refine calls_of_J (args := [v]) (e := [(0, v)]) Try.func14 rfl rfl ⟨rfl, trivial⟩ (St.start w) ?_
  refine JC.seq (fun K0 hK0 => ?_)
  refine JC.region ?_
  refine J.assign rfl rfl ?_
  refine J.nil ?_
  refine JX.thenN (hK0 _ _ ?_)
  refine JC.seq (fun K1 hK1 => ?_)
  refine JC.region ?_
  refine J.buildSl (cs := []) Ty.el24 Ty.s23 Ty.zID rfl rfl rfl rfl rfl rfl rfl (fun b3 => ?_)
  refine J.move rfl rfl ?_
  refine J.append (lp := [(b3, cb [] 23)]) (xs := []) (ys := fI xs) (k := 0) (m := xs.length) Ty.el24 Ty.s23 Ty.b23 Ty.zID rfl (.inl ⟨23, Ty.u24⟩) rfl rfl ⟨rfl, .inr ⟨b3, 0, [], rfl, rfl, rfl, Nat.le_refl _⟩⟩ (fun w1 hw => .inl (hr.below (hw.drop (List.nil_sublist _)).below)) (fI_length xs) (fun y hy => fI_one hy) (by omega) (by omega) rfl (fun v7 lp7 hv7 => ?_)
  rw [Nat.zero_add, List.nil_append] at hv7
  refine J.assign rfl rfl ?_
  refine J.nil ?_
  refine JX.thenN (hK1 _ _ ?_)
  refine JC.ret ?_
  refine JX.ret1 rfl rfl (fun w hw => ?_)
  exact ⟨(v7, lp7), rfl, hv7, hw.drop (List.sublist_append_left _ _)⟩

theorem sameIDs_spec (v1 v2 : Value) (xs ys : List IDV) (w : World) (hr1 : Row w v1 xs.length (fI xs)) (hr2 : Row w v2 ys.length (fI ys)) (hl1 : xs.length < 4611686018427387904) (hl2 : ys.length < 4611686018427387904) :
    Calls Try.prog 18 [v1, v2].toArray w fun r w' => r = .returned (.bool (decide (xs = ys))) ∧ Bel w w' := by
  obtain ⟨a1, c1, rfl, hc1, _⟩ := id hr1
  obtain ⟨a2, c2, rfl, hc2, _⟩ := id hr2
  refine calls_of_J (args := [.slice a1 xs.length c1, .slice a2 ys.length c2]) (e := [(0, .slice a1 xs.length c1), (1, .slice a2 ys.length c2)]) Try.func18 rfl rfl ⟨rfl, rfl, trivial⟩ (St.start w) ?_
  refine JC.seq (fun K0 hK0 => ?_)
  refine JC.region ?_
  refine J.assign rfl rfl ?_
  refine J.nil ?_
  refine JX.thenN (hK0 _ _ ?_)
  refine JC.seq (fun K1 hK1 => ?_)
  refine JC.seq (fun K2 hK2 => ?_)
  refine JC.region ?_
  refine J.move rfl rfl ?_
  refine J.lenS rfl Ty.u24 rfl rfl ?_
  refine J.move rfl rfl ?_
  refine J.lenS rfl Ty.u24 rfl rfl ?_
  refine J.bin rfl rfl rfl rfl ?_
  refine J.nil ?_
  refine JX.thenN (hK2 _ _ ?_)
  refine JC.cond rfl (fun h0 => ?_) (fun h0 => ?_)
  · skip
    have hne : xs.length ≠ ys.length := by simp at h0; omega
    have hres : decide (xs = ys) = false := by simp; intro e; exact hne (by rw [e])
    refine JC.seq (fun K3 hK3 => ?_)
    refine JC.region ?_
    refine J.assign rfl rfl ?_
    refine J.nil ?_
    refine JX.thenN (hK3 _ _ ?_)
    refine JC.ret ?_
    refine JX.thenR ?_
    refine JX.ret1 rfl rfl (fun w hw => ?_)
    exact ⟨by rw [hres], hw.below⟩
  · skip
    have hle : xs.length = ys.length := by simp at h0; omega
    refine JC.skip ?_
    refine JX.thenN (hK1 _ _ ?_)
    refine JC.seq (fun K4 hK4 => ?_)
    refine JC.seq (fun K5 hK5 => ?_)
    refine JC.region ?_
    refine J.assign rfl rfl ?_
    refine J.nil ?_
    refine JX.thenN (hK5 _ _ ?_)
    refine JC.block ?_
    refine JC.conseq (JC.cov (f := (fun i => [(0, .slice a1 xs.length c1), (1, .slice a2 ys.length c2), (5, .int .i64 ((i : Nat) : Int))]) 0) ⟨rfl, rfl, rfl, trivial⟩ (JC.loop (α := Nat) (fun i => [(0, .slice a1 xs.length c1), (1, .slice a2 ys.length c2), (5, .int .i64 ((i : Nat) : Int))]) (fun i w' => (i ≤ xs.length ∧ ∀ j, j < i → xs[j]? = ys[j]?) ∧ St w [] [] w') (fun i => xs.length - i) 0 (fun i => ?_))) (fun w hw => ⟨⟨Nat.zero_le _, fun j hj => by omega⟩, hw⟩)
    refine JC.pr (fun hx => ?_)
    obtain ⟨hi, hpre⟩ := hx
    refine JC.seq (fun K6 hK6 => ?_)
    refine JC.seq (fun K7 hK7 => ?_)
    refine JC.region ?_
    refine J.move rfl rfl ?_
    refine J.move rfl rfl ?_
    refine J.lenS rfl Ty.u24 rfl rfl ?_
    refine J.bin rfl rfl rfl rfl ?_
    refine J.nil ?_
    refine JX.thenN (hK7 _ _ ?_)
    refine JC.cond rfl (fun h1 => ?_) (fun h1 => ?_)
    · skip
      have hlt : i < xs.length := by simp at h1; omega
      have hlt2 : i < ys.length := by omega
      have hfxs := fI_length xs
      have hcl := (Row.some hr1 (by omega))
      obtain ⟨q1, o1, c1', hqe, _, _⟩ := hcl
      simp only [Value.slice.injEq] at hqe
      obtain ⟨rfl, _, rfl⟩ := hqe
      have hfys := fI_length ys
      have hcl := (Row.some hr2 (by omega))
      obtain ⟨q2, o2, c2', hqe, _, _⟩ := hcl
      simp only [Value.slice.injEq] at hqe
      obtain ⟨rfl, _, rfl⟩ := hqe
      refine JC.skip ?_
      refine JX.thenN (hK6 _ _ ?_)
      refine JC.seq (fun K8 hK8 => ?_)
      refine JC.block ?_
      refine JC.seq (fun K9 hK9 => ?_)
      apply JC.drawL 9 [Eqv (.slice (some ⟨q1, o1, none⟩) xs.length c1), Eqv (.int .i64 ((i : Nat) : Int)), Eqv (.pointer (some ⟨q1, o1 + (i : Int).toNat * 16, none⟩)), Eqv (.agg (cI (xs[i]'hlt)).toArray), Eqv (.slice (some ⟨q2, o2, none⟩) ys.length c2), Eqv (.int .i64 ((i : Nat) : Int)), Eqv (.pointer (some ⟨q2, o2 + (i : Int).toNat * 16, none⟩)), Eqv (.agg (cI (ys[i]'hlt2)).toArray), Eqv (.bool (!decide (xs[i]'hlt = ys[i]'hlt2)))] Ty.mixed rfl rfl rfl (by kernel_rfl) rfl rfl (fun w w' hw hb => hw.step hb) ⟨fun _ _ _ h _ => h, fun _ _ _ h _ => h, fun _ _ _ h _ => h, fun _ _ _ h _ => h, fun _ _ _ h _ => h, fun _ _ _ h _ => h, fun _ _ _ h _ => h, fun _ _ _ h _ => h, fun _ _ _ h _ => h, trivial⟩ ?hstep ?htail
      case hstep =>
        refine ⟨fun wi => ?_, fun wi => ?_, fun wi => ?_, fun wi => ?_, fun wi => ?_, fun wi => ?_, fun wi => ?_, fun wi => ?_, fun wi => ?_, trivial⟩
        · skip
          refine Fin.nil ?_
          refine J.move rfl rfl ?_
          exact J.finP rfl
        · skip
          refine Fin.nil ?_
          refine J.move rfl rfl ?_
          exact J.finP rfl
        · skip
          refine Fin.consE rfl (Fin.consE rfl (Fin.nil ?_))
          refine J.indexAddrS Ty.el24 Ty.s23 rfl rfl (by omega) (by omega) rfl ?_
          exact J.finP rfl
        · skip
          refine Fin.consE rfl (Fin.nil ?_)
          refine J.loadA (vs := cI (xs[i]'hlt)) Ty.a23 Ty.s23 rfl rfl (fun w1 hw => rowF_at (hr1.below hw.2.below) (List.getElem?_eq_getElem hlt) (by omega)) rfl ?_
          exact J.finP rfl
        · skip
          refine Fin.nil ?_
          refine J.move rfl rfl ?_
          exact J.finP rfl
        · skip
          refine Fin.nil ?_
          refine J.move rfl rfl ?_
          exact J.finP rfl
        · skip
          refine Fin.consE rfl (Fin.consE rfl (Fin.nil ?_))
          refine J.indexAddrS Ty.el24 Ty.s23 rfl rfl (by omega) (by omega) rfl ?_
          exact J.finP rfl
        · skip
          refine Fin.consE rfl (Fin.nil ?_)
          refine J.loadA (vs := cI (ys[i]'hlt2)) Ty.a23 Ty.s23 rfl rfl (fun w1 hw => rowF_at (hr2.below hw.2.below) (List.getElem?_eq_getElem hlt2) (by omega)) rfl ?_
          exact J.finP rfl
        · skip
          refine Fin.consE rfl (Fin.consE rfl (Fin.nil ?_))
          refine J.neI Ty.QI Ty.keyI rfl rfl rfl ?_
          exact J.finP rfl
      case htail =>
        refine Fin.consE rfl (Fin.consE rfl (Fin.consE rfl (Fin.consE rfl (Fin.consE rfl (Fin.consE rfl (Fin.consE rfl (Fin.consE rfl (Fin.consE rfl (Fin.nil ?_)))))))))
        refine J.nil ?_
        refine JX.thenN (hK9 _ _ ?_)
        refine JC.cond rfl (fun h2 => ?_) (fun h2 => ?_)
        · skip
          have hres : decide (xs = ys) = false := by simp at h2 ⊢; intro e; subst e; exact h2 rfl
          refine JC.seq (fun K10 hK10 => ?_)
          refine JC.region ?_
          refine J.assign rfl rfl ?_
          refine J.nil ?_
          refine JX.thenN (hK10 _ _ ?_)
          refine JC.ret ?_
          refine JX.blockR ?_
          refine JX.thenR ?_
          refine JX.thenR ?_
          refine JX.blockR ?_
          refine JX.thenR ?_
          refine JX.ret1 rfl rfl (fun w hw => ?_)
          exact ⟨by rw [hres], hw.below⟩
        · skip
          have heq : xs[i]'hlt = ys[i]'hlt2 := by simp at h2; exact h2
          refine JC.skip ?_
          refine JX.blockN ?_
          refine JX.thenN (hK8 _ _ ?_)
          refine JC.region ?_
          refine J.move rfl rfl ?_
          (first | refine J.addN rfl rfl (by omega) (by omega) rfl ?_ | refine J.bin rfl rfl rfl rfl ?_)
          refine J.assign rfl rfl ?_
          refine J.nil ?_
          refine JX.thenN ?_
          refine JX.again (i + 1) ?_ ?_ ?_
          · omega
          · exact ⟨rfl, rfl, rfl, trivial⟩
          · exact fun w1 hw => ⟨⟨hlt, fun j hj => by
            rcases Nat.lt_or_ge j i with h | h
            · exact hpre j h
            · have : j = i := by omega
              subst this
              rw [List.getElem?_eq_getElem hlt, List.getElem?_eq_getElem hlt2, heq]⟩, hw⟩
    · skip
      have hge : i = xs.length := by simp at h1; omega
      have hres : decide (xs = ys) = true := by simpa using same_upto hle hpre hge
      refine JC.exit ?_
      refine JX.thenE ?_
      refine JX.thenE ?_
      refine JX.blockE ?_
      refine JX.thenN (hK4 _ _ ?_)
      refine JC.seq (fun K11 hK11 => ?_)
      refine JC.region ?_
      refine J.assign rfl rfl ?_
      refine J.nil ?_
      refine JX.thenN (hK11 _ _ ?_)
      refine JC.ret ?_
      refine JX.ret1 rfl rfl (fun w hw => ?_)
      exact ⟨by rw [hres], hw.below⟩

theorem rhas_spec (v : Value) (xs : List IDV) (n : IDV) (w : World) (hr : Row w v xs.length (fI xs)) (hl : xs.length < 4611686018427387904) :
    Calls Try.prog 40 [v, .agg (cI n).toArray].toArray w fun r w' => r = .returned (.bool (decide (n ∈ xs))) ∧ Bel w w' := by
  obtain ⟨a, c, rfl, hc, _⟩ := id hr
  refine calls_of_J (args := [.slice a xs.length c, .agg (cI n).toArray]) (e := [(0, .slice a xs.length c), (1, .agg (cI n).toArray)]) Try.func40 rfl rfl ⟨rfl, rfl, trivial⟩ (St.start w) ?_
  refine JC.seq (fun K0 hK0 => ?_)
  refine JC.region ?_
  refine J.box rfl rfl rfl (fun b3 => ?_)
  refine J.assign rfl rfl ?_
  refine J.nil ?_
  refine JX.thenN (hK0 _ _ ?_)
  refine JC.seq (fun K1 hK1 => ?_)
  refine JC.seq (fun K2 hK2 => ?_)
  refine JC.region ?_
  refine J.assign rfl rfl ?_
  refine J.nil ?_
  refine JX.thenN (hK2 _ _ ?_)
  refine JC.block ?_
  refine JC.conseq (JC.cov (f := (fun i => [(0, .slice a xs.length c), (3, .pointer (some ⟨b3, 0, none⟩)), (5, .int .i64 ((i : Nat) : Int))]) 0) ⟨rfl, rfl, rfl, trivial⟩ (JC.loop (α := Nat) (fun i => [(0, .slice a xs.length c), (3, .pointer (some ⟨b3, 0, none⟩)), (5, .int .i64 ((i : Nat) : Int))]) (fun i w' => (i ≤ xs.length ∧ ∀ j, j < i → xs[j]? ≠ some n) ∧ St w [] [(b3, cb (cI n) 23)] w') (fun i => xs.length - i) 0 (fun i => ?_))) (fun w hw => ⟨⟨Nat.zero_le _, fun j hj => by omega⟩, hw⟩)
  refine JC.pr (fun hx => ?_)
  obtain ⟨hi, hpre⟩ := hx
  refine JC.seq (fun K3 hK3 => ?_)
  refine JC.seq (fun K4 hK4 => ?_)
  refine JC.region ?_
  refine J.move rfl rfl ?_
  refine J.move rfl rfl ?_
  refine J.lenS rfl Ty.u24 rfl rfl ?_
  refine J.bin rfl rfl rfl rfl ?_
  refine J.nil ?_
  refine JX.thenN (hK4 _ _ ?_)
  refine JC.cond rfl (fun h0 => ?_) (fun h0 => ?_)
  · skip
    have hlt : i < xs.length := by simp at h0; omega
    have hfxs := fI_length xs
    have hcl := (Row.some hr (by omega))
    obtain ⟨q1, o1, c', hqe, _, _⟩ := hcl
    simp only [Value.slice.injEq] at hqe
    obtain ⟨rfl, _, rfl⟩ := hqe
    refine JC.skip ?_
    refine JX.thenN (hK3 _ _ ?_)
    refine JC.seq (fun K5 hK5 => ?_)
    refine JC.block ?_
    refine JC.seq (fun K6 hK6 => ?_)
    apply JC.drawL 6 [Eqv (.slice (some ⟨q1, o1, none⟩) xs.length c), Eqv (.int .i64 ((i : Nat) : Int)), Eqv (.pointer (some ⟨q1, o1 + (i : Int).toNat * 16, none⟩)), Eqv (.agg (cI (xs[i]'hlt)).toArray), Eqv (.agg (cI n).toArray), Eqv (.bool (decide (xs[i]'hlt = n)))] Ty.mixed rfl rfl rfl (by kernel_rfl) rfl rfl (fun w w' hw hb => hw.step hb) ⟨fun _ _ _ h _ => h, fun _ _ _ h _ => h, fun _ _ _ h _ => h, fun _ _ _ h _ => h, fun _ _ _ h _ => h, fun _ _ _ h _ => h, trivial⟩ ?hstep ?htail
    case hstep =>
      refine ⟨fun wi => ?_, fun wi => ?_, fun wi => ?_, fun wi => ?_, fun wi => ?_, fun wi => ?_, trivial⟩
      · skip
        refine Fin.nil ?_
        refine J.move rfl rfl ?_
        exact J.finP rfl
      · skip
        refine Fin.nil ?_
        refine J.move rfl rfl ?_
        exact J.finP rfl
      · skip
        refine Fin.consE rfl (Fin.consE rfl (Fin.nil ?_))
        refine J.indexAddrS Ty.el24 Ty.s23 rfl rfl (by omega) (by omega) rfl ?_
        exact J.finP rfl
      · skip
        refine Fin.consE rfl (Fin.nil ?_)
        refine J.loadA (vs := cI (xs[i]'hlt)) Ty.a23 Ty.s23 rfl rfl (fun w1 hw => rowF_at (hr.below hw.2.below) (List.getElem?_eq_getElem hlt) (by omega)) rfl ?_
        exact J.finP rfl
      · skip
        refine Fin.nil ?_
        refine J.loadA (vs := cI n) Ty.a23 Ty.s23 rfl rfl (fun w hw => Cells.of_block (hw.2.own (_, _) (by repeat first | exact .head _ | apply List.Mem.tail | apply List.mem_append_right)) (by exact rfl)) rfl ?_
        exact J.finP rfl
      · skip
        refine Fin.consE rfl (Fin.consE rfl (Fin.nil ?_))
        refine J.eqI Ty.QI Ty.keyI rfl rfl rfl ?_
        exact J.finP rfl
    case htail =>
      refine Fin.consE rfl (Fin.consE rfl (Fin.consE rfl (Fin.consE rfl (Fin.consE rfl (Fin.consE rfl (Fin.nil ?_))))))
      refine J.nil ?_
      refine JX.thenN (hK6 _ _ ?_)
      refine JC.cond rfl (fun h1 => ?_) (fun h1 => ?_)
      · skip
        have he : xs[i]'hlt = n := by simp at h1; exact h1
        have hres : decide (n ∈ xs) = true := by simp; rw [← he]; exact List.getElem_mem hlt
        refine JC.seq (fun K7 hK7 => ?_)
        refine JC.region ?_
        refine J.assign rfl rfl ?_
        refine J.nil ?_
        refine JX.thenN (hK7 _ _ ?_)
        refine JC.ret ?_
        refine JX.blockR ?_
        refine JX.thenR ?_
        refine JX.thenR ?_
        refine JX.blockR ?_
        refine JX.thenR ?_
        refine JX.ret1 rfl rfl (fun w hw => ?_)
        exact ⟨by rw [hres], (hw.drop (List.nil_sublist _)).below⟩
      · skip
        have hne : ¬ xs[i]'hlt = n := by simp at h1; exact h1
        refine JC.skip ?_
        refine JX.blockN ?_
        refine JX.thenN (hK5 _ _ ?_)
        refine JC.region ?_
        refine J.move rfl rfl ?_
        (first | refine J.addN rfl rfl (by omega) (by omega) rfl ?_ | refine J.bin rfl rfl rfl rfl ?_)
        refine J.assign rfl rfl ?_
        refine J.nil ?_
        refine JX.thenN ?_
        refine JX.again (i + 1) ?_ ?_ ?_
        · omega
        · exact ⟨rfl, rfl, rfl, trivial⟩
        · exact fun w1 hw => ⟨⟨hlt, fun j hj => by
          rcases Nat.lt_or_ge j i with h | h
          · exact hpre j h
          · have : j = i := by omega
            subst this
            rw [List.getElem?_eq_getElem hlt]; simp; exact hne⟩, hw⟩
  · skip
    have hge : i = xs.length := by simp at h0; omega
    have hres : decide (n ∈ xs) = false := by simp; intro hm; have := placeI_mem.2 hm; rw [placeI_no (by rw [← hge]; exact hpre)] at this; omega
    refine JC.exit ?_
    refine JX.thenE ?_
    refine JX.thenE ?_
    refine JX.blockE ?_
    refine JX.thenN (hK1 _ _ ?_)
    refine JC.seq (fun K8 hK8 => ?_)
    refine JC.region ?_
    refine J.assign rfl rfl ?_
    refine J.nil ?_
    refine JX.thenN (hK8 _ _ ?_)
    refine JC.ret ?_
    refine JX.ret1 rfl rfl (fun w hw => ?_)
    exact ⟨by rw [hres], (hw.drop (List.nil_sublist _)).below⟩

end Go.Proofs.Ytbafhclandendaa
