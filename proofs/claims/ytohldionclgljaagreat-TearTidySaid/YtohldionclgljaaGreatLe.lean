/-
  The document's Copy, SameIDs and Has: contracts.
-/
import Derived.Test.YtohldionclgljaaGreatLb
namespace Go.Proofs.YtohldionclgljaaGreat
open Go.J Go.RowKit
set_option linter.unusedVariables false
set_option linter.unusedSimpArgs false
set_option maxRecDepth 4000
theorem same_upto {xs ys : List IDV} {i : Nat} (hl : xs.length = ys.length) (h : ∀ j, j < i → xs[j]? = ys[j]?) (hi : i = xs.length) : xs = ys := by
  refine List.ext_getElem? fun j => ?_
  rcases Nat.lt_or_ge j i with h1 | h1
  · exact h j h1
  · rw [List.getElem?_eq_none (by omega), List.getElem?_eq_none (by omega)]

theorem sameIDs_spec (v1 v2 : Value) (xs ys : List IDV) (w : World) (hr1 : Row w v1 xs.length (fI xs)) (hr2 : Row w v2 ys.length (fI ys)) (hl1 : xs.length < 4611686018427387904) (hl2 : ys.length < 4611686018427387904) :
    Calls Tryz.prog 9 [v1, v2].toArray w fun r w' => r = .returned (.bool (decide (xs = ys))) ∧ Bel w w' := by
  obtain ⟨a1, c1, rfl, hc1, _⟩ := id hr1
  obtain ⟨a2, c2, rfl, hc2, _⟩ := id hr2
  refine calls_of_J (args := [.slice a1 xs.length c1, .slice a2 ys.length c2]) (e := [(0, .slice a1 xs.length c1), (1, .slice a2 ys.length c2)]) Tryz.func9 rfl rfl ⟨rfl, rfl, trivial⟩ (St.start w) ?_
  refine JC.seq (fun K0 hK0 => ?_)
  refine JC.region ?_
  refine J.assign rfl rfl ?_
  refine J.nil ?_
  refine JX.thenN (hK0 _ _ ?_)
  refine JC.seq (fun K1 hK1 => ?_)
  refine JC.seq (fun K2 hK2 => ?_)
  refine JC.region ?_
  refine J.move rfl rfl ?_
  refine J.lenS rfl Ty.u39 rfl rfl ?_
  refine J.move rfl rfl ?_
  refine J.lenS rfl Ty.u39 rfl rfl ?_
  refine J.bin rfl rfl rfl rfl ?_
  refine J.nil ?_
  refine JX.thenN (hK2 _ _ ?_)
  refine JC.cond rfl (fun h0 => ?_) (fun h0 => ?_)
  · skip
    have hne : xs.length ≠ ys.length := by simp at h0; omega
    have hres : decide (xs = ys) = false := by simp; intro e; exact hne (by rw [e])
    refine JC.seq (fun K3 hK3 => ?_)
    refine JC.region ?_
    refine J.assign rfl rfl ?_
    refine J.nil ?_
    refine JX.thenN (hK3 _ _ ?_)
    refine JC.ret ?_
    refine JX.thenR ?_
    refine JX.ret1 rfl rfl (fun w hw => ?_)
    exact ⟨by rw [hres], hw.below⟩
  · skip
    have hle : xs.length = ys.length := by simp at h0; omega
    refine JC.skip ?_
    refine JX.thenN (hK1 _ _ ?_)
    refine JC.seq (fun K4 hK4 => ?_)
    refine JC.seq (fun K5 hK5 => ?_)
    refine JC.region ?_
    refine J.assign rfl rfl ?_
    refine J.nil ?_
    refine JX.thenN (hK5 _ _ ?_)
    refine JC.block ?_
    refine JC.conseq (JC.cov (f := (fun i => [(0, .slice a1 xs.length c1), (1, .slice a2 ys.length c2), (5, .int .i64 ((i : Nat) : Int))]) 0) ⟨rfl, rfl, rfl, trivial⟩ (JC.loop (α := Nat) (fun i => [(0, .slice a1 xs.length c1), (1, .slice a2 ys.length c2), (5, .int .i64 ((i : Nat) : Int))]) (fun i w' => (i ≤ xs.length ∧ ∀ j, j < i → xs[j]? = ys[j]?) ∧ St w [] [] w') (fun i => xs.length - i) 0 (fun i => ?_))) (fun w hw => ⟨⟨Nat.zero_le _, fun j hj => by omega⟩, hw⟩)
    refine JC.pr (fun hx => ?_)
    obtain ⟨hi, hpre⟩ := hx
    refine JC.seq (fun K6 hK6 => ?_)
    refine JC.seq (fun K7 hK7 => ?_)
    refine JC.region ?_
    refine J.move rfl rfl ?_
    refine J.move rfl rfl ?_
    refine J.lenS rfl Ty.u39 rfl rfl ?_
    refine J.bin rfl rfl rfl rfl ?_
    refine J.nil ?_
    refine JX.thenN (hK7 _ _ ?_)
    refine JC.cond rfl (fun h1 => ?_) (fun h1 => ?_)
    · skip
      have hlt : i < xs.length := by simp at h1; omega
      have hlt2 : i < ys.length := by omega
      have hfxs := fI_length xs
      have hcl := (Row.some hr1 (by omega))
      obtain ⟨q1, o1, c1', hqe, _, _⟩ := hcl
      simp only [Value.slice.injEq] at hqe
      obtain ⟨rfl, _, rfl⟩ := hqe
      have hfys := fI_length ys
      have hcl := (Row.some hr2 (by omega))
      obtain ⟨q2, o2, c2', hqe, _, _⟩ := hcl
      simp only [Value.slice.injEq] at hqe
      obtain ⟨rfl, _, rfl⟩ := hqe
      refine JC.skip ?_
      refine JX.thenN (hK6 _ _ ?_)
      refine JC.seq (fun K8 hK8 => ?_)
      refine JC.block ?_
      refine JC.seq (fun K9 hK9 => ?_)
      apply JC.drawL 9 [Eqv (.slice (some ⟨q1, o1, none⟩) xs.length c1), Eqv (.int .i64 ((i : Nat) : Int)), Eqv (.pointer (some ⟨q1, o1 + (i : Int).toNat * 16, none⟩)), Eqv (.agg (cI (xs[i]'hlt)).toArray), Eqv (.slice (some ⟨q2, o2, none⟩) ys.length c2), Eqv (.int .i64 ((i : Nat) : Int)), Eqv (.pointer (some ⟨q2, o2 + (i : Int).toNat * 16, none⟩)), Eqv (.agg (cI (ys[i]'hlt2)).toArray), Eqv (.bool (!decide (xs[i]'hlt = ys[i]'hlt2)))] Ty.mixed rfl rfl rfl (by kernel_rfl) rfl rfl (fun w w' hw hb => hw.step hb) ⟨fun _ _ _ h _ => h, fun _ _ _ h _ => h, fun _ _ _ h _ => h, fun _ _ _ h _ => h, fun _ _ _ h _ => h, fun _ _ _ h _ => h, fun _ _ _ h _ => h, fun _ _ _ h _ => h, fun _ _ _ h _ => h, trivial⟩ ?hstep ?htail
      case hstep =>
        refine ⟨fun wi => ?_, fun wi => ?_, fun wi => ?_, fun wi => ?_, fun wi => ?_, fun wi => ?_, fun wi => ?_, fun wi => ?_, fun wi => ?_, trivial⟩
        · skip
          refine Fin.nil ?_
          refine J.move rfl rfl ?_
          exact J.finP rfl
        · skip
          refine Fin.nil ?_
          refine J.move rfl rfl ?_
          exact J.finP rfl
        · skip
          refine Fin.consE rfl (Fin.consE rfl (Fin.nil ?_))
          refine J.indexAddrS Ty.el39 Ty.s24 rfl rfl (by omega) (by omega) rfl ?_
          exact J.finP rfl
        · skip
          refine Fin.consE rfl (Fin.nil ?_)
          refine J.loadA (vs := cI (xs[i]'hlt)) Ty.a24 Ty.s24 rfl rfl (fun w1 hw => rowF_at (hr1.below hw.2.below) (List.getElem?_eq_getElem hlt) (by omega)) rfl ?_
          exact J.finP rfl
        · skip
          refine Fin.nil ?_
          refine J.move rfl rfl ?_
          exact J.finP rfl
        · skip
          refine Fin.nil ?_
          refine J.move rfl rfl ?_
          exact J.finP rfl
        · skip
          refine Fin.consE rfl (Fin.consE rfl (Fin.nil ?_))
          refine J.indexAddrS Ty.el39 Ty.s24 rfl rfl (by omega) (by omega) rfl ?_
          exact J.finP rfl
        · skip
          refine Fin.consE rfl (Fin.nil ?_)
          refine J.loadA (vs := cI (ys[i]'hlt2)) Ty.a24 Ty.s24 rfl rfl (fun w1 hw => rowF_at (hr2.below hw.2.below) (List.getElem?_eq_getElem hlt2) (by omega)) rfl ?_
          exact J.finP rfl
        · skip
          refine Fin.consE rfl (Fin.consE rfl (Fin.nil ?_))
          refine J.neI Ty.QI Ty.keyI rfl rfl rfl ?_
          exact J.finP rfl
      case htail =>
        refine Fin.consE rfl (Fin.consE rfl (Fin.consE rfl (Fin.consE rfl (Fin.consE rfl (Fin.consE rfl (Fin.consE rfl (Fin.consE rfl (Fin.consE rfl (Fin.nil ?_)))))))))
        refine J.nil ?_
        refine JX.thenN (hK9 _ _ ?_)
        refine JC.cond rfl (fun h2 => ?_) (fun h2 => ?_)
        · skip
          have hres : decide (xs = ys) = false := by simp at h2 ⊢; intro e; subst e; exact h2 rfl
          refine JC.seq (fun K10 hK10 => ?_)
          refine JC.region ?_
          refine J.assign rfl rfl ?_
          refine J.nil ?_
          refine JX.thenN (hK10 _ _ ?_)
          refine JC.ret ?_
          refine JX.blockR ?_
          refine JX.thenR ?_
          refine JX.thenR ?_
          refine JX.blockR ?_
          refine JX.thenR ?_
          refine JX.ret1 rfl rfl (fun w hw => ?_)
          exact ⟨by rw [hres], hw.below⟩
        · skip
          have heq : xs[i]'hlt = ys[i]'hlt2 := by simp at h2; exact h2
          refine JC.skip ?_
          refine JX.blockN ?_
          refine JX.thenN (hK8 _ _ ?_)
          refine JC.region ?_
          refine J.move rfl rfl ?_
          (first | refine J.addN rfl rfl (by omega) (by omega) rfl ?_ | refine J.bin rfl rfl rfl rfl ?_)
          refine J.assign rfl rfl ?_
          refine J.nil ?_
          refine JX.thenN ?_
          refine JX.again (i + 1) ?_ ?_ ?_
          · omega
          · exact ⟨rfl, rfl, rfl, trivial⟩
          · exact fun w1 hw => ⟨⟨hlt, fun j hj => by
            rcases Nat.lt_or_ge j i with h | h
            · exact hpre j h
            · have : j = i := by omega
              subst this
              rw [List.getElem?_eq_getElem hlt, List.getElem?_eq_getElem hlt2, heq]⟩, hw⟩
    · skip
      have hge : i = xs.length := by simp at h1; omega
      have hres : decide (xs = ys) = true := by simpa using same_upto hle hpre hge
      refine JC.exit ?_
      refine JX.thenE ?_
      refine JX.thenE ?_
      refine JX.blockE ?_
      refine JX.thenN (hK4 _ _ ?_)
      refine JC.seq (fun K11 hK11 => ?_)
      refine JC.region ?_
      refine J.assign rfl rfl ?_
      refine J.nil ?_
      refine JX.thenN (hK11 _ _ ?_)
      refine JC.ret ?_
      refine JX.ret1 rfl rfl (fun w hw => ?_)
      exact ⟨by rw [hres], hw.below⟩

theorem rhas_spec (v : Value) (xs : List IDV) (n : IDV) (w : World) (hr : Row w v xs.length (fI xs)) (hl : xs.length < 4611686018427387904) :
    Calls Tryz.prog 37 [v, .agg (cI n).toArray].toArray w fun r w' => r = .returned (.bool (decide (n ∈ xs))) ∧ Bel w w' := by
  obtain ⟨a, c, rfl, hc, _⟩ := id hr
  refine calls_of_J (args := [.slice a xs.length c, .agg (cI n).toArray]) (e := [(0, .slice a xs.length c), (1, .agg (cI n).toArray)]) Tryz.func37 rfl rfl ⟨rfl, rfl, trivial⟩ (St.start w) ?_
  refine JC.seq (fun K0 hK0 => ?_)
  refine JC.region ?_
  refine J.box rfl rfl rfl (fun b3 => ?_)
  refine J.assign rfl rfl ?_
  refine J.nil ?_
  refine JX.thenN (hK0 _ _ ?_)
  refine JC.seq (fun K1 hK1 => ?_)
  refine JC.seq (fun K2 hK2 => ?_)
  refine JC.region ?_
  refine J.assign rfl rfl ?_
  refine J.nil ?_
  refine JX.thenN (hK2 _ _ ?_)
  refine JC.block ?_
  refine JC.conseq (JC.cov (f := (fun i => [(0, .slice a xs.length c), (3, .pointer (some ⟨b3, 0, none⟩)), (5, .int .i64 ((i : Nat) : Int))]) 0) ⟨rfl, rfl, rfl, trivial⟩ (JC.loop (α := Nat) (fun i => [(0, .slice a xs.length c), (3, .pointer (some ⟨b3, 0, none⟩)), (5, .int .i64 ((i : Nat) : Int))]) (fun i w' => (i ≤ xs.length ∧ ∀ j, j < i → xs[j]? ≠ some n) ∧ St w [] [(b3, cb (cI n) 24)] w') (fun i => xs.length - i) 0 (fun i => ?_))) (fun w hw => ⟨⟨Nat.zero_le _, fun j hj => by omega⟩, hw⟩)
  refine JC.pr (fun hx => ?_)
  obtain ⟨hi, hpre⟩ := hx
  refine JC.seq (fun K3 hK3 => ?_)
  refine JC.seq (fun K4 hK4 => ?_)
  refine JC.region ?_
  refine J.move rfl rfl ?_
  refine J.move rfl rfl ?_
  refine J.lenS rfl Ty.u39 rfl rfl ?_
  refine J.bin rfl rfl rfl rfl ?_
  refine J.nil ?_
  refine JX.thenN (hK4 _ _ ?_)
  refine JC.cond rfl (fun h0 => ?_) (fun h0 => ?_)
  · skip
    have hlt : i < xs.length := by simp at h0; omega
    have hfxs := fI_length xs
    have hcl := (Row.some hr (by omega))
    obtain ⟨q1, o1, c', hqe, _, _⟩ := hcl
    simp only [Value.slice.injEq] at hqe
    obtain ⟨rfl, _, rfl⟩ := hqe
    refine JC.skip ?_
    refine JX.thenN (hK3 _ _ ?_)
    refine JC.seq (fun K5 hK5 => ?_)
    refine JC.block ?_
    refine JC.seq (fun K6 hK6 => ?_)
    apply JC.drawL 6 [Eqv (.slice (some ⟨q1, o1, none⟩) xs.length c), Eqv (.int .i64 ((i : Nat) : Int)), Eqv (.pointer (some ⟨q1, o1 + (i : Int).toNat * 16, none⟩)), Eqv (.agg (cI (xs[i]'hlt)).toArray), Eqv (.agg (cI n).toArray), Eqv (.bool (decide (xs[i]'hlt = n)))] Ty.mixed rfl rfl rfl (by kernel_rfl) rfl rfl (fun w w' hw hb => hw.step hb) ⟨fun _ _ _ h _ => h, fun _ _ _ h _ => h, fun _ _ _ h _ => h, fun _ _ _ h _ => h, fun _ _ _ h _ => h, fun _ _ _ h _ => h, trivial⟩ ?hstep ?htail
    case hstep =>
      refine ⟨fun wi => ?_, fun wi => ?_, fun wi => ?_, fun wi => ?_, fun wi => ?_, fun wi => ?_, trivial⟩
      · skip
        refine Fin.nil ?_
        refine J.move rfl rfl ?_
        exact J.finP rfl
      · skip
        refine Fin.nil ?_
        refine J.move rfl rfl ?_
        exact J.finP rfl
      · skip
        refine Fin.consE rfl (Fin.consE rfl (Fin.nil ?_))
        refine J.indexAddrS Ty.el39 Ty.s24 rfl rfl (by omega) (by omega) rfl ?_
        exact J.finP rfl
      · skip
        refine Fin.consE rfl (Fin.nil ?_)
        refine J.loadA (vs := cI (xs[i]'hlt)) Ty.a24 Ty.s24 rfl rfl (fun w1 hw => rowF_at (hr.below hw.2.below) (List.getElem?_eq_getElem hlt) (by omega)) rfl ?_
        exact J.finP rfl
      · skip
        refine Fin.nil ?_
        refine J.loadA (vs := cI n) Ty.a24 Ty.s24 rfl rfl (fun w hw => Cells.of_block (hw.2.own (_, _) (by repeat first | exact .head _ | apply List.Mem.tail | apply List.mem_append_right)) (by exact rfl)) rfl ?_
        exact J.finP rfl
      · skip
        refine Fin.consE rfl (Fin.consE rfl (Fin.nil ?_))
        refine J.eqI Ty.QI Ty.keyI rfl rfl rfl ?_
        exact J.finP rfl
    case htail =>
      refine Fin.consE rfl (Fin.consE rfl (Fin.consE rfl (Fin.consE rfl (Fin.consE rfl (Fin.consE rfl (Fin.nil ?_))))))
      refine J.nil ?_
      refine JX.thenN (hK6 _ _ ?_)
      refine JC.cond rfl (fun h1 => ?_) (fun h1 => ?_)
      · skip
        have he : xs[i]'hlt = n := by simp at h1; exact h1
        have hres : decide (n ∈ xs) = true := by simp; rw [← he]; exact List.getElem_mem hlt
        refine JC.seq (fun K7 hK7 => ?_)
        refine JC.region ?_
        refine J.assign rfl rfl ?_
        refine J.nil ?_
        refine JX.thenN (hK7 _ _ ?_)
        refine JC.ret ?_
        refine JX.blockR ?_
        refine JX.thenR ?_
        refine JX.thenR ?_
        refine JX.blockR ?_
        refine JX.thenR ?_
        refine JX.ret1 rfl rfl (fun w hw => ?_)
        exact ⟨by rw [hres], (hw.drop (List.nil_sublist _)).below⟩
      · skip
        have hne : ¬ xs[i]'hlt = n := by simp at h1; exact h1
        refine JC.skip ?_
        refine JX.blockN ?_
        refine JX.thenN (hK5 _ _ ?_)
        refine JC.region ?_
        refine J.move rfl rfl ?_
        (first | refine J.addN rfl rfl (by omega) (by omega) rfl ?_ | refine J.bin rfl rfl rfl rfl ?_)
        refine J.assign rfl rfl ?_
        refine J.nil ?_
        refine JX.thenN ?_
        refine JX.again (i + 1) ?_ ?_ ?_
        · omega
        · exact ⟨rfl, rfl, rfl, trivial⟩
        · exact fun w1 hw => ⟨⟨hlt, fun j hj => by
          rcases Nat.lt_or_ge j i with h | h
          · exact hpre j h
          · have : j = i := by omega
            subst this
            rw [List.getElem?_eq_getElem hlt]; simp; exact hne⟩, hw⟩
  · skip
    have hge : i = xs.length := by simp at h0; omega
    have hres : decide (n ∈ xs) = false := by simp; intro hm; have := placeI_mem.2 hm; rw [placeI_no (by rw [← hge]; exact hpre)] at this; omega
    refine JC.exit ?_
    refine JX.thenE ?_
    refine JX.thenE ?_
    refine JX.blockE ?_
    refine JX.thenN (hK1 _ _ ?_)
    refine JC.seq (fun K8 hK8 => ?_)
    refine JC.region ?_
    refine J.assign rfl rfl ?_
    refine J.nil ?_
    refine JX.thenN (hK8 _ _ ?_)
    refine JC.ret ?_
    refine JX.ret1 rfl rfl (fun w hw => ?_)
    exact ⟨by rw [hres], (hw.drop (List.nil_sublist _)).below⟩

end Go.Proofs.YtohldionclgljaaGreat
/-
  The document's Sorted: contract.
-/
namespace Go.Proofs.YtohldionclgljaaGreat
open Go.J Go.RowKit
set_option linter.unusedVariables false
set_option linter.unusedSimpArgs false
set_option maxRecDepth 4000
theorem sortI_step {xs : List IDV} {me x : IDV} {i : Nat} (h : xs[i]? = some x) : sortI (xs.take (i + 1)) me = stepS me (sortI (xs.take i) me) x := by
  have hl := (List.getElem?_eq_some_iff.1 h).1
  have hx : xs[i] = x := (List.getElem?_eq_some_iff.1 h).2
  unfold sortI
  rw [take_add_one hl, List.foldl_append, hx]
  rfl
theorem posI_of : ∀ {l : List IDV} {x : IDV} {k : Nat}, k ≤ l.length → (∀ j y, j < k → l[j]? = some y → valI y < valI x) → (∀ y, l[k]? = some y → ¬ valI y < valI x) → posI l x = k
  | [], x, k, h, _, _ => by simp at h; subst h; rfl
  | z :: l, x, 0, _, _, h => by
    have := h z rfl
    unfold posI
    rw [List.takeWhile_cons_of_neg (by simpa using this)]
    rfl
  | z :: l, x, k + 1, h, h1, h2 => by
    have hz := h1 0 z (by omega) rfl
    have ih := posI_of (l := l) (x := x) (k := k) (by simpa using h) (fun j y hj hy => h1 (j + 1) y (by omega) (by simpa using hy)) (fun y hy => h2 y (by simpa using hy))
    unfold posI at ih ⊢
    rw [List.takeWhile_cons_of_pos (by simpa using hz), List.length_cons, ih]
theorem vecI_pos {a : Option Addr} {c : Nat} {xs : List IDV} {lp : List (Nat × Obj)} (h : Vec 24 16 (.slice a xs.length c) xs.length (fI xs) lp) (h0 : 0 < xs.length) :
    ∃ q sp, a = some ⟨q, 0, none⟩ ∧ lp = [(q, cb (fI xs ++ sp) 24)] ∧ (fI xs ++ sp).length = c * 16 ∧ xs.length ≤ c := by
  rcases vecI h with ⟨_, h2, _⟩ | ⟨b, c', sp, h1, h2, h3, h4⟩
  · subst h2; simp at h0
  · simp only [Value.slice.injEq] at h1
    obtain ⟨rfl, _, rfl⟩ := h1
    exact ⟨b, sp, rfl, h2, h3, h4⟩
structure RS where
  i : Nat
  out : List IDV
  a : Option Addr
  c : Nat
  lp : List (Nat × Obj)

theorem rsorted_spec (self : IDV) (v : Value) (xs : List IDV) (w : World) (hr : Row w v xs.length (fI xs)) (hl : xs.length ≤ 1099511627776) :
    Calls Tryz.prog 34 [.agg (cI self).toArray, v].toArray w fun r w' => ∃ x : Value × List (Nat × Obj), r = .returned x.1 ∧ Vec 24 16 x.1 (sortI xs self).length (fI (sortI xs self)) x.2 ∧ St w [] x.2 w' := by
  obtain ⟨ax, cx, rfl, hcx, _⟩ := id hr
  refine calls_of_J (args := [.agg (cI self).toArray, .slice ax xs.length cx]) (e := [(0, .agg (cI self).toArray), (1, .slice ax xs.length cx)]) Tryz.func34 rfl rfl ⟨rfl, rfl, trivial⟩ (St.start w) ?_
  refine JC.seq (fun K0 hK0 => ?_)
  refine JC.region ?_
  refine J.box rfl rfl rfl (fun b2 => ?_)
  refine J.assign rfl rfl ?_
  refine J.nil ?_
  refine JX.thenN (hK0 _ _ ?_)
  refine JC.seq (fun K1 hK1 => ?_)
  refine JC.region ?_
  refine J.assign rfl rfl ?_
  refine J.nil ?_
  refine JX.thenN (hK1 _ _ ?_)
  refine JC.seq (fun K2 hK2 => ?_)
  refine JC.seq (fun K3 hK3 => ?_)
  refine JC.region ?_
  refine J.assign rfl rfl ?_
  refine J.nil ?_
  refine JX.thenN (hK3 _ _ ?_)
  refine JC.block ?_
  refine JC.conseq (JC.cov (f := (fun st => [(1, .slice ax xs.length cx), (2, .pointer (some ⟨b2, 0, none⟩)), (5, .slice st.a st.out.length st.c), (6, .int .i64 ((st.i : Nat) : Int))]) (⟨0, [], none, 0, []⟩ : RS)) ⟨rfl, rfl, rfl, rfl, trivial⟩ (JC.loop (α := RS) (fun st => [(1, .slice ax xs.length cx), (2, .pointer (some ⟨b2, 0, none⟩)), (5, .slice st.a st.out.length st.c), (6, .int .i64 ((st.i : Nat) : Int))]) (fun st w' => (st.i ≤ xs.length ∧ st.out = sortI (xs.take st.i) self ∧ Vec 24 16 (.slice st.a st.out.length st.c) st.out.length (fI st.out) st.lp) ∧ St w [] ((b2, cb (cI self) 24) :: st.lp) w') (fun st => xs.length - st.i) (⟨0, [], none, 0, []⟩ : RS) (fun st => ?_))) (fun w hw => ⟨⟨Nat.zero_le _, rfl, Vec.nil _ _⟩, hw⟩)
  obtain ⟨i, out, a, c, lp⟩ := st
  refine JC.pr (fun hI => ?_)
  obtain ⟨hi, ho, hvo⟩ := hI
  simp only at hi ho hvo ⊢
  have hol : out.length ≤ xs.length := by rw [ho]; exact Nat.le_trans (sortI_le _ _) (by rw [List.length_take]; omega)
  refine JC.seq (fun K4 hK4 => ?_)
  refine JC.seq (fun K5 hK5 => ?_)
  refine JC.region ?_
  refine J.move rfl rfl ?_
  refine J.move rfl rfl ?_
  refine J.lenS rfl Ty.u39 rfl rfl ?_
  refine J.bin rfl rfl rfl rfl ?_
  refine J.nil ?_
  refine JX.thenN (hK5 _ _ ?_)
  refine JC.cond rfl (fun h0 => ?_) (fun h0 => ?_)
  · skip
    have hlt : i < xs.length := by simp at h0; omega
    have hfxs := fI_length xs
    have hcl := (Row.some hr (by omega))
    obtain ⟨q1, o1, cx', hqe, _, _⟩ := hcl
    simp only [Value.slice.injEq] at hqe
    obtain ⟨rfl, _, rfl⟩ := hqe
    obtain ⟨x, hx⟩ : ∃ x, xs[i]? = some x := ⟨_, List.getElem?_eq_getElem hlt⟩
    refine JC.skip ?_
    refine JX.thenN (hK4 _ _ ?_)
    refine JC.seq (fun K6 hK6 => ?_)
    refine JC.block ?_
    refine JC.seq (fun K7 hK7 => ?_)
    refine JC.seq (fun K8 hK8 => ?_)
    by_cases hself : x = self
    · skip
      apply JC.drawL 14 [Eqv (.slice (some ⟨q1, o1, none⟩) xs.length cx), Eqv (.int .i64 ((i : Nat) : Int)), Eqv (.pointer (some ⟨q1, o1 + (i : Int).toNat * 16, none⟩)), Eqv (.agg (cI x).toArray), Eqv (.agg (cI self).toArray), Eqv (.bool true), Eqv (.bool true), Eqv (undef), Eqv (undef), Eqv (undef), Eqv (undef), Eqv (undef), Eqv (undef), Eqv (.bool true)] Ty.mixed rfl rfl rfl (by kernel_rfl) rfl rfl (fun w w' hw hb => hw.step hb) ⟨fun _ _ _ h _ => h, fun _ _ _ h _ => h, fun _ _ _ h _ => h, fun _ _ _ h _ => h, fun _ _ _ h _ => h, fun _ _ _ h _ => h, fun _ _ _ h _ => h, fun _ _ _ h _ => h, fun _ _ _ h _ => h, fun _ _ _ h _ => h, fun _ _ _ h _ => h, fun _ _ _ h _ => h, fun _ _ _ h _ => h, fun _ _ _ h _ => h, trivial⟩ ?hstep ?htail
      case hstep =>
        refine ⟨fun wi => ?_, fun wi => ?_, fun wi => ?_, fun wi => ?_, fun wi => ?_, fun wi => ?_, fun wi => ?_, fun wi => ?_, fun wi => ?_, fun wi => ?_, fun wi => ?_, fun wi => ?_, fun wi => ?_, fun wi => ?_, trivial⟩
        · skip
          refine Fin.nil ?_
          refine J.move rfl rfl ?_
          exact J.finP rfl
        · skip
          refine Fin.nil ?_
          refine J.move rfl rfl ?_
          exact J.finP rfl
        · skip
          refine Fin.consE rfl (Fin.consE rfl (Fin.nil ?_))
          refine J.indexAddrS Ty.el39 Ty.s24 rfl rfl (by omega) (by omega) rfl ?_
          exact J.finP rfl
        · skip
          refine Fin.consE rfl (Fin.nil ?_)
          refine J.loadA (vs := cI x) Ty.a24 Ty.s24 rfl rfl (fun w1 hw => rowF_at (hr.below (hw.2.drop (List.nil_sublist _)).below) hx (by omega)) rfl ?_
          exact J.finP rfl
        · skip
          refine Fin.nil ?_
          refine J.loadA (vs := cI self) Ty.a24 Ty.s24 rfl rfl (fun w hw => Cells.of_block (hw.2.own (_, _) (by repeat first | exact .head _ | apply List.Mem.tail | apply List.mem_append_right)) (by exact rfl)) rfl ?_
          exact J.finP rfl
        · skip
          refine Fin.consE rfl (Fin.consE rfl (Fin.nil ?_))
          refine J.eqI Ty.QI Ty.keyI rfl rfl rfl ?_
          refine J.name 20 rfl (show _ = Value.bool true by simp [hself]) ?_
          exact J.finP rfl
        · skip
          refine Fin.consE rfl (Fin.nil ?_)
          refine J.move rfl rfl ?_
          exact J.finP rfl
        · skip
          refine Fin.consE rfl (Fin.nil ?_)
          first | refine J.skip rfl rfl rfl rfl rfl ?_ | refine J.skipU rfl rfl rfl rfl ?_ | (refine J.unguard rfl rfl rfl ?_; refine J.move rfl rfl ?_)
          exact J.finP rfl
        · skip
          refine Fin.consE rfl (Fin.nil ?_)
          first | refine J.skip rfl rfl rfl rfl rfl ?_ | refine J.skipU rfl rfl rfl rfl ?_ | (refine J.unguard rfl rfl rfl ?_; refine J.move rfl rfl ?_)
          exact J.finP rfl
        · skip
          refine Fin.consE rfl (Fin.nil ?_)
          first | refine J.skip rfl rfl rfl rfl rfl ?_ | refine J.skipU rfl rfl rfl rfl ?_ | (refine J.unguard rfl rfl rfl ?_; refine J.move rfl rfl ?_)
          exact J.finP rfl
        · skip
          refine Fin.consE rfl (Fin.consE rfl (Fin.consE rfl (Fin.nil ?_)))
          first | refine J.skip rfl rfl rfl rfl rfl ?_ | refine J.skipU rfl rfl rfl rfl ?_ | (refine J.unguard rfl rfl rfl ?_; refine J.indexAddrS Ty.el39 Ty.s24 rfl rfl (by omega) (by omega) rfl ?_)
          exact J.finP rfl
        · skip
          refine Fin.consE rfl (Fin.consE rfl (Fin.nil ?_))
          first | refine J.skip rfl rfl rfl rfl rfl ?_ | refine J.skipU rfl rfl rfl rfl ?_ | (refine J.unguard rfl rfl rfl ?_; refine J.loadOA Ty.a24 Ty.s24 rfl (by repeat first | exact .head _ | apply List.Mem.tail | apply List.mem_append_right) (by exact rfl) rfl rfl ?_)
          exact J.finP rfl
        · skip
          refine Fin.consE rfl (Fin.consE rfl (Fin.consE rfl (Fin.consE rfl (Fin.nil ?_))))
          first | refine J.skip rfl rfl rfl rfl rfl ?_ | refine J.skipU rfl rfl rfl rfl ?_ | (refine J.unguard rfl rfl rfl ?_; fail)
          exact J.finP rfl
        · skip
          refine Fin.consE rfl (Fin.consE rfl (Fin.nil ?_))
          (first | refine J.pickT rfl rfl rfl ?_ | refine J.pickF rfl rfl rfl ?_)
          exact J.finP rfl
      case htail =>
        refine Fin.consE rfl (Fin.consE rfl (Fin.consE rfl (Fin.consE rfl (Fin.consE rfl (Fin.consE rfl (Fin.consE rfl (Fin.consE rfl (Fin.consE rfl (Fin.consE rfl (Fin.consE rfl (Fin.consE rfl (Fin.consE rfl (Fin.consE rfl (Fin.nil ?_))))))))))))))
        refine J.nil ?_
        refine JX.thenN (hK8 _ _ ?_)
        first | refine JC.condT rfl ?_ | refine JC.cond rfl (fun _ => ?_) (fun h => by first | (exfalso; simp at h; omega) | (simp at h))
        refine JC.exit ?_
        refine JX.thenE ?_
        refine JX.blockE ?_
        refine JX.thenN (hK6 _ _ ?_)
        refine JC.region ?_
        refine J.move rfl rfl ?_
        (first | refine J.addN rfl rfl (by omega) (by omega) rfl ?_ | refine J.bin rfl rfl rfl rfl ?_)
        refine J.assign rfl rfl ?_
        refine J.nil ?_
        refine JX.thenN ?_
        refine JX.again (⟨i + 1, out, a, c, lp⟩ : RS) ?_ ?_ ?_
        · simp only; omega
        · exact ⟨rfl, rfl, rfl, rfl, trivial⟩
        · exact fun w1 hw => ⟨⟨hlt, by rw [sortI_step hx, ← ho, stepS, if_pos (.inl hself)], hvo⟩, hw⟩
    · skip
      apply JC.drawL 14 [Eqv (.slice (some ⟨q1, o1, none⟩) xs.length cx), Eqv (.int .i64 ((i : Nat) : Int)), Eqv (.pointer (some ⟨q1, o1 + (i : Int).toNat * 16, none⟩)), Eqv (.agg (cI x).toArray), Eqv (.agg (cI self).toArray), Eqv (.bool false), Eqv (.bool false), Eqv (.slice a out.length c), Eqv (.slice (some ⟨q1, o1, none⟩) xs.length cx), Eqv (.int .i64 ((i : Nat) : Int)), Eqv (.pointer (some ⟨q1, o1 + (i : Int).toNat * 16, none⟩)), Eqv (.agg (cI x).toArray), Eqv (.bool (decide (x ∈ out))), Eqv (.bool (decide (x ∈ out)))] Ty.mixed rfl rfl rfl (by kernel_rfl) rfl rfl (fun w w' hw hb => hw.step hb) ⟨fun _ _ _ h _ => h, fun _ _ _ h _ => h, fun _ _ _ h _ => h, fun _ _ _ h _ => h, fun _ _ _ h _ => h, fun _ _ _ h _ => h, fun _ _ _ h _ => h, fun _ _ _ h _ => h, fun _ _ _ h _ => h, fun _ _ _ h _ => h, fun _ _ _ h _ => h, fun _ _ _ h _ => h, fun _ _ _ h _ => h, fun _ _ _ h _ => h, trivial⟩ ?hstep ?htail
      case hstep =>
        refine ⟨fun wi => ?_, fun wi => ?_, fun wi => ?_, fun wi => ?_, fun wi => ?_, fun wi => ?_, fun wi => ?_, fun wi => ?_, fun wi => ?_, fun wi => ?_, fun wi => ?_, fun wi => ?_, fun wi => ?_, fun wi => ?_, trivial⟩
        · skip
          refine Fin.nil ?_
          refine J.move rfl rfl ?_
          exact J.finP rfl
        · skip
          refine Fin.nil ?_
          refine J.move rfl rfl ?_
          exact J.finP rfl
        · skip
          refine Fin.consE rfl (Fin.consE rfl (Fin.nil ?_))
          refine J.indexAddrS Ty.el39 Ty.s24 rfl rfl (by omega) (by omega) rfl ?_
          exact J.finP rfl
        · skip
          refine Fin.consE rfl (Fin.nil ?_)
          refine J.loadA (vs := cI x) Ty.a24 Ty.s24 rfl rfl (fun w1 hw => rowF_at (hr.below (hw.2.drop (List.nil_sublist _)).below) hx (by omega)) rfl ?_
          exact J.finP rfl
        · skip
          refine Fin.nil ?_
          refine J.loadA (vs := cI self) Ty.a24 Ty.s24 rfl rfl (fun w hw => Cells.of_block (hw.2.own (_, _) (by repeat first | exact .head _ | apply List.Mem.tail | apply List.mem_append_right)) (by exact rfl)) rfl ?_
          exact J.finP rfl
        · skip
          refine Fin.consE rfl (Fin.consE rfl (Fin.nil ?_))
          refine J.eqI Ty.QI Ty.keyI rfl rfl rfl ?_
          refine J.name 20 rfl (show _ = Value.bool false by simp [hself]) ?_
          exact J.finP rfl
        · skip
          refine Fin.consE rfl (Fin.nil ?_)
          refine J.move rfl rfl ?_
          exact J.finP rfl
        · skip
          refine Fin.consE rfl (Fin.nil ?_)
          first | refine J.skip rfl rfl rfl rfl rfl ?_ | refine J.skipU rfl rfl rfl rfl ?_ | (refine J.unguard rfl rfl rfl ?_; refine J.move rfl rfl ?_)
          exact J.finP rfl
        · skip
          refine Fin.consE rfl (Fin.nil ?_)
          first | refine J.skip rfl rfl rfl rfl rfl ?_ | refine J.skipU rfl rfl rfl rfl ?_ | (refine J.unguard rfl rfl rfl ?_; refine J.move rfl rfl ?_)
          exact J.finP rfl
        · skip
          refine Fin.consE rfl (Fin.nil ?_)
          first | refine J.skip rfl rfl rfl rfl rfl ?_ | refine J.skipU rfl rfl rfl rfl ?_ | (refine J.unguard rfl rfl rfl ?_; refine J.move rfl rfl ?_)
          exact J.finP rfl
        · skip
          refine Fin.consE rfl (Fin.consE rfl (Fin.consE rfl (Fin.nil ?_)))
          refine J.unguard rfl rfl rfl ?_
          refine J.indexAddrS Ty.el39 Ty.s24 rfl rfl (by omega) (by omega) rfl ?_
          exact J.finP rfl
        · skip
          refine Fin.consE rfl (Fin.consE rfl (Fin.nil ?_))
          refine J.unguard rfl rfl rfl ?_
          refine J.loadA (vs := cI x) Ty.a24 Ty.s24 rfl rfl (fun w1 hw => rowF_at (hr.below (hw.2.drop (List.nil_sublist _)).below) hx (by omega)) rfl ?_
          exact J.finP rfl
        · skip
          refine Fin.consE rfl (Fin.consE rfl (Fin.consE rfl (Fin.consE rfl (Fin.nil ?_))))
          refine J.unguard rfl rfl rfl ?_
          refine J.callD (v := .bool (decide (x ∈ out))) Ty.bd37 rfl rfl (fun w1 hw => rhas_spec _ out x w1 (hvo.row (S := []) (l := [(b2, cb (cI self) 24)]) (hw.perm (by (refine perm_cnt (fun _ => ?_)); simp only [cntB_append, cntB_cons, cntB_nil, Nat.add_zero, Nat.zero_add]; try ac_rfl))) (by omega)) ?_
          exact J.finQ rfl
        · skip
          refine Fin.consE rfl (Fin.consE rfl (Fin.nil ?_))
          (first | refine J.pickT rfl rfl rfl ?_ | refine J.pickF rfl rfl rfl ?_)
          exact J.finP rfl
      case htail =>
        refine Fin.consE rfl (Fin.consE rfl (Fin.consE rfl (Fin.consE rfl (Fin.consE rfl (Fin.consE rfl (Fin.consE rfl (Fin.consE rfl (Fin.consE rfl (Fin.consE rfl (Fin.consE rfl (Fin.consE rfl (Fin.consE rfl (Fin.consE rfl (Fin.nil ?_))))))))))))))
        refine J.nil ?_
        refine JX.thenN (hK8 _ _ ?_)
        refine JC.cond rfl (fun h1 => ?_) (fun h1 => ?_)
        · skip
          have hin : x ∈ out := by simpa using h1
          refine JC.exit ?_
          refine JX.thenE ?_
          refine JX.blockE ?_
          refine JX.thenN (hK6 _ _ ?_)
          refine JC.region ?_
          refine J.move rfl rfl ?_
          (first | refine J.addN rfl rfl (by omega) (by omega) rfl ?_ | refine J.bin rfl rfl rfl rfl ?_)
          refine J.assign rfl rfl ?_
          refine J.nil ?_
          refine JX.thenN ?_
          refine JX.again (⟨i + 1, out, a, c, lp⟩ : RS) ?_ ?_ ?_
          · simp only; omega
          · exact ⟨rfl, rfl, rfl, rfl, trivial⟩
          · exact fun w1 hw => ⟨⟨hlt, by rw [sortI_step hx, ← ho, stepS, if_pos (.inr hin)], hvo⟩, hw⟩
        · skip
          have hin : ¬ x ∈ out := by simpa using h1
          refine JC.skip ?_
          refine JX.thenN (hK7 _ _ ?_)
          refine JC.seq (fun K9 hK9 => ?_)
          refine JC.region ?_
          refine J.assign rfl rfl ?_
          refine J.nil ?_
          refine JX.thenN (hK9 _ _ ?_)
          refine JC.seq (fun K10 hK10 => ?_)
          refine JC.block ?_
          refine JC.conseq (JC.cov (f := (fun k => [(1, .slice (some ⟨q1, o1, none⟩) xs.length cx), (2, .pointer (some ⟨b2, 0, none⟩)), (5, .slice a out.length c), (6, .int .i64 ((i : Nat) : Int)), (7, .int .i64 ((k : Nat) : Int))]) 0) ⟨rfl, rfl, rfl, rfl, rfl, trivial⟩ (JC.loop (α := Nat) (fun k => [(1, .slice (some ⟨q1, o1, none⟩) xs.length cx), (2, .pointer (some ⟨b2, 0, none⟩)), (5, .slice a out.length c), (6, .int .i64 ((i : Nat) : Int)), (7, .int .i64 ((k : Nat) : Int))]) (fun k w' => (k ≤ out.length ∧ ∀ j y, j < k → out[j]? = some y → valI y < valI x) ∧ St w [] ((b2, cb (cI self) 24) :: lp) w') (fun k => out.length - k) 0 (fun k => ?_))) (fun w hw => ⟨⟨Nat.zero_le _, fun j y hj => by omega⟩, hw⟩)
          refine JC.pr (fun hK => ?_)
          obtain ⟨hk, hbef⟩ := hK
          refine JC.seq (fun K11 hK11 => ?_)
          refine JC.seq (fun K12 hK12 => ?_)
          by_cases hat : k < out.length
          · skip
            obtain ⟨qo, spo, haq, hlq, hsq, hcq⟩ := vecI_pos hvo (by omega)
            obtain ⟨y, hy⟩ : ∃ y, out[k]? = some y := ⟨_, List.getElem?_eq_getElem hat⟩
            apply JC.drawL 15 [Eqv (.int .i64 ((k : Nat) : Int)), Eqv (.slice a out.length c), Eqv (.int .i64 ((out.length : Nat) : Int)), Eqv (.bool true), Eqv (.bool true), Eqv (.slice a out.length c), Eqv (.int .i64 ((k : Nat) : Int)), Eqv (.pointer (some ⟨qo, 0 + (k : Int).toNat * 16, none⟩)), Eqv (.agg (cI y).toArray), Eqv (.slice (some ⟨q1, o1, none⟩) xs.length cx), Eqv (.int .i64 ((i : Nat) : Int)), Eqv (.pointer (some ⟨q1, o1 + (i : Int).toNat * 16, none⟩)), Eqv (.agg (cI x).toArray), Eqv (.bool (decide (valI y < valI x))), Eqv (.bool (decide (valI y < valI x)))] Ty.mixed rfl rfl rfl (by kernel_rfl) rfl rfl (fun w w' hw hb => hw.step hb) ⟨fun _ _ _ h _ => h, fun _ _ _ h _ => h, fun _ _ _ h _ => h, fun _ _ _ h _ => h, fun _ _ _ h _ => h, fun _ _ _ h _ => h, fun _ _ _ h _ => h, fun _ _ _ h _ => h, fun _ _ _ h _ => h, fun _ _ _ h _ => h, fun _ _ _ h _ => h, fun _ _ _ h _ => h, fun _ _ _ h _ => h, fun _ _ _ h _ => h, fun _ _ _ h _ => h, trivial⟩ ?hstep ?htail
            case hstep =>
              refine ⟨fun wi => ?_, fun wi => ?_, fun wi => ?_, fun wi => ?_, fun wi => ?_, fun wi => ?_, fun wi => ?_, fun wi => ?_, fun wi => ?_, fun wi => ?_, fun wi => ?_, fun wi => ?_, fun wi => ?_, fun wi => ?_, fun wi => ?_, trivial⟩
              · skip
                refine Fin.nil ?_
                refine J.move rfl rfl ?_
                exact J.finP rfl
              · skip
                refine Fin.nil ?_
                refine J.move rfl rfl ?_
                exact J.finP rfl
              · skip
                refine Fin.consE rfl (Fin.nil ?_)
                refine J.lenS rfl Ty.u39 rfl rfl ?_
                exact J.finP rfl
              · skip
                refine Fin.consE rfl (Fin.consE rfl (Fin.nil ?_))
                refine J.bin rfl rfl rfl rfl ?_
                refine J.name 32 rfl (show _ = Value.bool true by simp; omega) ?_
                exact J.finP rfl
              · skip
                refine Fin.consE rfl (Fin.nil ?_)
                refine J.move rfl rfl ?_
                exact J.finP rfl
              · skip
                refine Fin.consE rfl (Fin.nil ?_)
                first | refine J.skip rfl rfl rfl rfl rfl ?_ | refine J.skipU rfl rfl rfl rfl ?_ | (refine J.unguard rfl rfl rfl ?_; refine J.move rfl rfl ?_)
                exact J.finP rfl
              · skip
                refine Fin.consE rfl (Fin.nil ?_)
                first | refine J.skip rfl rfl rfl rfl rfl ?_ | refine J.skipU rfl rfl rfl rfl ?_ | (refine J.unguard rfl rfl rfl ?_; refine J.move rfl rfl ?_)
                exact J.finP rfl
              · skip
                refine Fin.consE rfl (Fin.consE rfl (Fin.consE rfl (Fin.nil ?_)))
                subst haq
                refine J.unguard rfl rfl rfl ?_
                refine J.indexAddrS Ty.el39 Ty.s24 rfl rfl (by omega) (by omega) rfl ?_
                exact J.finP rfl
              · skip
                refine Fin.consE rfl (Fin.consE rfl (Fin.nil ?_))
                refine J.unguard rfl rfl rfl ?_
                refine J.loadA (vs := cI y) Ty.a24 Ty.s24 rfl rfl (fun w1 hw => rowF_at (o := 0) (by have h0 := (hvo.row (S := []) (l := [(b2, cb (cI self) 24)]) (hw.2.perm (by (refine perm_cnt (fun _ => ?_)); simp only [cntB_append, cntB_cons, cntB_nil, Nat.add_zero, Nat.zero_add]; try ac_rfl))); rw [haq] at h0; exact h0) hy (by omega)) rfl ?_
                exact J.finP rfl
              · skip
                refine Fin.consE rfl (Fin.nil ?_)
                first | refine J.skip rfl rfl rfl rfl rfl ?_ | refine J.skipU rfl rfl rfl rfl ?_ | (refine J.unguard rfl rfl rfl ?_; refine J.move rfl rfl ?_)
                exact J.finP rfl
              · skip
                refine Fin.consE rfl (Fin.nil ?_)
                first | refine J.skip rfl rfl rfl rfl rfl ?_ | refine J.skipU rfl rfl rfl rfl ?_ | (refine J.unguard rfl rfl rfl ?_; refine J.move rfl rfl ?_)
                exact J.finP rfl
              · skip
                refine Fin.consE rfl (Fin.consE rfl (Fin.consE rfl (Fin.nil ?_)))
                refine J.unguard rfl rfl rfl ?_
                refine J.indexAddrS Ty.el39 Ty.s24 rfl rfl (by omega) (by omega) rfl ?_
                exact J.finP rfl
              · skip
                refine Fin.consE rfl (Fin.consE rfl (Fin.nil ?_))
                refine J.unguard rfl rfl rfl ?_
                refine J.loadA (vs := cI x) Ty.a24 Ty.s24 rfl rfl (fun w1 hw => rowF_at (hr.below (hw.2.drop (List.nil_sublist _)).below) hx (by omega)) rfl ?_
                exact J.finP rfl
              · skip
                refine Fin.consE rfl (Fin.consE rfl (Fin.consE rfl (Fin.consE rfl (Fin.nil ?_))))
                refine J.unguard rfl rfl rfl ?_
                refine J.callD (v := .bool (decide (valI y < valI x))) Ty.bd44 rfl rfl (fun w1 hw => less_spec y x w1) ?_
                exact J.finQ rfl
              · skip
                refine Fin.consE rfl (Fin.consE rfl (Fin.nil ?_))
                (first | refine J.pickT rfl rfl rfl ?_ | refine J.pickF rfl rfl rfl ?_)
                exact J.finP rfl
            case htail =>
              refine Fin.consE rfl (Fin.consE rfl (Fin.consE rfl (Fin.consE rfl (Fin.consE rfl (Fin.consE rfl (Fin.consE rfl (Fin.consE rfl (Fin.consE rfl (Fin.consE rfl (Fin.consE rfl (Fin.consE rfl (Fin.consE rfl (Fin.consE rfl (Fin.consE rfl (Fin.nil ?_)))))))))))))))
              refine J.nil ?_
              refine JX.thenN (hK12 _ _ ?_)
              refine JC.cond rfl (fun h2 => ?_) (fun h2 => ?_)
              · skip
                have hlow : valI y < valI x := by simpa using h2
                refine JC.skip ?_
                refine JX.thenN (hK11 _ _ ?_)
                refine JC.block ?_
                refine JC.region ?_
                refine J.move rfl rfl ?_
                (first | refine J.addN rfl rfl (by omega) (by omega) rfl ?_ | refine J.bin rfl rfl rfl rfl ?_)
                refine J.assign rfl rfl ?_
                refine J.nil ?_
                refine JX.blockN ?_
                refine JX.thenN ?_
                refine JX.again (k + 1) ?_ ?_ ?_
                · omega
                · exact ⟨rfl, rfl, rfl, rfl, rfl, trivial⟩
                · exact fun w1 hw => ⟨⟨hat, fun j z hj hz => by
                  rcases Nat.lt_or_ge j k with h | h
                  · exact hbef j z h hz
                  · have : j = k := by omega
                    subst this
                    rw [hy] at hz; cases hz; exact hlow⟩, hw⟩
              · skip
                have hhigh : ¬ valI y < valI x := by simpa using h2
                refine JC.exit ?_
                refine JX.thenE ?_
                refine JX.thenE ?_
                refine JX.blockE ?_
                refine JX.thenN (hK10 _ _ ?_)
                refine JC.seq (fun K13 hK13 => ?_)
                refine JC.region ?_
                refine J.assign rfl rfl ?_
                refine J.nil ?_
                refine JX.thenN (hK13 _ _ ?_)
                refine JC.seq (fun K14 hK14 => ?_)
                refine JC.region ?_
                obtain ⟨_, hcap⟩ : ∃ u : Unit, out.length ≤ c := ⟨(), by rcases vecI hvo with ⟨h1, h2, _⟩ | ⟨_, _, _, h1, _, _, h4⟩ <;> simp only [Value.slice.injEq] at h1 <;> omega⟩
                have hpos : posI out x = k := posI_of hk hbef (fun z hz => by first | (rw [List.getElem?_eq_none (by omega)] at hz; cases hz) | (rw [hy] at hz; cases hz; exact hhigh))
                refine J.move rfl rfl ?_
                refine J.move rfl rfl ?_
                refine J.move rfl rfl ?_
                refine J.sliceS (i := 0) (j := k) Ty.el39 Ty.s24 rfl rfl rfl rfl rfl (by omega) (by omega) (by omega) rfl ?_
                refine J.append (lp := []) (xs := []) (ys := fI (out.take k)) (k := 0) (m := (out.take k).length) Ty.el39 Ty.s24 Ty.b24 Ty.zID rfl (.inl ⟨24, Ty.u39⟩) rfl rfl (Vec.nil _ _) (fun w1 hw => .inl (by
                  have h1 := rowI_slice (i := 0) (j := k) (hvo.row (S := []) (l := [(b2, cb (cI self) 24)]) (hw.perm (by (refine perm_cnt (fun _ => ?_)); simp only [cntB_append, cntB_cons, cntB_nil, Nat.add_zero, Nat.zero_add]; try ac_rfl))) (Nat.zero_le _) (by omega)
                  rw [List.drop_zero, Nat.sub_zero] at h1
                  exact h1)) (fI_length _) (fun y hy => fI_one hy) (by simp only [List.length_take, List.length_drop, List.length_append, List.length_cons, List.length_nil]; omega) (by simp only [List.length_take, List.length_drop, List.length_append, List.length_cons, List.length_nil]; omega) rfl (fun v50 lp50 hv50 => ?_)
                rw [Nat.zero_add, List.nil_append] at hv50
                refine J.assign rfl rfl ?_
                refine J.nil ?_
                refine JX.thenN (hK14 _ _ ?_)
                refine JC.seq (fun K15 hK15 => ?_)
                refine JC.region ?_
                refine J.move rfl rfl ?_
                refine J.move rfl rfl ?_
                refine J.move rfl rfl ?_
                refine J.indexAddrS Ty.el39 Ty.s24 rfl rfl (by omega) (by omega) rfl ?_
                refine J.loadA (vs := cI x) Ty.a24 Ty.s24 rfl rfl (fun w1 hw => rowF_at (hr.below (hw.drop (List.nil_sublist _)).below) hx (by omega)) rfl ?_
                refine J.buildSl (cs := cI x) Ty.el39 Ty.s24 Ty.zID rfl rfl rfl rfl (by kernel_rfl) rfl rfl (fun b56 => ?_)
                refine J.perm (lp50 ++ ((b56, cb (cI x) 24) :: (b2, cb (cI self) 24) :: lp)) (by (refine perm_cnt (fun _ => ?_)); simp only [cntB_append, cntB_cons, cntB_nil, Nat.add_zero, Nat.zero_add]; try ac_rfl) ?_
                refine J.append (lp := lp50) (xs := fI (out.take k)) (ys := fI [x]) (k := (out.take k).length) (m := 1) Ty.el39 Ty.s24 Ty.b24 Ty.zID rfl (.inl ⟨24, Ty.u39⟩) rfl rfl hv50 (fun w1 hw => .inl (Row.own (cs := cI x) (tb := 24) (fr := (0, 0)) hw (List.mem_append_right _ (.head _)) rfl (Nat.le_refl _))) (fI_length _) (fun y hy => fI_one hy) (by simp only [List.length_take, List.length_drop, List.length_append, List.length_cons, List.length_nil]; omega) (by simp only [List.length_take, List.length_drop, List.length_append, List.length_cons, List.length_nil]; omega) rfl (fun v57 lp57 hv57 => ?_)
                rw [← fI_append] at hv57
                refine J.assign rfl rfl ?_
                refine J.nil ?_
                refine JX.thenN (hK15 _ _ ?_)
                refine JC.region ?_
                refine J.move rfl rfl ?_
                refine J.move rfl rfl ?_
                refine J.move rfl rfl ?_
                refine J.sliceS (i := k) (j := out.length) Ty.el39 Ty.s24 rfl rfl rfl rfl rfl (by omega) (by omega) (by omega) rfl ?_
                refine J.append (lp := lp57) (xs := fI ((out.take k) ++ [x])) (ys := fI (out.drop k)) (k := ((out.take k).length + 1)) (m := (out.drop k).length) Ty.el39 Ty.s24 Ty.b24 Ty.zID rfl (.inl ⟨24, Ty.u39⟩) rfl rfl hv57 (fun w1 hw => .inl (by
                  have h1 := rowI_slice (i := k) (j := out.length) (hvo.row (S := []) (l := lp57 ++ ((b56, cb (cI x) 24) :: [(b2, cb (cI self) 24)])) (hw.perm (by (refine perm_cnt (fun _ => ?_)); simp only [cntB_append, cntB_cons, cntB_nil, Nat.add_zero, Nat.zero_add]; try ac_rfl))) (by omega) (by omega)
                  rw [List.take_of_length_le (by rw [List.length_drop]; omega), List.length_drop] at h1
                  rw [List.length_drop]
                  exact h1)) (fI_length _) (fun y hy => fI_one hy) (by simp only [List.length_take, List.length_drop, List.length_append, List.length_cons, List.length_nil]; omega) (by simp only [List.length_take, List.length_drop, List.length_append, List.length_cons, List.length_nil]; omega) rfl (fun v62 lp62 hv62 => ?_)
                have hins : ((out.take k) ++ [x]) ++ (out.drop k) = insI out x := by unfold insI; rw [hpos]; simp
                have hv62n : Vec 24 16 v62 (insI out x).length (fI (insI out x)) lp62 := by
                  rw [← hins, List.length_append, List.length_append, fI_append]; exact hv62
                obtain ⟨a62, c62, rfl, hc62⟩ := hv62n.form
                refine J.assign rfl rfl ?_
                refine J.nil ?_
                refine JX.blockN ?_
                refine JX.thenN (hK6 _ _ ?_)
                refine JC.region ?_
                refine J.move rfl rfl ?_
                (first | refine J.addN rfl rfl (by omega) (by omega) rfl ?_ | refine J.bin rfl rfl rfl rfl ?_)
                refine J.assign rfl rfl ?_
                refine J.nil ?_
                refine JX.thenN ?_
                refine JX.again (⟨i + 1, insI out x, a62, c62, lp62⟩ : RS) ?_ ?_ ?_
                · simp only; omega
                · exact ⟨rfl, rfl, rfl, rfl, trivial⟩
                · exact fun w1 hw => ⟨⟨hlt, by rw [sortI_step hx, ← ho, stepS, if_neg (by rintro (h | h); exact hself h; exact hin h)], hv62n⟩, (hw.perm (l' := ((b2, cb (cI self) 24) :: lp62) ++ ((b56, cb (cI x) 24) :: lp)) (by (refine perm_cnt (fun _ => ?_)); simp only [cntB_append, cntB_cons, cntB_nil, Nat.add_zero, Nat.zero_add]; try ac_rfl)).drop (List.sublist_append_left _ _)⟩
          · skip
            apply JC.drawL 15 [Eqv (.int .i64 ((k : Nat) : Int)), Eqv (.slice a out.length c), Eqv (.int .i64 ((out.length : Nat) : Int)), Eqv (.bool false), Eqv (.bool false), Eqv (undef), Eqv (undef), Eqv (undef), Eqv (undef), Eqv (undef), Eqv (undef), Eqv (undef), Eqv (undef), Eqv (undef), Eqv (.bool false)] Ty.mixed rfl rfl rfl (by kernel_rfl) rfl rfl (fun w w' hw hb => hw.step hb) ⟨fun _ _ _ h _ => h, fun _ _ _ h _ => h, fun _ _ _ h _ => h, fun _ _ _ h _ => h, fun _ _ _ h _ => h, fun _ _ _ h _ => h, fun _ _ _ h _ => h, fun _ _ _ h _ => h, fun _ _ _ h _ => h, fun _ _ _ h _ => h, fun _ _ _ h _ => h, fun _ _ _ h _ => h, fun _ _ _ h _ => h, fun _ _ _ h _ => h, fun _ _ _ h _ => h, trivial⟩ ?hstep ?htail
            case hstep =>
              refine ⟨fun wi => ?_, fun wi => ?_, fun wi => ?_, fun wi => ?_, fun wi => ?_, fun wi => ?_, fun wi => ?_, fun wi => ?_, fun wi => ?_, fun wi => ?_, fun wi => ?_, fun wi => ?_, fun wi => ?_, fun wi => ?_, fun wi => ?_, trivial⟩
              · skip
                refine Fin.nil ?_
                refine J.move rfl rfl ?_
                exact J.finP rfl
              · skip
                refine Fin.nil ?_
                refine J.move rfl rfl ?_
                exact J.finP rfl
              · skip
                refine Fin.consE rfl (Fin.nil ?_)
                refine J.lenS rfl Ty.u39 rfl rfl ?_
                exact J.finP rfl
              · skip
                refine Fin.consE rfl (Fin.consE rfl (Fin.nil ?_))
                refine J.bin rfl rfl rfl rfl ?_
                refine J.name 32 rfl (show _ = Value.bool false by simp; omega) ?_
                exact J.finP rfl
              · skip
                refine Fin.consE rfl (Fin.nil ?_)
                refine J.move rfl rfl ?_
                exact J.finP rfl
              · skip
                refine Fin.consE rfl (Fin.nil ?_)
                first | refine J.skip rfl rfl rfl rfl rfl ?_ | refine J.skipU rfl rfl rfl rfl ?_ | (refine J.unguard rfl rfl rfl ?_; refine J.move rfl rfl ?_)
                exact J.finP rfl
              · skip
                refine Fin.consE rfl (Fin.nil ?_)
                first | refine J.skip rfl rfl rfl rfl rfl ?_ | refine J.skipU rfl rfl rfl rfl ?_ | (refine J.unguard rfl rfl rfl ?_; refine J.move rfl rfl ?_)
                exact J.finP rfl
              · skip
                refine Fin.consE rfl (Fin.consE rfl (Fin.consE rfl (Fin.nil ?_)))
                first | refine J.skip rfl rfl rfl rfl rfl ?_ | refine J.skipU rfl rfl rfl rfl ?_ | (refine J.unguard rfl rfl rfl ?_; refine J.indexAddrS Ty.el39 Ty.s24 rfl rfl (by omega) (by omega) rfl ?_)
                exact J.finP rfl
              · skip
                refine Fin.consE rfl (Fin.consE rfl (Fin.nil ?_))
                first | refine J.skip rfl rfl rfl rfl rfl ?_ | refine J.skipU rfl rfl rfl rfl ?_ | (refine J.unguard rfl rfl rfl ?_; refine J.loadOA Ty.a24 Ty.s24 rfl (by repeat first | exact .head _ | apply List.Mem.tail | apply List.mem_append_right) (by exact rfl) rfl rfl ?_)
                exact J.finP rfl
              · skip
                refine Fin.consE rfl (Fin.nil ?_)
                first | refine J.skip rfl rfl rfl rfl rfl ?_ | refine J.skipU rfl rfl rfl rfl ?_ | (refine J.unguard rfl rfl rfl ?_; refine J.move rfl rfl ?_)
                exact J.finP rfl
              · skip
                refine Fin.consE rfl (Fin.nil ?_)
                first | refine J.skip rfl rfl rfl rfl rfl ?_ | refine J.skipU rfl rfl rfl rfl ?_ | (refine J.unguard rfl rfl rfl ?_; refine J.move rfl rfl ?_)
                exact J.finP rfl
              · skip
                refine Fin.consE rfl (Fin.consE rfl (Fin.consE rfl (Fin.nil ?_)))
                first | refine J.skip rfl rfl rfl rfl rfl ?_ | refine J.skipU rfl rfl rfl rfl ?_ | (refine J.unguard rfl rfl rfl ?_; refine J.indexAddrS Ty.el39 Ty.s24 rfl rfl (by omega) (by omega) rfl ?_)
                exact J.finP rfl
              · skip
                refine Fin.consE rfl (Fin.consE rfl (Fin.nil ?_))
                first | refine J.skip rfl rfl rfl rfl rfl ?_ | refine J.skipU rfl rfl rfl rfl ?_ | (refine J.unguard rfl rfl rfl ?_; refine J.loadOA Ty.a24 Ty.s24 rfl (by repeat first | exact .head _ | apply List.Mem.tail | apply List.mem_append_right) (by exact rfl) rfl rfl ?_)
                exact J.finP rfl
              · skip
                refine Fin.consE rfl (Fin.consE rfl (Fin.consE rfl (Fin.consE rfl (Fin.nil ?_))))
                first | refine J.skip rfl rfl rfl rfl rfl ?_ | refine J.skipU rfl rfl rfl rfl ?_ | (refine J.unguard rfl rfl rfl ?_; fail)
                exact J.finP rfl
              · skip
                refine Fin.consE rfl (Fin.consE rfl (Fin.nil ?_))
                (first | refine J.pickT rfl rfl rfl ?_ | refine J.pickF rfl rfl rfl ?_)
                exact J.finP rfl
            case htail =>
              refine Fin.consE rfl (Fin.consE rfl (Fin.consE rfl (Fin.consE rfl (Fin.consE rfl (Fin.consE rfl (Fin.consE rfl (Fin.consE rfl (Fin.consE rfl (Fin.consE rfl (Fin.consE rfl (Fin.consE rfl (Fin.consE rfl (Fin.consE rfl (Fin.consE rfl (Fin.nil ?_)))))))))))))))
              refine J.nil ?_
              refine JX.thenN (hK12 _ _ ?_)
              first | refine JC.condF rfl ?_ | refine JC.cond rfl (fun h => by first | (exfalso; simp at h; omega) | (simp at h)) (fun _ => ?_)
              refine JC.exit ?_
              refine JX.thenE ?_
              refine JX.thenE ?_
              refine JX.blockE ?_
              refine JX.thenN (hK10 _ _ ?_)
              refine JC.seq (fun K16 hK16 => ?_)
              refine JC.region ?_
              refine J.assign rfl rfl ?_
              refine J.nil ?_
              refine JX.thenN (hK16 _ _ ?_)
              refine JC.seq (fun K17 hK17 => ?_)
              refine JC.region ?_
              obtain ⟨_, hcap⟩ : ∃ u : Unit, out.length ≤ c := ⟨(), by rcases vecI hvo with ⟨h1, h2, _⟩ | ⟨_, _, _, h1, _, _, h4⟩ <;> simp only [Value.slice.injEq] at h1 <;> omega⟩
              have hpos : posI out x = k := posI_of hk hbef (fun z hz => by first | (rw [List.getElem?_eq_none (by omega)] at hz; cases hz) | (rw [hy] at hz; cases hz; exact hhigh))
              refine J.move rfl rfl ?_
              refine J.move rfl rfl ?_
              refine J.move rfl rfl ?_
              refine J.sliceS (i := 0) (j := k) Ty.el39 Ty.s24 rfl rfl rfl rfl rfl (by omega) (by omega) (by omega) rfl ?_
              refine J.append (lp := []) (xs := []) (ys := fI (out.take k)) (k := 0) (m := (out.take k).length) Ty.el39 Ty.s24 Ty.b24 Ty.zID rfl (.inl ⟨24, Ty.u39⟩) rfl rfl (Vec.nil _ _) (fun w1 hw => .inl (by
                have h1 := rowI_slice (i := 0) (j := k) (hvo.row (S := []) (l := [(b2, cb (cI self) 24)]) (hw.perm (by (refine perm_cnt (fun _ => ?_)); simp only [cntB_append, cntB_cons, cntB_nil, Nat.add_zero, Nat.zero_add]; try ac_rfl))) (Nat.zero_le _) (by omega)
                rw [List.drop_zero, Nat.sub_zero] at h1
                exact h1)) (fI_length _) (fun y hy => fI_one hy) (by simp only [List.length_take, List.length_drop, List.length_append, List.length_cons, List.length_nil]; omega) (by simp only [List.length_take, List.length_drop, List.length_append, List.length_cons, List.length_nil]; omega) rfl (fun v50 lp50 hv50 => ?_)
              rw [Nat.zero_add, List.nil_append] at hv50
              refine J.assign rfl rfl ?_
              refine J.nil ?_
              refine JX.thenN (hK17 _ _ ?_)
              refine JC.seq (fun K18 hK18 => ?_)
              refine JC.region ?_
              refine J.move rfl rfl ?_
              refine J.move rfl rfl ?_
              refine J.move rfl rfl ?_
              refine J.indexAddrS Ty.el39 Ty.s24 rfl rfl (by omega) (by omega) rfl ?_
              refine J.loadA (vs := cI x) Ty.a24 Ty.s24 rfl rfl (fun w1 hw => rowF_at (hr.below (hw.drop (List.nil_sublist _)).below) hx (by omega)) rfl ?_
              refine J.buildSl (cs := cI x) Ty.el39 Ty.s24 Ty.zID rfl rfl rfl rfl (by kernel_rfl) rfl rfl (fun b56 => ?_)
              refine J.perm (lp50 ++ ((b56, cb (cI x) 24) :: (b2, cb (cI self) 24) :: lp)) (by (refine perm_cnt (fun _ => ?_)); simp only [cntB_append, cntB_cons, cntB_nil, Nat.add_zero, Nat.zero_add]; try ac_rfl) ?_
              refine J.append (lp := lp50) (xs := fI (out.take k)) (ys := fI [x]) (k := (out.take k).length) (m := 1) Ty.el39 Ty.s24 Ty.b24 Ty.zID rfl (.inl ⟨24, Ty.u39⟩) rfl rfl hv50 (fun w1 hw => .inl (Row.own (cs := cI x) (tb := 24) (fr := (0, 0)) hw (List.mem_append_right _ (.head _)) rfl (Nat.le_refl _))) (fI_length _) (fun y hy => fI_one hy) (by simp only [List.length_take, List.length_drop, List.length_append, List.length_cons, List.length_nil]; omega) (by simp only [List.length_take, List.length_drop, List.length_append, List.length_cons, List.length_nil]; omega) rfl (fun v57 lp57 hv57 => ?_)
              rw [← fI_append] at hv57
              refine J.assign rfl rfl ?_
              refine J.nil ?_
              refine JX.thenN (hK18 _ _ ?_)
              refine JC.region ?_
              refine J.move rfl rfl ?_
              refine J.move rfl rfl ?_
              refine J.move rfl rfl ?_
              refine J.sliceS (i := k) (j := out.length) Ty.el39 Ty.s24 rfl rfl rfl rfl rfl (by omega) (by omega) (by omega) rfl ?_
              refine J.append (lp := lp57) (xs := fI ((out.take k) ++ [x])) (ys := fI (out.drop k)) (k := ((out.take k).length + 1)) (m := (out.drop k).length) Ty.el39 Ty.s24 Ty.b24 Ty.zID rfl (.inl ⟨24, Ty.u39⟩) rfl rfl hv57 (fun w1 hw => .inl (by
                have h1 := rowI_slice (i := k) (j := out.length) (hvo.row (S := []) (l := lp57 ++ ((b56, cb (cI x) 24) :: [(b2, cb (cI self) 24)])) (hw.perm (by (refine perm_cnt (fun _ => ?_)); simp only [cntB_append, cntB_cons, cntB_nil, Nat.add_zero, Nat.zero_add]; try ac_rfl))) (by omega) (by omega)
                rw [List.take_of_length_le (by rw [List.length_drop]; omega), List.length_drop] at h1
                rw [List.length_drop]
                exact h1)) (fI_length _) (fun y hy => fI_one hy) (by simp only [List.length_take, List.length_drop, List.length_append, List.length_cons, List.length_nil]; omega) (by simp only [List.length_take, List.length_drop, List.length_append, List.length_cons, List.length_nil]; omega) rfl (fun v62 lp62 hv62 => ?_)
              have hins : ((out.take k) ++ [x]) ++ (out.drop k) = insI out x := by unfold insI; rw [hpos]; simp
              have hv62n : Vec 24 16 v62 (insI out x).length (fI (insI out x)) lp62 := by
                rw [← hins, List.length_append, List.length_append, fI_append]; exact hv62
              obtain ⟨a62, c62, rfl, hc62⟩ := hv62n.form
              refine J.assign rfl rfl ?_
              refine J.nil ?_
              refine JX.blockN ?_
              refine JX.thenN (hK6 _ _ ?_)
              refine JC.region ?_
              refine J.move rfl rfl ?_
              (first | refine J.addN rfl rfl (by omega) (by omega) rfl ?_ | refine J.bin rfl rfl rfl rfl ?_)
              refine J.assign rfl rfl ?_
              refine J.nil ?_
              refine JX.thenN ?_
              refine JX.again (⟨i + 1, insI out x, a62, c62, lp62⟩ : RS) ?_ ?_ ?_
              · simp only; omega
              · exact ⟨rfl, rfl, rfl, rfl, trivial⟩
              · exact fun w1 hw => ⟨⟨hlt, by rw [sortI_step hx, ← ho, stepS, if_neg (by rintro (h | h); exact hself h; exact hin h)], hv62n⟩, (hw.perm (l' := ((b2, cb (cI self) 24) :: lp62) ++ ((b56, cb (cI x) 24) :: lp)) (by (refine perm_cnt (fun _ => ?_)); simp only [cntB_append, cntB_cons, cntB_nil, Nat.add_zero, Nat.zero_add]; try ac_rfl)).drop (List.sublist_append_left _ _)⟩
  · skip
    have hge : i = xs.length := by simp at h0; omega
    subst hge
    rw [List.take_of_length_le (Nat.le_refl _)] at ho
    refine JC.exit ?_
    refine JX.thenE ?_
    refine JX.thenE ?_
    refine JX.blockE ?_
    refine JX.thenN (hK2 _ _ ?_)
    refine JC.seq (fun K19 hK19 => ?_)
    refine JC.region ?_
    refine J.move rfl rfl ?_
    refine J.assign rfl rfl ?_
    refine J.nil ?_
    refine JX.thenN (hK19 _ _ ?_)
    refine JC.ret ?_
    refine JX.ret1 rfl rfl (fun w hw => ?_)
    rw [ho] at hvo ⊢
    exact ⟨(_, lp), rfl, hvo, hw.drop (List.sublist_cons_self _ _)⟩

end Go.Proofs.YtohldionclgljaaGreat
/-
  The document's Want: contract.
-/
namespace Go.Proofs.YtohldionclgljaaGreat
open Go.J Go.RowKit
set_option linter.unusedVariables false
set_option linter.unusedSimpArgs false
set_option maxRecDepth 4000
noncomputable def wP (me : IDV) (L : List IDV) (half : Int) (x : IDV) : Bool := decide ((rI me L x : Int) < half) || decide ((lftI me L x : Int) < half)
theorem wantI_eq (me : IDV) (xs : List IDV) (half : Int) : wantI me xs half = (sortI xs me).filter (wP me (sortI xs me) half) := rfl
structure WK where
  k : Nat
  r : Nat
  l : Nat
theorem countP_step {p : IDV → Bool} {L : List IDV} {k : Nat} {y : IDV} (h : L[k]? = some y) : (L.take (k + 1)).countP p = (L.take k).countP p + if p y then 1 else 0 := by
  have hl := (List.getElem?_eq_some_iff.1 h).1
  have hx : L[k] = y := (List.getElem?_eq_some_iff.1 h).2
  rw [take_add_one hl, List.countP_append, hx, List.countP_singleton]
theorem filter_step {p : IDV → Bool} {L : List IDV} {k : Nat} {y : IDV} (h : L[k]? = some y) : (L.take (k + 1)).filter p = (L.take k).filter p ++ if p y then [y] else [] := by
  have hl := (List.getElem?_eq_some_iff.1 h).1
  have hx : L[k] = y := (List.getElem?_eq_some_iff.1 h).2
  rw [take_add_one hl, List.filter_append, hx]
  congr 1
  by_cases hp : p y <;> simp [hp]
theorem countP_le {p : IDV → Bool} {L : List IDV} {k : Nat} : (L.take k).countP p ≤ k := by
  have h := List.countP_le_length (p := p) (l := L.take k)
  rw [List.length_take] at h
  omega

theorem rwant_spec (self : IDV) (v : Value) (xs : List IDV) (half : Int) (w : World) (hr : Row w v xs.length (fI xs)) (hl : xs.length ≤ 1099511627776) :
    Calls Tryz.prog 22 [.agg (cI self).toArray, v, .int .i64 half].toArray w fun r w' => ∃ x : Value × List (Nat × Obj), r = .returned x.1 ∧ Vec 24 16 x.1 (wantI self xs half).length (fI (wantI self xs half)) x.2 ∧ St w [] x.2 w' := by
  refine calls_of_J (args := [.agg (cI self).toArray, v, .int .i64 half]) (e := [(0, .agg (cI self).toArray), (1, v), (2, .int .i64 half)]) Tryz.func22 rfl rfl ⟨rfl, rfl, rfl, trivial⟩ (St.start w) ?_
  refine JC.seq (fun K0 hK0 => ?_)
  refine JC.region ?_
  refine J.box rfl rfl rfl (fun b3 => ?_)
  refine J.assign rfl rfl ?_
  refine J.nil ?_
  refine JX.thenN (hK0 _ _ ?_)
  refine JC.seq (fun K1 hK1 => ?_)
  refine JC.region ?_
  refine J.loadOA (vs := cI self) Ty.a24 Ty.s24 rfl (by repeat first | exact .head _ | apply List.Mem.tail | apply List.mem_append_right) (by exact rfl) rfl rfl ?_
  refine J.move rfl rfl ?_
  refine J.callS (α := Value × List (Nat × Obj)) (V := (·.1)) (Pr := fun x => Vec 24 16 x.1 (sortI xs self).length (fI (sortI xs self)) x.2) (L := (·.2)) (l1 := []) (l := [(b3, cb (cI self) 24)]) Ty.bd34 rfl rfl (fun w1 hw => rsorted_spec self v xs w1 (hr.st (.inr (by simp)) hw) (by omega)) (fun x hvs => ?_)
  obtain ⟨vs, lsrt⟩ := x
  simp only at hvs ⊢
  have hsl := sortI_le xs self
  have hwe := wantI_eq self xs half
  generalize hL : sortI xs self = L at hvs hsl hwe
  obtain ⟨aq, cq, rfl, hcs⟩ := hvs.form
  refine J.assign rfl rfl ?_
  refine J.nil ?_
  refine JX.thenN (hK1 _ _ ?_)
  refine JC.seq (fun K2 hK2 => ?_)
  refine JC.region ?_
  refine J.assign rfl rfl ?_
  refine J.nil ?_
  refine JX.thenN (hK2 _ _ ?_)
  refine JC.seq (fun K3 hK3 => ?_)
  refine JC.seq (fun K4 hK4 => ?_)
  refine JC.region ?_
  refine J.assign rfl rfl ?_
  refine J.nil ?_
  refine JX.thenN (hK4 _ _ ?_)
  refine JC.block ?_
  refine JC.conseq (JC.cov (f := (fun st => [(2, .int .i64 half), (3, .pointer (some ⟨b3, 0, none⟩)), (7, .slice aq L.length cq), (8, .slice st.a st.out.length st.c), (9, .int .i64 ((st.i : Nat) : Int))]) (⟨0, [], none, 0, []⟩ : RS)) ⟨rfl, rfl, rfl, rfl, rfl, trivial⟩ (JC.loop (α := RS) (fun st => [(2, .int .i64 half), (3, .pointer (some ⟨b3, 0, none⟩)), (7, .slice aq L.length cq), (8, .slice st.a st.out.length st.c), (9, .int .i64 ((st.i : Nat) : Int))]) (fun st w' => (st.i ≤ L.length ∧ st.out = (L.take st.i).filter (wP self L half) ∧ Vec 24 16 (.slice st.a st.out.length st.c) st.out.length (fI st.out) st.lp) ∧ St w [] (st.lp ++ ((b3, cb (cI self) 24) :: lsrt)) w') (fun st => L.length - st.i) (⟨0, [], none, 0, []⟩ : RS) (fun st => ?_))) (fun w hw => ⟨⟨Nat.zero_le _, rfl, Vec.nil _ _⟩, hw.perm (by (refine perm_cnt (fun _ => ?_)); simp only [cntB_append, cntB_cons, cntB_nil, Nat.add_zero, Nat.zero_add]; try ac_rfl)⟩)
  obtain ⟨i, out, a, c, lp⟩ := st
  refine JC.pr (fun hI => ?_)
  obtain ⟨hi, ho, hvo⟩ := hI
  simp only at hi ho hvo ⊢
  have hol : out.length ≤ L.length := by rw [ho]; exact Nat.le_trans (List.length_filter_le _ _) (by rw [List.length_take]; omega)
  refine JC.seq (fun K5 hK5 => ?_)
  refine JC.seq (fun K6 hK6 => ?_)
  refine JC.region ?_
  refine J.move rfl rfl ?_
  refine J.move rfl rfl ?_
  refine J.lenS rfl Ty.u39 rfl rfl ?_
  refine J.bin rfl rfl rfl rfl ?_
  refine J.nil ?_
  refine JX.thenN (hK6 _ _ ?_)
  refine JC.cond rfl (fun h0 => ?_) (fun h0 => ?_)
  · skip
    have hlt : i < L.length := by simp at h0; omega
    obtain ⟨qq, spq, rfl, rfl, hsq, hcq⟩ := vecI_pos hvs (by omega)
    obtain ⟨x, hx⟩ : ∃ x, L[i]? = some x := ⟨_, List.getElem?_eq_getElem hlt⟩
    refine JC.skip ?_
    refine JX.thenN (hK5 _ _ ?_)
    refine JC.seq (fun K7 hK7 => ?_)
    refine JC.block ?_
    refine JC.seq (fun K8 hK8 => ?_)
    refine JC.region ?_
    refine J.assign rfl rfl ?_
    refine J.assign rfl rfl ?_
    refine J.nil ?_
    refine JX.thenN (hK8 _ _ ?_)
    refine JC.seq (fun K9 hK9 => ?_)
    refine JC.seq (fun K10 hK10 => ?_)
    refine JC.region ?_
    refine J.assign rfl rfl ?_
    refine J.nil ?_
    refine JX.thenN (hK10 _ _ ?_)
    refine JC.block ?_
    refine JC.conseq (JC.cov (f := (fun st => [(2, .int .i64 half), (3, .pointer (some ⟨b3, 0, none⟩)), (7, .slice (some ⟨qq, 0, none⟩) L.length cq), (8, .slice a out.length c), (9, .int .i64 ((i : Nat) : Int)), (10, .int .i64 ((st.r : Nat) : Int)), (11, .int .i64 ((st.l : Nat) : Int)), (12, .int .i64 ((st.k : Nat) : Int))]) (⟨0, 0, 0⟩ : WK)) ⟨rfl, rfl, rfl, rfl, rfl, rfl, rfl, rfl, trivial⟩ (JC.loop (α := WK) (fun st => [(2, .int .i64 half), (3, .pointer (some ⟨b3, 0, none⟩)), (7, .slice (some ⟨qq, 0, none⟩) L.length cq), (8, .slice a out.length c), (9, .int .i64 ((i : Nat) : Int)), (10, .int .i64 ((st.r : Nat) : Int)), (11, .int .i64 ((st.l : Nat) : Int)), (12, .int .i64 ((st.k : Nat) : Int))]) (fun st w' => (st.k ≤ L.length ∧ st.r = (L.take st.k).countP (fun y => decide (dI self y < dI self x)) ∧ st.l = (L.take st.k).countP (fun y => decide (eI self y < eI self x))) ∧ St w [] (lp ++ ((b3, cb (cI self) 24) :: [(qq, cb (fI L ++ spq) 24)])) w') (fun st => L.length - st.k) (⟨0, 0, 0⟩ : WK) (fun st => ?_))) (fun w hw => ⟨⟨Nat.zero_le _, rfl, rfl⟩, hw⟩)
    obtain ⟨k, r, l⟩ := st
    refine JC.pr (fun hK => ?_)
    obtain ⟨hk, hr1, hl1⟩ := hK
    simp only at hk hr1 hl1 ⊢
    have hrk : r ≤ k := by rw [hr1]; exact countP_le
    have hlk : l ≤ k := by rw [hl1]; exact countP_le
    refine JC.seq (fun K11 hK11 => ?_)
    refine JC.seq (fun K12 hK12 => ?_)
    refine JC.region ?_
    refine J.move rfl rfl ?_
    refine J.move rfl rfl ?_
    refine J.lenS rfl Ty.u39 rfl rfl ?_
    refine J.bin rfl rfl rfl rfl ?_
    refine J.nil ?_
    refine JX.thenN (hK12 _ _ ?_)
    refine JC.cond rfl (fun h1 => ?_) (fun h1 => ?_)
    · skip
      have hkt : k < L.length := by simp at h1; omega
      obtain ⟨y, hy⟩ : ∃ y, L[k]? = some y := ⟨_, List.getElem?_eq_getElem hkt⟩
      refine JC.skip ?_
      refine JX.thenN (hK11 _ _ ?_)
      refine JC.seq (fun K13 hK13 => ?_)
      refine JC.block ?_
      refine JC.seq (fun K14 hK14 => ?_)
      refine JC.seq (fun K15 hK15 => ?_)
      apply JC.drawL 13 [Eqv (.slice (some ⟨qq, 0, none⟩) L.length cq), Eqv (.int .i64 ((k : Nat) : Int)), Eqv (.pointer (some ⟨qq, 0 + (k : Int).toNat * 16, none⟩)), Eqv (.agg (cI y).toArray), Eqv (.agg (cI self).toArray), Eqv (.agg (cI (subI y self)).toArray), Eqv (.slice (some ⟨qq, 0, none⟩) L.length cq), Eqv (.int .i64 ((i : Nat) : Int)), Eqv (.pointer (some ⟨qq, 0 + (i : Int).toNat * 16, none⟩)), Eqv (.agg (cI x).toArray), Eqv (.agg (cI self).toArray), Eqv (.agg (cI (subI x self)).toArray), Eqv (.bool (decide (dI self y < dI self x)))] Ty.mixed rfl rfl rfl (by kernel_rfl) rfl rfl (fun w w' hw hb => hw.step hb) ⟨fun _ _ _ h _ => h, fun _ _ _ h _ => h, fun _ _ _ h _ => h, fun _ _ _ h _ => h, fun _ _ _ h _ => h, fun _ _ _ h _ => h, fun _ _ _ h _ => h, fun _ _ _ h _ => h, fun _ _ _ h _ => h, fun _ _ _ h _ => h, fun _ _ _ h _ => h, fun _ _ _ h _ => h, fun _ _ _ h _ => h, trivial⟩ ?hstep ?htail
      case hstep =>
        refine ⟨fun wi => ?_, fun wi => ?_, fun wi => ?_, fun wi => ?_, fun wi => ?_, fun wi => ?_, fun wi => ?_, fun wi => ?_, fun wi => ?_, fun wi => ?_, fun wi => ?_, fun wi => ?_, fun wi => ?_, trivial⟩
        · skip
          refine Fin.nil ?_
          refine J.move rfl rfl ?_
          exact J.finP rfl
        · skip
          refine Fin.nil ?_
          refine J.move rfl rfl ?_
          exact J.finP rfl
        · skip
          refine Fin.consE rfl (Fin.consE rfl (Fin.nil ?_))
          refine J.indexAddrS Ty.el39 Ty.s24 rfl rfl (by omega) (by omega) rfl ?_
          exact J.finP rfl
        · skip
          refine Fin.consE rfl (Fin.nil ?_)
          refine J.loadA (vs := cI y) Ty.a24 Ty.s24 rfl rfl (fun w1 hw => rowF_at (o := 0) (hvs.row (S := []) (l := lp ++ [(b3, cb (cI self) 24)]) (hw.2.perm (by (refine perm_cnt (fun _ => ?_)); simp only [cntB_append, cntB_cons, cntB_nil, Nat.add_zero, Nat.zero_add]; try ac_rfl))) hy (by omega)) rfl ?_
          exact J.finP rfl
        · skip
          refine Fin.nil ?_
          refine J.loadA (vs := cI self) Ty.a24 Ty.s24 rfl rfl (fun w1 hw => Cells.of_block (hw.2.own _ (List.mem_append_right _ (.head _))) rfl) rfl ?_
          exact J.finP rfl
        · skip
          refine Fin.consE rfl (Fin.consE rfl (Fin.nil ?_))
          refine J.callD (v := .agg (cI (subI y self)).toArray) Ty.bd45 rfl rfl (fun w1 hw => rsub_spec y self w1) ?_
          exact J.finQ rfl
        · skip
          refine Fin.nil ?_
          refine J.move rfl rfl ?_
          exact J.finP rfl
        · skip
          refine Fin.nil ?_
          refine J.move rfl rfl ?_
          exact J.finP rfl
        · skip
          refine Fin.consE rfl (Fin.consE rfl (Fin.nil ?_))
          refine J.indexAddrS Ty.el39 Ty.s24 rfl rfl (by omega) (by omega) rfl ?_
          exact J.finP rfl
        · skip
          refine Fin.consE rfl (Fin.nil ?_)
          refine J.loadA (vs := cI x) Ty.a24 Ty.s24 rfl rfl (fun w1 hw => rowF_at (o := 0) (hvs.row (S := []) (l := lp ++ [(b3, cb (cI self) 24)]) (hw.2.perm (by (refine perm_cnt (fun _ => ?_)); simp only [cntB_append, cntB_cons, cntB_nil, Nat.add_zero, Nat.zero_add]; try ac_rfl))) hx (by omega)) rfl ?_
          exact J.finP rfl
        · skip
          refine Fin.nil ?_
          refine J.loadA (vs := cI self) Ty.a24 Ty.s24 rfl rfl (fun w1 hw => Cells.of_block (hw.2.own _ (List.mem_append_right _ (.head _))) rfl) rfl ?_
          exact J.finP rfl
        · skip
          refine Fin.consE rfl (Fin.consE rfl (Fin.consE rfl (Fin.nil ?_)))
          refine J.callD (v := .agg (cI (subI x self)).toArray) Ty.bd45 rfl rfl (fun w1 hw => rsub_spec x self w1) ?_
          exact J.finQ rfl
        · skip
          refine Fin.consE rfl (Fin.consE rfl (Fin.consE rfl (Fin.nil ?_)))
          refine J.callD (v := .bool (decide (dI self y < dI self x))) Ty.bd44 rfl rfl (fun w1 hw => less_spec (subI y self) (subI x self) w1) ?_
          exact J.finQ rfl
      case htail =>
        refine Fin.consE rfl (Fin.consE rfl (Fin.consE rfl (Fin.consE rfl (Fin.consE rfl (Fin.consE rfl (Fin.consE rfl (Fin.consE rfl (Fin.consE rfl (Fin.consE rfl (Fin.consE rfl (Fin.consE rfl (Fin.consE rfl (Fin.nil ?_)))))))))))))
        refine J.nil ?_
        refine JX.thenN (hK15 _ _ ?_)
        refine JC.cond rfl (fun h2 => ?_) (fun h2 => ?_)
        · skip
          have hd2 : dI self y < dI self x := by simpa using h2
          refine JC.region ?_
          refine J.move rfl rfl ?_
          (first | refine J.addN rfl rfl (by omega) (by omega) rfl ?_ | refine J.bin rfl rfl rfl rfl ?_)
          refine J.assign rfl rfl ?_
          refine J.nil ?_
          refine JX.thenN (hK14 _ _ ?_)
          refine JC.seq (fun K16 hK16 => ?_)
          apply JC.drawL 13 [Eqv (.agg (cI self).toArray), Eqv (.slice (some ⟨qq, 0, none⟩) L.length cq), Eqv (.int .i64 ((k : Nat) : Int)), Eqv (.pointer (some ⟨qq, 0 + (k : Int).toNat * 16, none⟩)), Eqv (.agg (cI y).toArray), Eqv (.agg (cI (subI self y)).toArray), Eqv (.agg (cI self).toArray), Eqv (.slice (some ⟨qq, 0, none⟩) L.length cq), Eqv (.int .i64 ((i : Nat) : Int)), Eqv (.pointer (some ⟨qq, 0 + (i : Int).toNat * 16, none⟩)), Eqv (.agg (cI x).toArray), Eqv (.agg (cI (subI self x)).toArray), Eqv (.bool (decide (eI self y < eI self x)))] Ty.mixed rfl rfl rfl (by kernel_rfl) rfl rfl (fun w w' hw hb => hw.step hb) ⟨fun _ _ _ h _ => h, fun _ _ _ h _ => h, fun _ _ _ h _ => h, fun _ _ _ h _ => h, fun _ _ _ h _ => h, fun _ _ _ h _ => h, fun _ _ _ h _ => h, fun _ _ _ h _ => h, fun _ _ _ h _ => h, fun _ _ _ h _ => h, fun _ _ _ h _ => h, fun _ _ _ h _ => h, fun _ _ _ h _ => h, trivial⟩ ?hstep ?htail
          case hstep =>
            refine ⟨fun wi => ?_, fun wi => ?_, fun wi => ?_, fun wi => ?_, fun wi => ?_, fun wi => ?_, fun wi => ?_, fun wi => ?_, fun wi => ?_, fun wi => ?_, fun wi => ?_, fun wi => ?_, fun wi => ?_, trivial⟩
            · skip
              refine Fin.nil ?_
              refine J.loadA (vs := cI self) Ty.a24 Ty.s24 rfl rfl (fun w1 hw => Cells.of_block (hw.2.own _ (List.mem_append_right _ (.head _))) rfl) rfl ?_
              exact J.finP rfl
            · skip
              refine Fin.nil ?_
              refine J.move rfl rfl ?_
              exact J.finP rfl
            · skip
              refine Fin.nil ?_
              refine J.move rfl rfl ?_
              exact J.finP rfl
            · skip
              refine Fin.consE rfl (Fin.consE rfl (Fin.nil ?_))
              refine J.indexAddrS Ty.el39 Ty.s24 rfl rfl (by omega) (by omega) rfl ?_
              exact J.finP rfl
            · skip
              refine Fin.consE rfl (Fin.nil ?_)
              refine J.loadA (vs := cI y) Ty.a24 Ty.s24 rfl rfl (fun w1 hw => rowF_at (o := 0) (hvs.row (S := []) (l := lp ++ [(b3, cb (cI self) 24)]) (hw.2.perm (by (refine perm_cnt (fun _ => ?_)); simp only [cntB_append, cntB_cons, cntB_nil, Nat.add_zero, Nat.zero_add]; try ac_rfl))) hy (by omega)) rfl ?_
              exact J.finP rfl
            · skip
              refine Fin.consE rfl (Fin.consE rfl (Fin.nil ?_))
              refine J.callD (v := .agg (cI (subI self y)).toArray) Ty.bd45 rfl rfl (fun w1 hw => rsub_spec self y w1) ?_
              exact J.finQ rfl
            · skip
              refine Fin.nil ?_
              refine J.loadA (vs := cI self) Ty.a24 Ty.s24 rfl rfl (fun w1 hw => Cells.of_block (hw.2.own _ (List.mem_append_right _ (.head _))) rfl) rfl ?_
              exact J.finP rfl
            · skip
              refine Fin.nil ?_
              refine J.move rfl rfl ?_
              exact J.finP rfl
            · skip
              refine Fin.nil ?_
              refine J.move rfl rfl ?_
              exact J.finP rfl
            · skip
              refine Fin.consE rfl (Fin.consE rfl (Fin.nil ?_))
              refine J.indexAddrS Ty.el39 Ty.s24 rfl rfl (by omega) (by omega) rfl ?_
              exact J.finP rfl
            · skip
              refine Fin.consE rfl (Fin.nil ?_)
              refine J.loadA (vs := cI x) Ty.a24 Ty.s24 rfl rfl (fun w1 hw => rowF_at (o := 0) (hvs.row (S := []) (l := lp ++ [(b3, cb (cI self) 24)]) (hw.2.perm (by (refine perm_cnt (fun _ => ?_)); simp only [cntB_append, cntB_cons, cntB_nil, Nat.add_zero, Nat.zero_add]; try ac_rfl))) hx (by omega)) rfl ?_
              exact J.finP rfl
            · skip
              refine Fin.consE rfl (Fin.consE rfl (Fin.consE rfl (Fin.nil ?_)))
              refine J.callD (v := .agg (cI (subI self x)).toArray) Ty.bd45 rfl rfl (fun w1 hw => rsub_spec self x w1) ?_
              exact J.finQ rfl
            · skip
              refine Fin.consE rfl (Fin.consE rfl (Fin.consE rfl (Fin.nil ?_)))
              refine J.callD (v := .bool (decide (eI self y < eI self x))) Ty.bd44 rfl rfl (fun w1 hw => less_spec (subI self y) (subI self x) w1) ?_
              exact J.finQ rfl
          case htail =>
            refine Fin.consE rfl (Fin.consE rfl (Fin.consE rfl (Fin.consE rfl (Fin.consE rfl (Fin.consE rfl (Fin.consE rfl (Fin.consE rfl (Fin.consE rfl (Fin.consE rfl (Fin.consE rfl (Fin.consE rfl (Fin.consE rfl (Fin.nil ?_)))))))))))))
            refine J.nil ?_
            refine JX.thenN (hK16 _ _ ?_)
            refine JC.cond rfl (fun h3 => ?_) (fun h3 => ?_)
            · skip
              have hd3 : eI self y < eI self x := by simpa using h3
              refine JC.region ?_
              refine J.move rfl rfl ?_
              (first | refine J.addN rfl rfl (by omega) (by omega) rfl ?_ | refine J.bin rfl rfl rfl rfl ?_)
              refine J.assign rfl rfl ?_
              refine J.nil ?_
              refine JX.blockN ?_
              refine JX.thenN (hK13 _ _ ?_)
              refine JC.region ?_
              refine J.move rfl rfl ?_
              (first | refine J.addN rfl rfl (by omega) (by omega) rfl ?_ | refine J.bin rfl rfl rfl rfl ?_)
              refine J.assign rfl rfl ?_
              refine J.nil ?_
              refine JX.thenN ?_
              refine JX.again (⟨k + 1, r + 1, l + 1⟩ : WK) ?_ ?_ ?_
              · simp only; omega
              · exact ⟨rfl, rfl, rfl, rfl, rfl, rfl, rfl, rfl, trivial⟩
              · exact fun w1 hw => ⟨⟨hkt, by show r + 1 = _; rw [countP_step hy, ← hr1, if_pos (by simpa using hd2)], by show l + 1 = _; rw [countP_step hy, ← hl1, if_pos (by simpa using hd3)]⟩, hw⟩
            · skip
              have hd3 : ¬ eI self y < eI self x := by simpa using h3
              refine JC.skip ?_
              refine JX.blockN ?_
              refine JX.thenN (hK13 _ _ ?_)
              refine JC.region ?_
              refine J.move rfl rfl ?_
              (first | refine J.addN rfl rfl (by omega) (by omega) rfl ?_ | refine J.bin rfl rfl rfl rfl ?_)
              refine J.assign rfl rfl ?_
              refine J.nil ?_
              refine JX.thenN ?_
              refine JX.again (⟨k + 1, r + 1, l⟩ : WK) ?_ ?_ ?_
              · simp only; omega
              · exact ⟨rfl, rfl, rfl, rfl, rfl, rfl, rfl, rfl, trivial⟩
              · exact fun w1 hw => ⟨⟨hkt, by show r + 1 = _; rw [countP_step hy, ← hr1, if_pos (by simpa using hd2)], by show l = _; rw [countP_step hy, ← hl1, if_neg (by simpa using hd3), Nat.add_zero]⟩, hw⟩
        · skip
          have hd2 : ¬ dI self y < dI self x := by simpa using h2
          refine JC.skip ?_
          refine JX.thenN (hK14 _ _ ?_)
          refine JC.seq (fun K17 hK17 => ?_)
          apply JC.drawL 13 [Eqv (.agg (cI self).toArray), Eqv (.slice (some ⟨qq, 0, none⟩) L.length cq), Eqv (.int .i64 ((k : Nat) : Int)), Eqv (.pointer (some ⟨qq, 0 + (k : Int).toNat * 16, none⟩)), Eqv (.agg (cI y).toArray), Eqv (.agg (cI (subI self y)).toArray), Eqv (.agg (cI self).toArray), Eqv (.slice (some ⟨qq, 0, none⟩) L.length cq), Eqv (.int .i64 ((i : Nat) : Int)), Eqv (.pointer (some ⟨qq, 0 + (i : Int).toNat * 16, none⟩)), Eqv (.agg (cI x).toArray), Eqv (.agg (cI (subI self x)).toArray), Eqv (.bool (decide (eI self y < eI self x)))] Ty.mixed rfl rfl rfl (by kernel_rfl) rfl rfl (fun w w' hw hb => hw.step hb) ⟨fun _ _ _ h _ => h, fun _ _ _ h _ => h, fun _ _ _ h _ => h, fun _ _ _ h _ => h, fun _ _ _ h _ => h, fun _ _ _ h _ => h, fun _ _ _ h _ => h, fun _ _ _ h _ => h, fun _ _ _ h _ => h, fun _ _ _ h _ => h, fun _ _ _ h _ => h, fun _ _ _ h _ => h, fun _ _ _ h _ => h, trivial⟩ ?hstep ?htail
          case hstep =>
            refine ⟨fun wi => ?_, fun wi => ?_, fun wi => ?_, fun wi => ?_, fun wi => ?_, fun wi => ?_, fun wi => ?_, fun wi => ?_, fun wi => ?_, fun wi => ?_, fun wi => ?_, fun wi => ?_, fun wi => ?_, trivial⟩
            · skip
              refine Fin.nil ?_
              refine J.loadA (vs := cI self) Ty.a24 Ty.s24 rfl rfl (fun w1 hw => Cells.of_block (hw.2.own _ (List.mem_append_right _ (.head _))) rfl) rfl ?_
              exact J.finP rfl
            · skip
              refine Fin.nil ?_
              refine J.move rfl rfl ?_
              exact J.finP rfl
            · skip
              refine Fin.nil ?_
              refine J.move rfl rfl ?_
              exact J.finP rfl
            · skip
              refine Fin.consE rfl (Fin.consE rfl (Fin.nil ?_))
              refine J.indexAddrS Ty.el39 Ty.s24 rfl rfl (by omega) (by omega) rfl ?_
              exact J.finP rfl
            · skip
              refine Fin.consE rfl (Fin.nil ?_)
              refine J.loadA (vs := cI y) Ty.a24 Ty.s24 rfl rfl (fun w1 hw => rowF_at (o := 0) (hvs.row (S := []) (l := lp ++ [(b3, cb (cI self) 24)]) (hw.2.perm (by (refine perm_cnt (fun _ => ?_)); simp only [cntB_append, cntB_cons, cntB_nil, Nat.add_zero, Nat.zero_add]; try ac_rfl))) hy (by omega)) rfl ?_
              exact J.finP rfl
            · skip
              refine Fin.consE rfl (Fin.consE rfl (Fin.nil ?_))
              refine J.callD (v := .agg (cI (subI self y)).toArray) Ty.bd45 rfl rfl (fun w1 hw => rsub_spec self y w1) ?_
              exact J.finQ rfl
            · skip
              refine Fin.nil ?_
              refine J.loadA (vs := cI self) Ty.a24 Ty.s24 rfl rfl (fun w1 hw => Cells.of_block (hw.2.own _ (List.mem_append_right _ (.head _))) rfl) rfl ?_
              exact J.finP rfl
            · skip
              refine Fin.nil ?_
              refine J.move rfl rfl ?_
              exact J.finP rfl
            · skip
              refine Fin.nil ?_
              refine J.move rfl rfl ?_
              exact J.finP rfl
            · skip
              refine Fin.consE rfl (Fin.consE rfl (Fin.nil ?_))
              refine J.indexAddrS Ty.el39 Ty.s24 rfl rfl (by omega) (by omega) rfl ?_
              exact J.finP rfl
            · skip
              refine Fin.consE rfl (Fin.nil ?_)
              refine J.loadA (vs := cI x) Ty.a24 Ty.s24 rfl rfl (fun w1 hw => rowF_at (o := 0) (hvs.row (S := []) (l := lp ++ [(b3, cb (cI self) 24)]) (hw.2.perm (by (refine perm_cnt (fun _ => ?_)); simp only [cntB_append, cntB_cons, cntB_nil, Nat.add_zero, Nat.zero_add]; try ac_rfl))) hx (by omega)) rfl ?_
              exact J.finP rfl
            · skip
              refine Fin.consE rfl (Fin.consE rfl (Fin.consE rfl (Fin.nil ?_)))
              refine J.callD (v := .agg (cI (subI self x)).toArray) Ty.bd45 rfl rfl (fun w1 hw => rsub_spec self x w1) ?_
              exact J.finQ rfl
            · skip
              refine Fin.consE rfl (Fin.consE rfl (Fin.consE rfl (Fin.nil ?_)))
              refine J.callD (v := .bool (decide (eI self y < eI self x))) Ty.bd44 rfl rfl (fun w1 hw => less_spec (subI self y) (subI self x) w1) ?_
              exact J.finQ rfl
          case htail =>
            refine Fin.consE rfl (Fin.consE rfl (Fin.consE rfl (Fin.consE rfl (Fin.consE rfl (Fin.consE rfl (Fin.consE rfl (Fin.consE rfl (Fin.consE rfl (Fin.consE rfl (Fin.consE rfl (Fin.consE rfl (Fin.consE rfl (Fin.nil ?_)))))))))))))
            refine J.nil ?_
            refine JX.thenN (hK17 _ _ ?_)
            refine JC.cond rfl (fun h3 => ?_) (fun h3 => ?_)
            · skip
              have hd3 : eI self y < eI self x := by simpa using h3
              refine JC.region ?_
              refine J.move rfl rfl ?_
              (first | refine J.addN rfl rfl (by omega) (by omega) rfl ?_ | refine J.bin rfl rfl rfl rfl ?_)
              refine J.assign rfl rfl ?_
              refine J.nil ?_
              refine JX.blockN ?_
              refine JX.thenN (hK13 _ _ ?_)
              refine JC.region ?_
              refine J.move rfl rfl ?_
              (first | refine J.addN rfl rfl (by omega) (by omega) rfl ?_ | refine J.bin rfl rfl rfl rfl ?_)
              refine J.assign rfl rfl ?_
              refine J.nil ?_
              refine JX.thenN ?_
              refine JX.again (⟨k + 1, r, l + 1⟩ : WK) ?_ ?_ ?_
              · simp only; omega
              · exact ⟨rfl, rfl, rfl, rfl, rfl, rfl, rfl, rfl, trivial⟩
              · exact fun w1 hw => ⟨⟨hkt, by show r = _; rw [countP_step hy, ← hr1, if_neg (by simpa using hd2), Nat.add_zero], by show l + 1 = _; rw [countP_step hy, ← hl1, if_pos (by simpa using hd3)]⟩, hw⟩
            · skip
              have hd3 : ¬ eI self y < eI self x := by simpa using h3
              refine JC.skip ?_
              refine JX.blockN ?_
              refine JX.thenN (hK13 _ _ ?_)
              refine JC.region ?_
              refine J.move rfl rfl ?_
              (first | refine J.addN rfl rfl (by omega) (by omega) rfl ?_ | refine J.bin rfl rfl rfl rfl ?_)
              refine J.assign rfl rfl ?_
              refine J.nil ?_
              refine JX.thenN ?_
              refine JX.again (⟨k + 1, r, l⟩ : WK) ?_ ?_ ?_
              · simp only; omega
              · exact ⟨rfl, rfl, rfl, rfl, rfl, rfl, rfl, rfl, trivial⟩
              · exact fun w1 hw => ⟨⟨hkt, by show r = _; rw [countP_step hy, ← hr1, if_neg (by simpa using hd2), Nat.add_zero], by show l = _; rw [countP_step hy, ← hl1, if_neg (by simpa using hd3), Nat.add_zero]⟩, hw⟩
    · skip
      have hkl : k = L.length := by simp at h1; omega
      have hri : rI self L x = r := by rw [hr1, hkl, List.take_of_length_le (Nat.le_refl _)]; rfl
      have hli : lftI self L x = l := by rw [hl1, hkl, List.take_of_length_le (Nat.le_refl _)]; rfl
      refine JC.exit ?_
      refine JX.thenE ?_
      refine JX.thenE ?_
      refine JX.blockE ?_
      refine JX.thenN (hK9 _ _ ?_)
      refine JC.seq (fun K18 hK18 => ?_)
      refine JC.region ?_
      refine J.move rfl rfl ?_
      refine J.move rfl rfl ?_
      refine J.bin rfl rfl rfl rfl ?_
      refine J.move rfl rfl ?_
      refine J.split 61 rfl (fun hs61 => ?_) (fun hs61 => ?_)
      · skip
        try simp only [decide_eq_true_eq, decide_eq_false_iff_not, beq_iff_eq, bne_iff_ne, bne_eq_false_iff_eq, ne_eq, beq_eq_false_iff_ne, Bool.not_eq_true, Bool.not_eq_false, Int.not_lt, Int.not_le] at hs61
        first
        | exact absurd hs61 (by decide)
        | skip
          first | refine J.skip rfl rfl rfl rfl rfl ?_ | refine J.skipU rfl rfl rfl rfl ?_ | (refine J.unguard rfl rfl rfl ?_; refine J.move rfl rfl ?_)
          first | refine J.skip rfl rfl rfl rfl rfl ?_ | refine J.skipU rfl rfl rfl rfl ?_ | (refine J.unguard rfl rfl rfl ?_; refine J.move rfl rfl ?_)
          first | refine J.skip rfl rfl rfl rfl rfl ?_ | refine J.skipU rfl rfl rfl rfl ?_ | (refine J.unguard rfl rfl rfl ?_; refine J.bin rfl rfl rfl rfl ?_)
          (first | refine J.pickT rfl rfl rfl ?_ | refine J.pickF rfl rfl rfl ?_)
          refine J.nil ?_
          refine JX.thenN (hK18 _ _ ?_)
          first | refine JC.condT rfl ?_ | refine JC.cond rfl (fun _ => ?_) (fun h => by first | (exfalso; simp at h; omega) | (simp at h))
          refine JC.region ?_
          have hwp : wP self L half x = true := by
            first
              | assumption
              | (unfold wP; rw [hri, hli]; simp at hs61 ⊢; left; exact hs61)
          refine J.move rfl rfl ?_
          refine J.move rfl rfl ?_
          refine J.move rfl rfl ?_
          refine J.indexAddrS Ty.el39 Ty.s24 rfl rfl (by omega) (by omega) rfl ?_
          refine J.loadA (vs := cI x) Ty.a24 Ty.s24 rfl rfl (fun w1 hw => rowF_at (o := 0) (hvs.row (S := []) (l := lp ++ [(b3, cb (cI self) 24)]) (hw.perm (by (refine perm_cnt (fun _ => ?_)); simp only [cntB_append, cntB_cons, cntB_nil, Nat.add_zero, Nat.zero_add]; try ac_rfl))) hx (by omega)) rfl ?_
          refine J.buildSl (cs := cI x) Ty.el39 Ty.s24 Ty.zID rfl rfl rfl rfl (by kernel_rfl) rfl rfl (fun b71 => ?_)
          refine J.perm (lp ++ ((b71, cb (cI x) 24) :: (b3, cb (cI self) 24) :: [(qq, cb (fI L ++ spq) 24)])) (by (refine perm_cnt (fun _ => ?_)); simp only [cntB_append, cntB_cons, cntB_nil, Nat.add_zero, Nat.zero_add]; try ac_rfl) ?_
          refine J.append (lp := lp) (xs := fI out) (ys := fI [x]) (k := out.length) (m := 1) Ty.el39 Ty.s24 Ty.b24 Ty.zID rfl (.inl ⟨24, Ty.u39⟩) rfl rfl hvo (fun w1 hw => .inl (Row.own (cs := cI x) (tb := 24) (fr := (0, 0)) hw (List.mem_append_right _ (.head _)) rfl (Nat.le_refl _))) (fI_length _) (fun y hy => fI_one hy) (by omega) (by omega) rfl (fun v62 lp62 hv62 => ?_)
          rw [← fI_append] at hv62
          have hv62n : Vec 24 16 v62 (out ++ [x]).length (fI (out ++ [x])) lp62 := by rw [List.length_append]; exact hv62
          obtain ⟨a62, c62, rfl, hc62⟩ := hv62n.form
          refine J.assign rfl rfl ?_
          refine J.nil ?_
          refine JX.blockN ?_
          refine JX.thenN (hK7 _ _ ?_)
          refine JC.region ?_
          refine J.move rfl rfl ?_
          (first | refine J.addN rfl rfl (by omega) (by omega) rfl ?_ | refine J.bin rfl rfl rfl rfl ?_)
          refine J.assign rfl rfl ?_
          refine J.nil ?_
          refine JX.thenN ?_
          refine JX.again (⟨i + 1, (out ++ [x]), a62, c62, lp62⟩ : RS) ?_ ?_ ?_
          · simp only; omega
          · exact ⟨rfl, rfl, rfl, rfl, rfl, trivial⟩
          · exact fun w1 hw => ⟨⟨hlt, by rw [filter_step hx, ← ho, if_pos hwp], hv62n⟩, (hw.perm (l' := (lp62 ++ ((b3, cb (cI self) 24) :: [(qq, cb (fI L ++ spq) 24)])) ++ [(b71, cb (cI x) 24)]) (by (refine perm_cnt (fun _ => ?_)); simp only [cntB_append, cntB_cons, cntB_nil, Nat.add_zero, Nat.zero_add]; try ac_rfl)).drop (List.sublist_append_left _ _)⟩
      · skip
        try simp only [decide_eq_true_eq, decide_eq_false_iff_not, beq_iff_eq, bne_iff_ne, bne_eq_false_iff_eq, ne_eq, beq_eq_false_iff_ne, Bool.not_eq_true, Bool.not_eq_false, Int.not_lt, Int.not_le] at hs61
        first
        | exact absurd hs61 (by decide)
        | skip
          first | refine J.skip rfl rfl rfl rfl rfl ?_ | refine J.skipU rfl rfl rfl rfl ?_ | (refine J.unguard rfl rfl rfl ?_; refine J.move rfl rfl ?_)
          first | refine J.skip rfl rfl rfl rfl rfl ?_ | refine J.skipU rfl rfl rfl rfl ?_ | (refine J.unguard rfl rfl rfl ?_; refine J.move rfl rfl ?_)
          first | refine J.skip rfl rfl rfl rfl rfl ?_ | refine J.skipU rfl rfl rfl rfl ?_ | (refine J.unguard rfl rfl rfl ?_; refine J.bin rfl rfl rfl rfl ?_)
          (first | refine J.pickT rfl rfl rfl ?_ | refine J.pickF rfl rfl rfl ?_)
          refine J.nil ?_
          refine JX.thenN (hK18 _ _ ?_)
          refine JC.cond rfl (fun h4 => ?_) (fun h4 => ?_)
          · skip
            have hwp : wP self L half x = true := by unfold wP; rw [hri, hli]; simp at h4 ⊢; right; exact h4
            refine JC.region ?_
            have hwp : wP self L half x = true := by
              first
                | assumption
                | (unfold wP; rw [hri, hli]; simp at hs61 ⊢; left; exact hs61)
            refine J.move rfl rfl ?_
            refine J.move rfl rfl ?_
            refine J.move rfl rfl ?_
            refine J.indexAddrS Ty.el39 Ty.s24 rfl rfl (by omega) (by omega) rfl ?_
            refine J.loadA (vs := cI x) Ty.a24 Ty.s24 rfl rfl (fun w1 hw => rowF_at (o := 0) (hvs.row (S := []) (l := lp ++ [(b3, cb (cI self) 24)]) (hw.perm (by (refine perm_cnt (fun _ => ?_)); simp only [cntB_append, cntB_cons, cntB_nil, Nat.add_zero, Nat.zero_add]; try ac_rfl))) hx (by omega)) rfl ?_
            refine J.buildSl (cs := cI x) Ty.el39 Ty.s24 Ty.zID rfl rfl rfl rfl (by kernel_rfl) rfl rfl (fun b71 => ?_)
            refine J.perm (lp ++ ((b71, cb (cI x) 24) :: (b3, cb (cI self) 24) :: [(qq, cb (fI L ++ spq) 24)])) (by (refine perm_cnt (fun _ => ?_)); simp only [cntB_append, cntB_cons, cntB_nil, Nat.add_zero, Nat.zero_add]; try ac_rfl) ?_
            refine J.append (lp := lp) (xs := fI out) (ys := fI [x]) (k := out.length) (m := 1) Ty.el39 Ty.s24 Ty.b24 Ty.zID rfl (.inl ⟨24, Ty.u39⟩) rfl rfl hvo (fun w1 hw => .inl (Row.own (cs := cI x) (tb := 24) (fr := (0, 0)) hw (List.mem_append_right _ (.head _)) rfl (Nat.le_refl _))) (fI_length _) (fun y hy => fI_one hy) (by omega) (by omega) rfl (fun v62 lp62 hv62 => ?_)
            rw [← fI_append] at hv62
            have hv62n : Vec 24 16 v62 (out ++ [x]).length (fI (out ++ [x])) lp62 := by rw [List.length_append]; exact hv62
            obtain ⟨a62, c62, rfl, hc62⟩ := hv62n.form
            refine J.assign rfl rfl ?_
            refine J.nil ?_
            refine JX.blockN ?_
            refine JX.thenN (hK7 _ _ ?_)
            refine JC.region ?_
            refine J.move rfl rfl ?_
            (first | refine J.addN rfl rfl (by omega) (by omega) rfl ?_ | refine J.bin rfl rfl rfl rfl ?_)
            refine J.assign rfl rfl ?_
            refine J.nil ?_
            refine JX.thenN ?_
            refine JX.again (⟨i + 1, (out ++ [x]), a62, c62, lp62⟩ : RS) ?_ ?_ ?_
            · simp only; omega
            · exact ⟨rfl, rfl, rfl, rfl, rfl, trivial⟩
            · exact fun w1 hw => ⟨⟨hlt, by rw [filter_step hx, ← ho, if_pos hwp], hv62n⟩, (hw.perm (l' := (lp62 ++ ((b3, cb (cI self) 24) :: [(qq, cb (fI L ++ spq) 24)])) ++ [(b71, cb (cI x) 24)]) (by (refine perm_cnt (fun _ => ?_)); simp only [cntB_append, cntB_cons, cntB_nil, Nat.add_zero, Nat.zero_add]; try ac_rfl)).drop (List.sublist_append_left _ _)⟩
          · skip
            have hwp : ¬ wP self L half x = true := by unfold wP; rw [hri, hli]; simp at h4 hs61 ⊢; exact ⟨by omega, by omega⟩
            refine JC.skip ?_
            refine JX.blockN ?_
            refine JX.thenN (hK7 _ _ ?_)
            refine JC.region ?_
            refine J.move rfl rfl ?_
            (first | refine J.addN rfl rfl (by omega) (by omega) rfl ?_ | refine J.bin rfl rfl rfl rfl ?_)
            refine J.assign rfl rfl ?_
            refine J.nil ?_
            refine JX.thenN ?_
            refine JX.again (⟨i + 1, out, a, c, lp⟩ : RS) ?_ ?_ ?_
            · simp only; omega
            · exact ⟨rfl, rfl, rfl, rfl, rfl, trivial⟩
            · exact fun w1 hw => ⟨⟨hlt, by rw [filter_step hx, ← ho, if_neg hwp, List.append_nil], hvo⟩, hw⟩
  · skip
    have hge : i = L.length := by simp at h0; omega
    subst hge
    rw [List.take_of_length_le (Nat.le_refl _), ← hwe] at ho
    refine JC.exit ?_
    refine JX.thenE ?_
    refine JX.thenE ?_
    refine JX.blockE ?_
    refine JX.thenN (hK3 _ _ ?_)
    refine JC.seq (fun K19 hK19 => ?_)
    refine JC.region ?_
    refine J.move rfl rfl ?_
    refine J.assign rfl rfl ?_
    refine J.nil ?_
    refine JX.thenN (hK19 _ _ ?_)
    refine JC.ret ?_
    refine JX.ret1 rfl rfl (fun w hw => ?_)
    rw [ho] at hvo ⊢
    exact ⟨(_, lp), rfl, hvo, hw.drop (List.sublist_append_left _ _)⟩

end Go.Proofs.YtohldionclgljaaGreat
