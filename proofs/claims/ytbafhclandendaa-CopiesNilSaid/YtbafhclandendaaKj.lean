/-
  Clone, DeleteFunc, SortFunc and Compact at rows that are nil or not; ring.Sorted: contracts.
-/
import Derived.Test.YtbafhclandendaaKi
namespace Go.Proofs.Ytbafhclandendaa
open Go.J Go.RowKit
set_option linter.unusedVariables false
set_option linter.unusedSimpArgs false
set_option maxRecDepth 4000
theorem vecI {v : Value} {xs : List IDV} {lp : List (Nat × Obj)} (h : Vec 23 16 v xs.length (fI xs) lp) : (v = .slice none 0 0 ∧ xs = [] ∧ lp = []) ∨ ∃ b c sp, v = .slice (some ⟨b, 0, none⟩) xs.length c ∧ lp = [(b, cb (fI xs ++ sp) 23)] ∧ (fI xs ++ sp).length = c * 16 ∧ xs.length ≤ c := by
  rcases h.2 with ⟨h1, h2, h3⟩ | h
  · exact .inl ⟨h1, List.eq_nil_of_length_eq_zero h2, h3⟩
  · exact .inr h
theorem vecI_mk {xs : List IDV} {b c : Nat} {sp : List Value} (h1 : (fI xs ++ sp).length = c * 16) : Vec 23 16 (.slice (some ⟨b, 0, none⟩) xs.length c) xs.length (fI xs) [(b, cb (fI xs ++ sp) 23)] := by
  refine ⟨fI_length xs, .inr ⟨b, c, sp, rfl, rfl, h1, ?_⟩⟩
  rw [List.length_append, fI_length] at h1
  omega
theorem clone_spec (v : Value) (xs : List IDV) (w : World) (hr : Row w v xs.length (fI xs)) (hl : xs.length ≤ 8796093022208) :
    Calls Try.prog 48 [v].toArray w fun r w' => ∃ x : Value × List (Nat × Obj), r = .returned x.1 ∧ Vec 23 16 x.1 xs.length (fI xs) x.2 ∧ St w [] x.2 w' := by
  obtain ⟨a, c, rfl, hc, h⟩ := id hr
  cases a with
  | none =>
    have hx : fI xs = [] := by
      rcases h with h | ⟨b, o, h, _⟩
      · exact h
      · cases h
    have hx0 : xs.length = 0 := by have := fI_length xs; rw [hx] at this; simp at this; omega
    have hx1 := List.eq_nil_of_length_eq_zero hx0
    subst hx1
    refine (clone_nil _ c w).mono fun r w' ⟨h1, h2⟩ => ⟨(.slice none 0 0, []), h1, Vec.nil _ _, (St.start w).step h2⟩
  | some a => exact (clone_some a c xs w hr hl).mono fun r w' ⟨x, h1, h2, h3⟩ => ⟨x, h1, h2.2, h3⟩

theorem deleteFunc_nil (s : Nat) (self : IDV) (w : World) (hw0 : Own w [(s, cb (cI self) 23)]) :
    Calls Try.prog 62 [.slice none 0 0, .func (.func 63) #[] #[.pointer (some ⟨s, 0, none⟩)]].toArray w fun r w' => r = .returned (.slice none 0 0) ∧ Bel w w' := by
  refine calls_of_J (args := [.slice none 0 0, .func (.func 63) #[] #[.pointer (some ⟨s, 0, none⟩)]]) (e := [(0, .slice none 0 0), (1, .func (.func 63) #[] #[.pointer (some ⟨s, 0, none⟩)])]) Try.func62 rfl rfl ⟨rfl, rfl, trivial⟩ (hw0.st) ?_
  refine JC.seq (fun K0 hK0 => ?_)
  refine JC.region ?_
  refine J.assign rfl rfl ?_
  refine J.nil ?_
  refine JX.thenN (hK0 _ _ ?_)
  refine JC.seq (fun K1 hK1 => ?_)
  refine JC.region ?_
  refine J.move rfl rfl ?_
  refine J.move rfl rfl ?_
  refine J.callB (v := .int .i64 (placeI [] self)) (fun w1 w2 hw hb => hw.step hb) Ty.bd77 rfl rfl (fun w1 hw => indexFunc_spec _ [] s self w1 hw.owns' (Vec.nil 23 16 |>.row (l := []) (w0 := w1) (S := []) (St.start w1)) (.inl rfl) (by decide)) ?_
  refine J.assign rfl rfl ?_
  refine J.nil ?_
  refine JX.thenN (hK1 _ _ ?_)
  refine JC.seq (fun K2 hK2 => ?_)
  refine JC.seq (fun K3 hK3 => ?_)
  refine JC.region ?_
  refine J.move rfl rfl ?_
  refine J.bin rfl rfl rfl rfl ?_
  refine J.nil ?_
  refine JX.thenN (hK3 _ _ ?_)
  first | refine JC.condT rfl ?_ | refine JC.cond rfl (fun _ => ?_) (fun h => by first | (exfalso; simp at h; omega) | (simp at h))
  refine JC.seq (fun K4 hK4 => ?_)
  refine JC.region ?_
  refine J.move rfl rfl ?_
  refine J.assign rfl rfl ?_
  refine J.nil ?_
  refine JX.thenN (hK4 _ _ ?_)
  refine JC.ret ?_
  refine JX.thenR ?_
  refine JX.ret1 rfl rfl (fun w hw => ?_)
  exact ⟨rfl, hw.same hw0 (fun p hp => by simp at hp ⊢; subst hp; simp)⟩

theorem compact_nil (w : World) :
    Calls Try.prog 66 [.slice none 0 0].toArray w fun r w' => r = .returned (.slice none 0 0) ∧ Bel w w' := by
  refine calls_of_J (args := [.slice none 0 0]) (e := [(0, .slice none 0 0)]) Try.func66 rfl rfl ⟨rfl, trivial⟩ (St.start w) ?_
  refine JC.seq (fun K0 hK0 => ?_)
  refine JC.region ?_
  refine J.assign rfl rfl ?_
  refine J.nil ?_
  refine JX.thenN (hK0 _ _ ?_)
  refine JC.seq (fun K1 hK1 => ?_)
  refine JC.seq (fun K2 hK2 => ?_)
  refine JC.region ?_
  refine J.move rfl rfl ?_
  refine J.lenS rfl Ty.u24 rfl rfl ?_
  refine J.bin rfl rfl rfl rfl ?_
  refine J.nil ?_
  refine JX.thenN (hK2 _ _ ?_)
  first | refine JC.condT rfl ?_ | refine JC.cond rfl (fun _ => ?_) (fun h => by first | (exfalso; simp at h; omega) | (simp at h))
  refine JC.seq (fun K3 hK3 => ?_)
  refine JC.region ?_
  refine J.move rfl rfl ?_
  refine J.assign rfl rfl ?_
  refine J.nil ?_
  refine JX.thenN (hK3 _ _ ?_)
  refine JC.ret ?_
  refine JX.thenR ?_
  refine JX.ret1 rfl rfl (fun w hw => ?_)
  exact ⟨rfl, hw.below⟩


theorem deleteFunc_vec (v : Value) (xs : List IDV) (lp : List (Nat × Obj)) (s : Nat) (self : IDV) (w : World) (hv : Vec 23 16 v (xs).length (fI (xs)) lp) (hw0 : Own w (lp ++ [(s, cb (cI self) 23)])) (hl : xs.length < 4611686018427387904) :
    Calls Try.prog 62 [v, .func (.func 63) #[] #[.pointer (some ⟨s, 0, none⟩)]].toArray w fun r w' => ∃ x : Value × List (Nat × Obj), r = .returned x.1 ∧ Vec 23 16 x.1 (delI xs self).length (fI (delI xs self)) x.2 ∧ St w ((lp ++ [(s, cb (cI self) 23)]).map (·.1)) (x.2 ++ [(s, cb (cI self) 23)]) w' := by
  rcases vecI hv with ⟨rfl, rfl, rfl⟩ | ⟨b, c, sp, rfl, rfl, h1, h2⟩
  · exact (deleteFunc_nil s self w hw0).mono fun r w' ⟨h1, h2⟩ => ⟨(.slice none 0 0, []), h1, Vec.nil _ _, hw0.keep h2⟩
  · exact (deleteFunc_spec b s c xs sp self w hw0 h2 h1 hl).mono fun r w' ⟨sp', h3, h4, h5⟩ => ⟨(_, [_]), h3, vecI_mk h4, h5⟩
theorem sort_vec (g : Nat) (cbv : Array Value) (f : IDV → Nat) (hf : ∀ a b, f a = f b → a = b) (hg : bodyT Try.prog g = true) (v : Value) (xs : List IDV) (lp l : List (Nat × Obj)) (w : World) (hv : Vec 23 16 v (xs).length (fI (xs)) lp) (hw0 : Own w (lp ++ l)) (hlen : xs.length < 4611686018427387904)
    (hc : ∀ (a b : IDV) (W : World), Own W l → Calls Try.prog g (#[.agg (cI a).toArray, .agg (cI b).toArray] ++ cbv) W fun r W' => r = .returned (.int .i64 (cfN f a b)) ∧ Bel W W') :
    Calls Try.prog 64 [v, .func (.func g) #[] cbv].toArray w fun r w' => ∃ x : List IDV × List (Nat × Obj), r = .returned (.tuple #[]) ∧ (x.1.Perm xs ∧ x.1.Pairwise (fun a b => f a ≤ f b) ∧ Vec 23 16 v x.1.length (fI x.1) x.2) ∧ St w (lp.map (·.1)) x.2 w' := by
  rcases vecI hv with ⟨rfl, rfl, rfl⟩ | ⟨b, c, sp, rfl, rfl, h1, h2⟩
  · exact (AnyF.slices_SortFunc_none Try.sortI none 0 _ w).mono fun r w' ⟨h1, h2⟩ => ⟨([], []), h1, ⟨.refl _, .nil, Vec.nil _ _⟩, by rw [h2]; exact St.start w⟩
  · refine (sort_spec g cbv f hf hg b xs sp c l w hw0 hlen hc).mono fun r w' ⟨ys, h3, h4, h5⟩ => ?_
    have hl := h4.1.length_eq
    refine ⟨(ys, [_]), h3, ⟨h4.1, h4.2, ?_⟩, h5⟩
    have := vecI_mk (xs := ys) (b := b) (c := c) (sp := sp) (by rw [List.length_append, fI_length, hl, ← fI_length, ← List.length_append]; exact h1)
    rw [hl] at this ⊢
    exact this
theorem compact_vec (v : Value) (xs : List IDV) (lp : List (Nat × Obj)) (w : World) (hv : Vec 23 16 v (xs).length (fI (xs)) lp) (hw0 : Own w lp) (hl : xs.length < 4611686018427387904) :
    Calls Try.prog 66 [v].toArray w fun r w' => ∃ x : Value × List (Nat × Obj), r = .returned x.1 ∧ Vec 23 16 x.1 (dedI xs).length (fI (dedI xs)) x.2 ∧ St w (lp.map (·.1)) x.2 w' := by
  rcases vecI hv with ⟨rfl, rfl, rfl⟩ | ⟨b, c, sp, rfl, rfl, h1, h2⟩
  · exact (compact_nil w).mono fun r w' ⟨h1, h2⟩ => ⟨(.slice none 0 0, []), h1, Vec.nil _ _, (St.start w).step h2⟩
  · exact (compact_spec b c xs sp w hw0 h2 h1 hl).mono fun r w' ⟨sp', h3, h4, h5⟩ => ⟨(_, [_]), h3, vecI_mk h4, h5⟩
theorem cmpI_cfN (a b : IDV) : cmpI a b = cfN valI a b := rfl

theorem sorted_spec (self : IDV) (v : Value) (xs : List IDV) (w : World) (hr : Row w v xs.length (fI xs)) (hl : xs.length ≤ 8796093022208) :
    Calls Try.prog 43 [.agg (cI self).toArray, v].toArray w fun r w' => ∃ x : Value × List (Nat × Obj), r = .returned x.1 ∧ Vec 23 16 x.1 (sortI xs self).length (fI (sortI xs self)) x.2 ∧ St w [] x.2 w' := by
  refine calls_of_J (args := [.agg (cI self).toArray, v]) (e := [(0, .agg (cI self).toArray), (1, v)]) Try.func43 rfl rfl ⟨rfl, rfl, trivial⟩ (St.start w) ?_
  refine JC.seq (fun K0 hK0 => ?_)
  refine JC.region ?_
  refine J.box rfl rfl rfl (fun b2 => ?_)
  refine J.assign rfl rfl ?_
  refine J.nil ?_
  refine JX.thenN (hK0 _ _ ?_)
  refine JC.seq (fun K1 hK1 => ?_)
  refine JC.region ?_
  refine J.move rfl rfl ?_
  refine J.callS (α := Value × List (Nat × Obj)) (V := (·.1)) (Pr := fun x => Vec 23 16 x.1 (xs).length (fI (xs)) x.2) (L := (·.2)) (l1 := []) (l := [(b2, cb (cI self) 23)]) Ty.bd48 rfl rfl (fun w1 hw => clone_spec v xs w1 (hr.st (.inr (by simp)) hw) hl) (fun x hx => ?_)
  obtain ⟨vc, lc⟩ := x
  simp only at hx ⊢
  refine J.makeFn rfl rfl ?_
  refine J.perm ((lc ++ [(b2, cb (cI self) 23)]) ++ []) (by simp) ?_
  refine J.callS (α := Value × List (Nat × Obj)) (V := (·.1)) (Pr := fun x => Vec 23 16 x.1 (delI xs self).length (fI (delI xs self)) x.2) (L := fun x => x.2 ++ [(b2, cb (cI self) 23)]) (l1 := lc ++ [(b2, cb (cI self) 23)]) (l := []) Ty.bd62 rfl rfl (fun w1 hw => deleteFunc_vec vc xs lc b2 self w1 hx hw.owns (by omega)) (fun x hd => ?_)
  obtain ⟨vd, ld⟩ := x
  simp only at hd ⊢
  refine J.perm (ld ++ [(b2, cb (cI self) 23)]) (by simp) ?_
  refine J.assign rfl rfl ?_
  refine J.nil ?_
  refine JX.thenN (hK1 _ _ ?_)
  refine JC.seq (fun K2 hK2 => ?_)
  refine JC.region ?_
  refine J.move rfl rfl ?_
  have hdl := delI_le xs self
  refine J.callS (α := List IDV × List (Nat × Obj)) (V := fun _ => .tuple #[]) (Pr := fun x => x.1.Perm (delI xs self) ∧ x.1.Pairwise (fun a b => valI a ≤ valI b) ∧ Vec 23 16 vd x.1.length (fI x.1) x.2) (L := (·.2)) (l1 := ld) (l := [(b2, cb (cI self) 23)]) Ty.bd64 rfl rfl (fun w1 hw => sort_vec 65 #[] valI (fun _ _ h => valI_inj h) Ty.bd65 vd (delI xs self) ld [] w1 hd (by simpa using hw.owns) (by omega) (fun a b W _ => by simpa [cmpI_cfN] using compare_spec a b W)) (fun x hs => ?_)
  obtain ⟨ys, ls⟩ := x
  simp only at hs ⊢
  obtain ⟨hp, hs, hvs⟩ := hs
  have hyl := hp.length_eq
  refine J.nil ?_
  refine JX.thenN (hK2 _ _ ?_)
  refine JC.seq (fun K3 hK3 => ?_)
  refine JC.region ?_
  refine J.move rfl rfl ?_
  refine J.callS (α := Value × List (Nat × Obj)) (V := (·.1)) (Pr := fun x => Vec 23 16 x.1 (dedI ys).length (fI (dedI ys)) x.2) (L := (·.2)) (l1 := ls) (l := [(b2, cb (cI self) 23)]) Ty.bd66 rfl rfl (fun w1 hw => compact_vec vd ys ls w1 hvs hw.owns (by omega)) (fun x hd2 => ?_)
  obtain ⟨ve, le⟩ := x
  simp only at hd2 ⊢
  rw [sortI_of_steps hp hs] at hd2
  have hsl := sortI_le xs self
  refine J.append (lp := []) (xs := []) (ys := fI (sortI xs self)) (k := 0) (m := (sortI xs self).length) Ty.el24 Ty.s23 Ty.b23 Ty.zID rfl (.inl ⟨23, Ty.u24⟩) rfl rfl (Vec.nil _ _) (fun w1 hw => .inl (hd2.row hw)) (fI_length _) (fun y hy => fI_one hy) (by omega) (by omega) rfl (fun v7 lp7 hv7 => ?_)
  rw [Nat.zero_add, List.nil_append] at hv7
  refine J.assign rfl rfl ?_
  refine J.nil ?_
  refine JX.thenN (hK3 _ _ ?_)
  refine JC.ret ?_
  refine JX.ret1 rfl rfl (fun w hw => ?_)
  exact ⟨(v7, lp7), rfl, hv7, hw.drop (List.sublist_append_left _ _)⟩

end Go.Proofs.Ytbafhclandendaa
