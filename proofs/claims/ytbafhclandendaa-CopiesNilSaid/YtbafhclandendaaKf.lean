/-
  slices.Clone, IndexFunc and DeleteFunc at identities, as ring.Sorted calls them: contracts.
-/
import Derived.Test.YtbafhclandendaaKe
namespace Go.Proofs.Ytbafhclandendaa
open Go.J Go.RowKit
set_option linter.unusedVariables false
set_option linter.unusedSimpArgs false
set_option maxRecDepth 4000
def delI (xs : List IDV) (self : IDV) : List IDV := xs.filter (fun x => decide (x ≠ self))
theorem delI_none {xs : List IDV} {self : IDV} (h : ∀ j, j < xs.length → xs[j]? ≠ some self) : delI xs self = xs := by
  refine List.filter_eq_self.2 fun x hx => ?_
  obtain ⟨j, hj, rfl⟩ := List.getElem_of_mem hx
  have := h j hj
  rw [List.getElem?_eq_getElem hj] at this
  simpa using this
theorem fI_append (xs ys : List IDV) : fI (xs ++ ys) = fI xs ++ fI ys := by simp [fI]
theorem fI_set {xs : List IDV} {i : Nat} (h : i < xs.length) (sp : List Value) (v : IDV) : setMany (fI xs ++ sp) (0 + i * 16) (cI v) = fI (xs.set i v) ++ sp := by
  have hl := fI_length xs
  have hc : (cI v).length = 16 := rfl
  rw [setMany_eq _ _ _ (by rw [List.length_append, hc]; omega), hc]
  have e : xs.set i v = xs.take i ++ v :: xs.drop (i + 1) := by
    rw [List.set_eq_take_append_cons_drop, if_pos h]
  have hx : fI xs = fI (xs.take i) ++ (cI xs[i] ++ fI (xs.drop (i + 1))) := by
    have : xs = xs.take i ++ xs[i] :: xs.drop (i + 1) := by
      rw [← List.drop_eq_getElem_cons h, List.take_append_drop]
    conv => lhs; rw [this]
    rw [fI_append]; rfl
  have ht : (fI (xs.take i)).length = i * 16 := by rw [fI_length, List.length_take]; congr 1; omega
  rw [e, fI_append, hx, Nat.zero_add]
  have e1 : (fI (xs.take i) ++ (cI xs[i] ++ fI (xs.drop (i + 1))) ++ sp).take (i * 16) = fI (xs.take i) := by
    rw [List.append_assoc, ← ht, List.take_left]
  have e2 : (fI (xs.take i) ++ (cI xs[i] ++ fI (xs.drop (i + 1))) ++ sp).drop (i * 16 + 16) = fI (xs.drop (i + 1)) ++ sp := by
    rw [show fI (xs.take i) ++ (cI xs[i] ++ fI (xs.drop (i + 1))) ++ sp = (fI (xs.take i) ++ cI xs[i]) ++ (fI (xs.drop (i + 1)) ++ sp) by simp only [List.append_assoc]]
    rw [show i * 16 + 16 = (fI (xs.take i) ++ cI xs[i]).length by rw [List.length_append, ht]; rfl, List.drop_left]
  rw [e1, e2]
  show fI (xs.take i) ++ cI v ++ (fI (xs.drop (i + 1)) ++ sp) = fI (xs.take i) ++ (cI v ++ fI (xs.drop (i + 1))) ++ sp
  simp only [List.append_assoc]
/-- what is left when the end of a row is cleared -/
theorem clear_end {zs ws : List IDV} {i n : Nat} {sp Z : List Value} (hz : zs.length = n) (hw : zs.take i = ws) (hi : i ≤ n) (hZ : Z.length = (n - i) * 16) {o : Nat} (ho : n - i = 0 ∨ o = i * 16) :
    ∃ sp', setMany (fI zs ++ sp) o Z = fI ws ++ sp' ∧ (fI ws ++ sp').length = (fI zs ++ sp).length := by
  have hl := fI_length zs
  have hx : fI zs = fI ws ++ fI (zs.drop i) := by
    rw [← hw, ← fI_append, List.take_append_drop]
  have hwl : (fI ws).length = i * 16 := by rw [fI_length, ← hw, List.length_take]; congr 1; omega
  rcases ho with h0 | rfl
  · have : Z = [] := List.eq_nil_of_length_eq_zero (by rw [hZ, h0])
    subst this
    have e : fI zs ++ sp = fI ws ++ (fI (zs.drop i) ++ sp) := by rw [hx, List.append_assoc]
    exact ⟨fI (zs.drop i) ++ sp, e, by rw [e]⟩
  · refine ⟨Z ++ (fI zs ++ sp).drop (i * 16 + Z.length), ?_, ?_⟩
    · rw [setMany_eq _ _ _ (by rw [List.length_append, hZ]; omega), hx, List.append_assoc (fI ws)]
      rw [show (fI ws ++ (fI (zs.drop i) ++ sp)).take (i * 16) = fI ws by rw [← hwl, List.take_left], List.append_assoc]
    · rw [hx]
      simp only [List.length_append, List.length_drop, hZ]
      have : (fI (zs.drop i)).length = (n - i) * 16 := by rw [fI_length, List.length_drop, hz]
      omega
structure DS where
  j : Nat
  zs : List IDV
structure DelInv (xs : List IDV) (me : IDV) (s : DS) : Prop where
  hj : s.j ≤ xs.length
  hl : s.zs.length = xs.length
  tk : s.zs.take (delI (xs.take s.j) me).length = delI (xs.take s.j) me
  dr : s.zs.drop s.j = xs.drop s.j
theorem delI_le (xs : List IDV) (self : IDV) : (delI xs self).length ≤ xs.length := List.length_filter_le _ _
theorem take_snoc {xs : List IDV} {j : Nat} (h : j < xs.length) : xs.take (j + 1) = xs.take j ++ [xs[j]] := by
  exact take_add_one h
theorem DelInv.get {xs : List IDV} {self : IDV} {s : DS} (h : DelInv xs self s) (hj : s.j < xs.length) : s.zs[s.j]? = some xs[s.j] := by
  have e : (s.zs.drop s.j)[0]? = (xs.drop s.j)[0]? := by rw [h.dr]
  rw [List.getElem?_drop, List.getElem?_drop, Nat.add_zero, List.getElem?_eq_getElem hj] at e
  exact e
theorem DelInv.skip {xs : List IDV} {self : IDV} {s : DS} (h : DelInv xs self s) (hj : s.j < xs.length) (he : xs[s.j] = self) : DelInv xs self ⟨s.j + 1, s.zs⟩ ∧ delI (xs.take (s.j + 1)) self = delI (xs.take s.j) self := by
  have e : delI (xs.take (s.j + 1)) self = delI (xs.take s.j) self := by
    rw [take_snoc hj, delI, List.filter_append]
    simp [he, delI]
  refine ⟨⟨hj, h.hl, by simp only; rw [e]; exact h.tk, ?_⟩, e⟩
  simp only
  rw [← List.drop_drop, ← List.drop_drop, h.dr]
theorem DelInv.put {xs : List IDV} {self : IDV} {s : DS} (h : DelInv xs self s) (hj : s.j < xs.length) (he : xs[s.j] ≠ self) : DelInv xs self ⟨s.j + 1, s.zs.set (delI (xs.take s.j) self).length xs[s.j]⟩ ∧ (delI (xs.take (s.j + 1)) self).length = (delI (xs.take s.j) self).length + 1 := by
  have e : delI (xs.take (s.j + 1)) self = delI (xs.take s.j) self ++ [xs[s.j]] := by
    rw [take_snoc hj, delI, List.filter_append]
    simp [he, delI]
  have hle : (delI (xs.take s.j) self).length ≤ s.j := by
    have := delI_le (xs.take s.j) self
    rw [List.length_take] at this
    omega
  refine ⟨⟨hj, by simp [h.hl], ?_, ?_⟩, by rw [e]; simp⟩
  · simp only
    rw [e, List.length_append, List.length_singleton]
    have hlt : (delI (xs.take s.j) self).length < (s.zs.set (delI (xs.take s.j) self).length xs[s.j]).length := by rw [List.length_set, h.hl]; omega
    rw [take_snoc hlt, List.getElem_set_self, List.take_set_of_le (Nat.le_refl _), h.tk]
  · simp only
    rw [List.drop_set_of_lt (by omega), ← List.drop_drop, ← List.drop_drop, h.dr]

theorem sorted1_spec (s : Nat) (self x : IDV) (w : World) (hw0 : Own w [(s, cb (cI self) 23)]) :
    Calls Try.prog 63 [.agg (cI x).toArray, .pointer (some ⟨s, 0, none⟩)].toArray w fun r w' => r = .returned (.bool (decide (x = self))) ∧ Bel w w' := by
  refine calls_of_J (args := [.agg (cI x).toArray, .pointer (some ⟨s, 0, none⟩)]) (e := [(0, .agg (cI x).toArray), (1, .pointer (some ⟨s, 0, none⟩))]) Try.func63 rfl rfl ⟨rfl, rfl, trivial⟩ (hw0.st) ?_
  refine JC.seq (fun K0 hK0 => ?_)
  refine JC.region ?_
  refine J.box rfl rfl rfl (fun b2 => ?_)
  refine J.assign rfl rfl ?_
  refine J.nil ?_
  refine JX.thenN (hK0 _ _ ?_)
  refine JC.seq (fun K1 hK1 => ?_)
  refine JC.region ?_
  refine J.loadOA (vs := cI x) Ty.a23 Ty.s23 rfl (by repeat first | exact .head _ | apply List.Mem.tail | apply List.mem_append_right) (by exact rfl) rfl rfl ?_
  refine J.loadOA (vs := cI self) Ty.a23 Ty.s23 rfl (by repeat first | exact .head _ | apply List.Mem.tail | apply List.mem_append_right) (by exact rfl) rfl rfl ?_
  refine J.eqI Ty.QI Ty.keyI rfl rfl rfl ?_
  refine J.assign rfl rfl ?_
  refine J.nil ?_
  refine JX.thenN (hK1 _ _ ?_)
  refine JC.ret ?_
  refine JX.ret1 rfl rfl (fun w hw => ?_)
  exact ⟨rfl, hw.same hw0 (fun p hp => by simp at hp ⊢; subst hp; simp)⟩

theorem indexFunc_spec (v : Value) (xs : List IDV) (s : Nat) (self : IDV) (w : World) (hw0 : Own w [(s, cb (cI self) 23)]) (hr : Row w v xs.length (fI xs)) (hoff : Off [s] v (fI xs)) (hl : xs.length < 4611686018427387904) :
    Calls Try.prog 77 [v, .func (.func 63) #[] #[.pointer (some ⟨s, 0, none⟩)]].toArray w fun r w' => r = .returned (.int .i64 (placeI xs self)) ∧ Bel w w' := by
  obtain ⟨a, c, rfl, hc, _⟩ := id hr
  refine calls_of_J (args := [.slice a xs.length c, .func (.func 63) #[] #[.pointer (some ⟨s, 0, none⟩)]]) (e := [(0, .slice a xs.length c), (1, .func (.func 63) #[] #[.pointer (some ⟨s, 0, none⟩)])]) Try.func77 rfl rfl ⟨rfl, rfl, trivial⟩ (hw0.st) ?_
  refine JC.seq (fun K0 hK0 => ?_)
  refine JC.region ?_
  refine J.assign rfl rfl ?_
  refine J.nil ?_
  refine JX.thenN (hK0 _ _ ?_)
  refine JC.seq (fun K1 hK1 => ?_)
  refine JC.seq (fun K2 hK2 => ?_)
  refine JC.region ?_
  refine J.move rfl rfl ?_
  refine J.lenS rfl Ty.u24 rfl rfl ?_
  refine J.move rfl rfl ?_
  refine J.nil ?_
  refine JX.thenN (hK2 _ _ ?_)
  refine JC.block ?_
  refine JC.conseq (JC.cov (f := (fun i => [(0, .slice a xs.length c), (1, .func (.func 63) #[] #[.pointer (some ⟨s, 0, none⟩)]), (6, .slice a xs.length c), (7, .int .i64 ((xs.length : Nat) : Int)), (8, .int .i64 ((i : Nat) : Int))]) 0) ⟨rfl, rfl, rfl, rfl, rfl, trivial⟩ (JC.loop (α := Nat) (fun i => [(0, .slice a xs.length c), (1, .func (.func 63) #[] #[.pointer (some ⟨s, 0, none⟩)]), (6, .slice a xs.length c), (7, .int .i64 ((xs.length : Nat) : Int)), (8, .int .i64 ((i : Nat) : Int))]) (fun i w' => (i ≤ xs.length ∧ ∀ j, j < i → xs[j]? ≠ some self) ∧ St w [s] [(s, cb (cI self) 23)] w') (fun i => xs.length - i) 0 (fun i => ?_))) (fun w hw => ⟨⟨Nat.zero_le _, by omega⟩, hw⟩)
  refine JC.pr (fun hx => ?_)
  obtain ⟨hi, hpre⟩ := hx
  refine JC.seq (fun K3 hK3 => ?_)
  refine JC.region ?_
  refine J.bin rfl rfl rfl rfl ?_
  refine J.nil ?_
  refine JX.thenN (hK3 _ _ ?_)
  refine JC.seq (fun K4 hK4 => ?_)
  refine JC.cond rfl (fun h0 => ?_) (fun h0 => ?_)
  · skip
    have hlt : i < xs.length := by simp at h0; omega
    have hfl := fI_length xs
    have hcl := (Row.some hr (by omega))
    obtain ⟨b, o, c', hqe, _, _⟩ := hcl
    simp only [Value.slice.injEq] at hqe
    obtain ⟨rfl, _, rfl⟩ := hqe
    refine JC.skip ?_
    refine JX.thenN (hK4 _ _ ?_)
    refine JC.seq (fun K5 hK5 => ?_)
    refine JC.block ?_
    refine JC.seq (fun K6 hK6 => ?_)
    refine JC.region ?_
    refine J.move rfl rfl ?_
    refine J.assign rfl rfl ?_
    refine J.nil ?_
    refine JX.thenN (hK6 _ _ ?_)
    refine JC.seq (fun K7 hK7 => ?_)
    refine JC.region ?_
    refine J.move rfl rfl ?_
    refine J.move rfl rfl ?_
    refine J.move rfl rfl ?_
    refine J.indexAddrS Ty.el24 Ty.s23 rfl rfl (by omega) (by omega) rfl ?_
    refine J.loadA (vs := cI xs[i]) Ty.a23 Ty.s23 rfl rfl (fun w1 hw => rowF_at (hr.st hoff hw) (List.getElem?_eq_getElem hlt) (by omega)) rfl ?_
    refine J.callVB (v := .bool (decide (xs[i] = self))) (fun w1 w2 hw hb => hw.step hb) Ty.bd63 rfl rfl rfl (fun w1 hw => by simpa using sorted1_spec s self xs[i] w1 hw.owns') ?_
    refine J.nil ?_
    refine JX.thenN (hK7 _ _ ?_)
    refine JC.cond rfl (fun h1 => ?_) (fun h1 => ?_)
    · skip
      have he : xs[i] = self := by simp at h1; exact h1
      refine JC.seq (fun K8 hK8 => ?_)
      refine JC.region ?_
      refine J.move rfl rfl ?_
      refine J.assign rfl rfl ?_
      refine J.nil ?_
      refine JX.thenN (hK8 _ _ ?_)
      refine JC.ret ?_
      refine JX.blockR ?_
      refine JX.thenR ?_
      refine JX.thenR ?_
      refine JX.blockR ?_
      refine JX.thenR ?_
      refine JX.ret1 rfl rfl (fun w hw => ?_)
      first | exact ⟨by rw [placeI_at hlt hpre he], hw.same hw0 (fun p hp => hp)⟩ | exact ⟨by rw [placeI_no (by rw [← hge]; exact hpre)], hw.same hw0 (fun p hp => hp)⟩
    · skip
      have hne : ¬ xs[i] = self := fun e => by simp [e] at h1
      refine JC.skip ?_
      refine JX.blockN ?_
      refine JX.thenN (hK5 _ _ ?_)
      refine JC.region ?_
      (first | refine J.addN rfl rfl (by omega) (by omega) rfl ?_ | refine J.bin rfl rfl rfl rfl ?_)
      refine J.move rfl rfl ?_
      refine J.nil ?_
      refine JX.thenN ?_
      refine JX.again (i + 1) ?_ ?_ ?_
      · omega
      · exact ⟨rfl, rfl, rfl, rfl, rfl, trivial⟩
      · exact fun w1 hw => ⟨⟨hlt, fun j hj => by
        rcases Nat.lt_or_ge j i with h | h
        · exact hpre j h
        · have : j = i := by omega
          subst this
          rw [List.getElem?_eq_getElem hlt]; simp; exact hne⟩, hw⟩
  · skip
    have hge : i = xs.length := by simp at h0; omega
    refine JC.exit ?_
    refine JX.thenE ?_
    refine JX.thenE ?_
    refine JX.blockE ?_
    refine JX.thenN (hK1 _ _ ?_)
    refine JC.seq (fun K9 hK9 => ?_)
    refine JC.region ?_
    refine J.assign rfl rfl ?_
    refine J.nil ?_
    refine JX.thenN (hK9 _ _ ?_)
    refine JC.ret ?_
    refine JX.ret1 rfl rfl (fun w hw => ?_)
    first | exact ⟨by rw [placeI_at hlt hpre he], hw.same hw0 (fun p hp => hp)⟩ | exact ⟨by rw [placeI_no (by rw [← hge]; exact hpre)], hw.same hw0 (fun p hp => hp)⟩

theorem clone_nil (k c : Nat) (w : World) :
    Calls Try.prog 48 [.slice none k c].toArray w fun r w' => r = .returned (.slice none 0 0) ∧ Bel w w' := by
  refine calls_of_J (args := [.slice none k c]) (e := [(0, .slice none k c)]) Try.func48 rfl rfl ⟨rfl, trivial⟩ (St.start w) ?_
  refine JC.seq (fun K0 hK0 => ?_)
  refine JC.region ?_
  refine J.assign rfl rfl ?_
  refine J.nil ?_
  refine JX.thenN (hK0 _ _ ?_)
  refine JC.seq (fun K1 hK1 => ?_)
  refine JC.seq (fun K2 hK2 => ?_)
  refine JC.region ?_
  refine J.move rfl rfl ?_
  refine J.eqNilSl Ty.u24 rfl rfl rfl ?_
  refine J.nil ?_
  refine JX.thenN (hK2 _ _ ?_)
  first | refine JC.condT rfl ?_ | refine JC.cond rfl (fun _ => ?_) (fun h => by first | (exfalso; simp at h; omega) | (simp at h))
  refine JC.seq (fun K3 hK3 => ?_)
  refine JC.region ?_
  refine J.assign rfl rfl ?_
  refine J.nil ?_
  refine JX.thenN (hK3 _ _ ?_)
  refine JC.ret ?_
  refine JX.thenR ?_
  refine JX.ret1 rfl rfl (fun w hw => ?_)
  exact ⟨rfl, hw.below⟩

theorem fI_one {xs : List IDV} {y : Value} (h : y ∈ fI xs) : y.oneCell' = true := by
  simp only [fI, List.mem_flatMap] at h
  obtain ⟨x, _, hy⟩ := h
  simp [cI] at hy
  rcases hy with rfl | rfl | rfl | rfl | rfl | rfl | rfl | rfl | rfl | rfl | rfl | rfl | rfl | rfl | rfl | rfl <;> rfl
theorem clone_some (a : Addr) (c : Nat) (xs : List IDV) (w : World) (hr : Row w (.slice (some a) xs.length c) xs.length (fI xs)) (hl : xs.length ≤ 8796093022208) :
    Calls Try.prog 48 [.slice (some a) xs.length c].toArray w fun r w' => ∃ x : Value × List (Nat × Obj), r = .returned x.1 ∧ (True ∧ Vec 23 16 x.1 xs.length (fI xs) x.2) ∧ St w [] x.2 w' := by
  refine calls_of_J (args := [.slice (some a) xs.length c]) (e := [(0, .slice (some a) xs.length c)]) Try.func48 rfl rfl ⟨rfl, trivial⟩ (St.start w) ?_
  refine JC.seq (fun K0 hK0 => ?_)
  refine JC.region ?_
  refine J.assign rfl rfl ?_
  refine J.nil ?_
  refine JX.thenN (hK0 _ _ ?_)
  refine JC.seq (fun K1 hK1 => ?_)
  refine JC.seq (fun K2 hK2 => ?_)
  refine JC.region ?_
  refine J.move rfl rfl ?_
  refine J.eqNilSl Ty.u24 rfl rfl rfl ?_
  refine J.nil ?_
  refine JX.thenN (hK2 _ _ ?_)
  first | refine JC.condF rfl ?_ | refine JC.cond rfl (fun h => by first | (exfalso; simp at h; omega) | (simp at h)) (fun _ => ?_)
  refine JC.skip ?_
  refine JX.thenN (hK1 _ _ ?_)
  refine JC.seq (fun K3 hK3 => ?_)
  refine JC.region ?_
  refine J.buildSl (cs := []) Ty.el24 Ty.s23 Ty.zID rfl rfl rfl rfl rfl rfl rfl (fun b5 => ?_)
  refine J.move rfl rfl ?_
  refine J.append (lp := [(b5, cb [] 23)]) (xs := []) (ys := fI xs) (k := 0) (m := xs.length) Ty.el24 Ty.s23 Ty.b23 Ty.zID rfl (.inl ⟨23, Ty.u24⟩) rfl rfl ⟨rfl, .inr ⟨b5, 0, [], rfl, rfl, rfl, Nat.le_refl _⟩⟩ (fun w1 hw => .inl (hr.below (hw.drop (List.nil_sublist _)).below)) (fI_length xs) (fun y hy => fI_one hy) (by omega) (by omega) rfl (fun v7 lp7 hv7 => ?_)
  rw [Nat.zero_add, List.nil_append] at hv7
  refine J.assign rfl rfl ?_
  refine J.nil ?_
  refine JX.thenN (hK3 _ _ ?_)
  refine JC.ret ?_
  refine JX.ret1 rfl rfl (fun w hw => ?_)
  exact ⟨(v7, lp7), rfl, ⟨trivial, hv7⟩, hw.perm (by simp)⟩

end Go.Proofs.Ytbafhclandendaa
