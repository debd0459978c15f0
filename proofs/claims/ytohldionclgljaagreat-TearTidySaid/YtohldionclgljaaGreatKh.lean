/-
  slices.Index, Contains, and ring.Has at identities: contracts.
-/
import Derived.Test.YtohldionclgljaaGreatKd
namespace Go.Proofs.YtohldionclgljaaGreat
open Go.J Go.RowKit
set_option linter.unusedVariables false
set_option linter.unusedSimpArgs false
set_option maxRecDepth 4000
/-- where an identity stands first -/
def placeI : List IDV → IDV → Int
  | [], _ => -1
  | x :: xs, n => if x = n then 0 else if placeI xs n < 0 then -1 else placeI xs n + 1
theorem placeI_ge : ∀ (xs : List IDV) (n : IDV), -1 ≤ placeI xs n
  | [], _ => by simp [placeI]
  | x :: xs, n => by
    have := placeI_ge xs n
    simp only [placeI]
    split
    · omega
    · split <;> omega
theorem placeI_at : ∀ {xs : List IDV} {n : IDV} {i : Nat} (h : i < xs.length), (∀ j, j < i → xs[j]? ≠ some n) → xs[i] = n → placeI xs n = (i : Int)
  | x :: xs, n, 0, _, _, he => by
    have : x = n := he
    simp [placeI, this]
  | x :: xs, n, i + 1, h, hb, he => by
    have h0 : x ≠ n := fun e => hb 0 (by omega) (by simp [e])
    have ih := placeI_at (xs := xs) (n := n) (i := i) (by simpa using h) (fun j hj => by simpa using hb (j + 1) (by omega)) (by simpa using he)
    simp only [placeI]
    rw [if_neg h0, ih, if_neg (by omega)]
    omega
theorem placeI_no : ∀ {xs : List IDV} {n : IDV}, (∀ j, j < xs.length → xs[j]? ≠ some n) → placeI xs n = -1
  | [], _, _ => rfl
  | x :: xs, n, hb => by
    have h0 : x ≠ n := fun e => hb 0 (by simp) (by simp [e])
    have ih := placeI_no (xs := xs) (n := n) (fun j hj => by simpa using hb (j + 1) (by simpa using hj))
    simp only [placeI]
    rw [if_neg h0, ih, if_pos (by omega)]
theorem placeI_mem : ∀ {xs : List IDV} {n : IDV}, 0 ≤ placeI xs n ↔ n ∈ xs
  | [], _ => by simp [placeI]
  | x :: xs, n => by
    have ih := placeI_mem (xs := xs) (n := n)
    have := placeI_ge xs n
    simp only [placeI, List.mem_cons]
    by_cases h : x = n
    · simp [h]
    · rw [if_neg h]
      have h' : ¬ n = x := fun e => h e.symm
      simp only [h', false_or]
      by_cases h2 : placeI xs n < 0
      · rw [if_pos h2]
        constructor
        · intro h; omega
        · intro h; have := ih.2 h; omega
      · rw [if_neg h2]
        constructor
        · intro _; exact ih.1 (by omega)
        · intro _; omega

theorem index_spec (v : Value) (xs : List IDV) (n : IDV) (w : World) (hr : Row w v xs.length (fI xs)) (hl : xs.length < 4611686018427387904) :
    Calls Tryz.prog 73 [v, .agg (cI n).toArray].toArray w fun r w' => r = .returned (.int .i64 (placeI xs n)) ∧ Bel w w' := by
  obtain ⟨a, c, rfl, hc, _⟩ := id hr
  refine calls_of_J (args := [.slice a xs.length c, .agg (cI n).toArray]) (e := [(0, .slice a xs.length c), (1, .agg (cI n).toArray)]) Tryz.func73 rfl rfl ⟨rfl, rfl, trivial⟩ (St.start w) ?_
  refine JC.seq (fun K0 hK0 => ?_)
  refine JC.region ?_
  refine J.box rfl rfl rfl (fun b3 => ?_)
  refine J.assign rfl rfl ?_
  refine J.nil ?_
  refine JX.thenN (hK0 _ _ ?_)
  refine JC.seq (fun K1 hK1 => ?_)
  refine JC.seq (fun K2 hK2 => ?_)
  refine JC.region ?_
  refine J.move rfl rfl ?_
  refine J.lenS rfl Ty.u39 rfl rfl ?_
  refine J.move rfl rfl ?_
  refine J.nil ?_
  refine JX.thenN (hK2 _ _ ?_)
  refine JC.block ?_
  refine JC.conseq (JC.cov (f := (fun i => [(0, .slice a xs.length c), (3, .pointer (some ⟨b3, 0, none⟩)), (6, .slice a xs.length c), (7, .int .i64 ((xs.length : Nat) : Int)), (8, .int .i64 ((i : Nat) : Int))]) 0) ⟨rfl, rfl, rfl, rfl, rfl, trivial⟩ (JC.loop (α := Nat) (fun i => [(0, .slice a xs.length c), (3, .pointer (some ⟨b3, 0, none⟩)), (6, .slice a xs.length c), (7, .int .i64 ((xs.length : Nat) : Int)), (8, .int .i64 ((i : Nat) : Int))]) (fun i w' => (i ≤ xs.length ∧ ∀ j, j < i → xs[j]? ≠ some n) ∧ St w [] [(b3, cb (cI n) 24)] w') (fun i => xs.length - i) 0 (fun i => ?_))) (fun w hw => ⟨⟨Nat.zero_le _, by omega⟩, hw⟩)
  refine JC.pr (fun hx => ?_)
  obtain ⟨hi, hpre⟩ := hx
  refine JC.seq (fun K3 hK3 => ?_)
  refine JC.region ?_
  refine J.bin rfl rfl rfl rfl ?_
  refine J.nil ?_
  refine JX.thenN (hK3 _ _ ?_)
  refine JC.seq (fun K4 hK4 => ?_)
  refine JC.cond rfl (fun h0 => ?_) (fun h0 => ?_)
  · skip
    have hlt : i < xs.length := by simp at h0; omega
    have hfl := fI_length xs
    have hcl := (Row.some hr (by omega))
    obtain ⟨b, o, c', hqe, _, _⟩ := hcl
    simp only [Value.slice.injEq] at hqe
    obtain ⟨rfl, _, rfl⟩ := hqe
    refine JC.skip ?_
    refine JX.thenN (hK4 _ _ ?_)
    refine JC.seq (fun K5 hK5 => ?_)
    refine JC.block ?_
    refine JC.seq (fun K6 hK6 => ?_)
    refine JC.region ?_
    refine J.move rfl rfl ?_
    refine J.assign rfl rfl ?_
    refine J.nil ?_
    refine JX.thenN (hK6 _ _ ?_)
    refine JC.seq (fun K7 hK7 => ?_)
    apply JC.drawL 6 [Eqv (.agg (cI n).toArray), Eqv (.slice (some ⟨b, o, none⟩) xs.length c), Eqv (.int .i64 ((i : Nat) : Int)), Eqv (.pointer (some ⟨b, o + (i : Int).toNat * 16, none⟩)), Eqv (.agg (cI xs[i]).toArray), Eqv (.bool (decide (n = xs[i])))] Ty.mixed rfl rfl rfl (by kernel_rfl) rfl rfl (fun w w' hw hb => hw.step hb) ⟨fun _ _ _ h _ => h, fun _ _ _ h _ => h, fun _ _ _ h _ => h, fun _ _ _ h _ => h, fun _ _ _ h _ => h, fun _ _ _ h _ => h, trivial⟩ ?hstep ?htail
    case hstep =>
      refine ⟨fun wi => ?_, fun wi => ?_, fun wi => ?_, fun wi => ?_, fun wi => ?_, fun wi => ?_, trivial⟩
      · skip
        refine Fin.nil ?_
        refine J.loadA (vs := cI n) Ty.a24 Ty.s24 rfl rfl (fun w hw => Cells.of_block (hw.2.own (_, _) (by repeat first | exact .head _ | apply List.Mem.tail | apply List.mem_append_right)) (by exact rfl)) rfl ?_
        exact J.finP rfl
      · skip
        refine Fin.nil ?_
        refine J.move rfl rfl ?_
        exact J.finP rfl
      · skip
        refine Fin.nil ?_
        refine J.move rfl rfl ?_
        exact J.finP rfl
      · skip
        refine Fin.consE rfl (Fin.consE rfl (Fin.nil ?_))
        refine J.indexAddrS Ty.el39 Ty.s24 rfl rfl (by omega) (by omega) rfl ?_
        exact J.finP rfl
      · skip
        refine Fin.consE rfl (Fin.nil ?_)
        refine J.loadA (vs := cI xs[i]) Ty.a24 Ty.s24 rfl rfl (fun w1 hw => rowF_at (hr.below hw.2.below) (List.getElem?_eq_getElem hlt) (by omega)) rfl ?_
        exact J.finP rfl
      · skip
        refine Fin.consE rfl (Fin.consE rfl (Fin.nil ?_))
        refine J.eqI Ty.QI Ty.keyI rfl rfl rfl ?_
        exact J.finP rfl
    case htail =>
      refine Fin.consE rfl (Fin.consE rfl (Fin.consE rfl (Fin.consE rfl (Fin.consE rfl (Fin.consE rfl (Fin.nil ?_))))))
      refine J.nil ?_
      refine JX.thenN (hK7 _ _ ?_)
      refine JC.cond rfl (fun h1 => ?_) (fun h1 => ?_)
      · skip
        have he : xs[i] = n := by simp at h1; exact h1.symm
        refine JC.seq (fun K8 hK8 => ?_)
        refine JC.region ?_
        refine J.move rfl rfl ?_
        refine J.assign rfl rfl ?_
        refine J.nil ?_
        refine JX.thenN (hK8 _ _ ?_)
        refine JC.ret ?_
        refine JX.blockR ?_
        refine JX.thenR ?_
        refine JX.thenR ?_
        refine JX.blockR ?_
        refine JX.thenR ?_
        refine JX.ret1 rfl rfl (fun w hw => ?_)
        first | exact ⟨by rw [placeI_at hlt hpre he], hw.below⟩ | exact ⟨by rw [placeI_no (by rw [← hge]; exact hpre)], hw.below⟩
      · skip
        have hne : ¬ xs[i] = n := fun e => by simp [e] at h1
        refine JC.skip ?_
        refine JX.blockN ?_
        refine JX.thenN (hK5 _ _ ?_)
        refine JC.region ?_
        (first | refine J.addN rfl rfl (by omega) (by omega) rfl ?_ | refine J.bin rfl rfl rfl rfl ?_)
        refine J.move rfl rfl ?_
        refine J.nil ?_
        refine JX.thenN ?_
        refine JX.again (i + 1) ?_ ?_ ?_
        · omega
        · exact ⟨rfl, rfl, rfl, rfl, rfl, trivial⟩
        · exact fun w1 hw => ⟨⟨hlt, fun j hj => by
          rcases Nat.lt_or_ge j i with h | h
          · exact hpre j h
          · have : j = i := by omega
            subst this
            rw [List.getElem?_eq_getElem hlt]; simp; exact hne⟩, hw⟩
  · skip
    have hge : i = xs.length := by simp at h0; omega
    refine JC.exit ?_
    refine JX.thenE ?_
    refine JX.thenE ?_
    refine JX.blockE ?_
    refine JX.thenN (hK1 _ _ ?_)
    refine JC.seq (fun K9 hK9 => ?_)
    refine JC.region ?_
    refine J.assign rfl rfl ?_
    refine J.nil ?_
    refine JX.thenN (hK9 _ _ ?_)
    refine JC.ret ?_
    refine JX.ret1 rfl rfl (fun w hw => ?_)
    first | exact ⟨by rw [placeI_at hlt hpre he], hw.below⟩ | exact ⟨by rw [placeI_no (by rw [← hge]; exact hpre)], hw.below⟩

theorem contains_spec (v : Value) (xs : List IDV) (n : IDV) (w : World) (hr : Row w v xs.length (fI xs)) (hl : xs.length < 4611686018427387904) :
    Calls Tryz.prog 60 [v, .agg (cI n).toArray].toArray w fun r w' => r = .returned (.bool (decide (n ∈ xs))) ∧ Bel w w' := by
  refine calls_of_J (args := [v, .agg (cI n).toArray]) (e := [(0, v), (1, .agg (cI n).toArray)]) Tryz.func60 rfl rfl ⟨rfl, rfl, trivial⟩ (St.start w) ?_
  refine JC.seq (fun K0 hK0 => ?_)
  refine JC.region ?_
  refine J.box rfl rfl rfl (fun b3 => ?_)
  refine J.assign rfl rfl ?_
  refine J.nil ?_
  refine JX.thenN (hK0 _ _ ?_)
  refine JC.seq (fun K1 hK1 => ?_)
  refine JC.region ?_
  refine J.move rfl rfl ?_
  refine J.loadOA (vs := cI n) Ty.a24 Ty.s24 rfl (by repeat first | exact .head _ | apply List.Mem.tail | apply List.mem_append_right) (by exact rfl) rfl rfl ?_
  refine J.callB (v := .int .i64 (placeI xs n)) (fun w1 w2 hw hb => hw.step hb) Ty.bd73 rfl rfl (fun w1 hw => index_spec v xs n w1 (hr.below hw.below) hl) ?_
  refine J.bin rfl rfl rfl rfl ?_
  refine J.assign rfl rfl ?_
  refine J.nil ?_
  refine JX.thenN (hK1 _ _ ?_)
  refine JC.ret ?_
  refine JX.ret1 rfl rfl (fun w hw => ?_)
  refine ⟨?_, hw.below⟩
  rw [show decide (placeI xs n ≥ 0) = decide (n ∈ xs) from decide_eq_decide.2 placeI_mem]

theorem hasI_spec (v : Value) (xs : List IDV) (n : IDV) (w : World) (hr : Row w v xs.length (fI xs)) (hl : xs.length < 4611686018427387904) :
    Calls Tryz.prog 36 [v, .agg (cI n).toArray].toArray w fun r w' => r = .returned (.bool (decide (n ∈ xs))) ∧ Bel w w' := by
  refine calls_of_J (args := [v, .agg (cI n).toArray]) (e := [(0, v), (1, .agg (cI n).toArray)]) Tryz.func36 rfl rfl ⟨rfl, rfl, trivial⟩ (St.start w) ?_
  refine JC.seq (fun K0 hK0 => ?_)
  refine JC.region ?_
  refine J.box rfl rfl rfl (fun b3 => ?_)
  refine J.assign rfl rfl ?_
  refine J.nil ?_
  refine JX.thenN (hK0 _ _ ?_)
  refine JC.seq (fun K1 hK1 => ?_)
  refine JC.region ?_
  refine J.move rfl rfl ?_
  refine J.loadOA (vs := cI n) Ty.a24 Ty.s24 rfl (by repeat first | exact .head _ | apply List.Mem.tail | apply List.mem_append_right) (by exact rfl) rfl rfl ?_
  refine J.callB (v := .bool (decide (n ∈ xs))) (fun w1 w2 hw hb => hw.step hb) Ty.bd60 rfl rfl (fun w1 hw => contains_spec v xs n w1 (hr.below hw.below) hl) ?_
  refine J.assign rfl rfl ?_
  refine J.nil ?_
  refine JX.thenN (hK1 _ _ ?_)
  refine JC.ret ?_
  refine JX.ret1 rfl rfl (fun w hw => ?_)
  exact ⟨rfl, hw.below⟩

end Go.Proofs.YtohldionclgljaaGreat
/-
  slices.Clone, IndexFunc and DeleteFunc at identities, as ring.Sorted calls them: contracts.
-/
namespace Go.Proofs.YtohldionclgljaaGreat
open Go.J Go.RowKit
set_option linter.unusedVariables false
set_option linter.unusedSimpArgs false
set_option maxRecDepth 4000
def delI (xs : List IDV) (self : IDV) : List IDV := xs.filter (fun x => decide (x ≠ self))
theorem delI_none {xs : List IDV} {self : IDV} (h : ∀ j, j < xs.length → xs[j]? ≠ some self) : delI xs self = xs := by
  refine List.filter_eq_self.2 fun x hx => ?_
  obtain ⟨j, hj, rfl⟩ := List.getElem_of_mem hx
  have := h j hj
  rw [List.getElem?_eq_getElem hj] at this
  simpa using this
theorem fI_append (xs ys : List IDV) : fI (xs ++ ys) = fI xs ++ fI ys := by simp [fI]
theorem fI_set {xs : List IDV} {i : Nat} (h : i < xs.length) (sp : List Value) (v : IDV) : setMany (fI xs ++ sp) (0 + i * 16) (cI v) = fI (xs.set i v) ++ sp := by
  have hl := fI_length xs
  have hc : (cI v).length = 16 := rfl
  rw [setMany_eq _ _ _ (by rw [List.length_append, hc]; omega), hc]
  have e : xs.set i v = xs.take i ++ v :: xs.drop (i + 1) := by
    rw [List.set_eq_take_append_cons_drop, if_pos h]
  have hx : fI xs = fI (xs.take i) ++ (cI xs[i] ++ fI (xs.drop (i + 1))) := by
    have : xs = xs.take i ++ xs[i] :: xs.drop (i + 1) := by
      rw [← List.drop_eq_getElem_cons h, List.take_append_drop]
    conv => lhs; rw [this]
    rw [fI_append]; rfl
  have ht : (fI (xs.take i)).length = i * 16 := by rw [fI_length, List.length_take]; congr 1; omega
  rw [e, fI_append, hx, Nat.zero_add]
  have e1 : (fI (xs.take i) ++ (cI xs[i] ++ fI (xs.drop (i + 1))) ++ sp).take (i * 16) = fI (xs.take i) := by
    rw [List.append_assoc, ← ht, List.take_left]
  have e2 : (fI (xs.take i) ++ (cI xs[i] ++ fI (xs.drop (i + 1))) ++ sp).drop (i * 16 + 16) = fI (xs.drop (i + 1)) ++ sp := by
    rw [show fI (xs.take i) ++ (cI xs[i] ++ fI (xs.drop (i + 1))) ++ sp = (fI (xs.take i) ++ cI xs[i]) ++ (fI (xs.drop (i + 1)) ++ sp) by simp only [List.append_assoc]]
    rw [show i * 16 + 16 = (fI (xs.take i) ++ cI xs[i]).length by rw [List.length_append, ht]; rfl, List.drop_left]
  rw [e1, e2]
  show fI (xs.take i) ++ cI v ++ (fI (xs.drop (i + 1)) ++ sp) = fI (xs.take i) ++ (cI v ++ fI (xs.drop (i + 1))) ++ sp
  simp only [List.append_assoc]
/-- what is left when the end of a row is cleared -/
theorem clear_end {zs ws : List IDV} {i n : Nat} {sp Z : List Value} (hz : zs.length = n) (hw : zs.take i = ws) (hi : i ≤ n) (hZ : Z.length = (n - i) * 16) {o : Nat} (ho : n - i = 0 ∨ o = i * 16) :
    ∃ sp', setMany (fI zs ++ sp) o Z = fI ws ++ sp' ∧ (fI ws ++ sp').length = (fI zs ++ sp).length := by
  have hl := fI_length zs
  have hx : fI zs = fI ws ++ fI (zs.drop i) := by
    rw [← hw, ← fI_append, List.take_append_drop]
  have hwl : (fI ws).length = i * 16 := by rw [fI_length, ← hw, List.length_take]; congr 1; omega
  rcases ho with h0 | rfl
  · have : Z = [] := List.eq_nil_of_length_eq_zero (by rw [hZ, h0])
    subst this
    have e : fI zs ++ sp = fI ws ++ (fI (zs.drop i) ++ sp) := by rw [hx, List.append_assoc]
    exact ⟨fI (zs.drop i) ++ sp, e, by rw [e]⟩
  · refine ⟨Z ++ (fI zs ++ sp).drop (i * 16 + Z.length), ?_, ?_⟩
    · rw [setMany_eq _ _ _ (by rw [List.length_append, hZ]; omega), hx, List.append_assoc (fI ws)]
      rw [show (fI ws ++ (fI (zs.drop i) ++ sp)).take (i * 16) = fI ws by rw [← hwl, List.take_left], List.append_assoc]
    · rw [hx]
      simp only [List.length_append, List.length_drop, hZ]
      have : (fI (zs.drop i)).length = (n - i) * 16 := by rw [fI_length, List.length_drop, hz]
      omega
structure DS where
  j : Nat
  zs : List IDV
structure DelInv (xs : List IDV) (me : IDV) (s : DS) : Prop where
  hj : s.j ≤ xs.length
  hl : s.zs.length = xs.length
  tk : s.zs.take (delI (xs.take s.j) me).length = delI (xs.take s.j) me
  dr : s.zs.drop s.j = xs.drop s.j
theorem delI_le (xs : List IDV) (self : IDV) : (delI xs self).length ≤ xs.length := List.length_filter_le _ _
theorem take_snoc {xs : List IDV} {j : Nat} (h : j < xs.length) : xs.take (j + 1) = xs.take j ++ [xs[j]] := by
  exact take_add_one h
theorem DelInv.get {xs : List IDV} {self : IDV} {s : DS} (h : DelInv xs self s) (hj : s.j < xs.length) : s.zs[s.j]? = some xs[s.j] := by
  have e : (s.zs.drop s.j)[0]? = (xs.drop s.j)[0]? := by rw [h.dr]
  rw [List.getElem?_drop, List.getElem?_drop, Nat.add_zero, List.getElem?_eq_getElem hj] at e
  exact e
theorem DelInv.skip {xs : List IDV} {self : IDV} {s : DS} (h : DelInv xs self s) (hj : s.j < xs.length) (he : xs[s.j] = self) : DelInv xs self ⟨s.j + 1, s.zs⟩ ∧ delI (xs.take (s.j + 1)) self = delI (xs.take s.j) self := by
  have e : delI (xs.take (s.j + 1)) self = delI (xs.take s.j) self := by
    rw [take_snoc hj, delI, List.filter_append]
    simp [he, delI]
  refine ⟨⟨hj, h.hl, by simp only; rw [e]; exact h.tk, ?_⟩, e⟩
  simp only
  rw [← List.drop_drop, ← List.drop_drop, h.dr]
theorem DelInv.put {xs : List IDV} {self : IDV} {s : DS} (h : DelInv xs self s) (hj : s.j < xs.length) (he : xs[s.j] ≠ self) : DelInv xs self ⟨s.j + 1, s.zs.set (delI (xs.take s.j) self).length xs[s.j]⟩ ∧ (delI (xs.take (s.j + 1)) self).length = (delI (xs.take s.j) self).length + 1 := by
  have e : delI (xs.take (s.j + 1)) self = delI (xs.take s.j) self ++ [xs[s.j]] := by
    rw [take_snoc hj, delI, List.filter_append]
    simp [he, delI]
  have hle : (delI (xs.take s.j) self).length ≤ s.j := by
    have := delI_le (xs.take s.j) self
    rw [List.length_take] at this
    omega
  refine ⟨⟨hj, by simp [h.hl], ?_, ?_⟩, by rw [e]; simp⟩
  · simp only
    rw [e, List.length_append, List.length_singleton]
    have hlt : (delI (xs.take s.j) self).length < (s.zs.set (delI (xs.take s.j) self).length xs[s.j]).length := by rw [List.length_set, h.hl]; omega
    rw [take_snoc hlt, List.getElem_set_self, List.take_set_of_le (Nat.le_refl _), h.tk]
  · simp only
    rw [List.drop_set_of_lt (by omega), ← List.drop_drop, ← List.drop_drop, h.dr]

theorem sorted1_spec (s : Nat) (self x : IDV) (w : World) (hw0 : Own w [(s, cb (cI self) 24)]) :
    Calls Tryz.prog 55 [.agg (cI x).toArray, .pointer (some ⟨s, 0, none⟩)].toArray w fun r w' => r = .returned (.bool (decide (x = self))) ∧ Bel w w' := by
  refine calls_of_J (args := [.agg (cI x).toArray, .pointer (some ⟨s, 0, none⟩)]) (e := [(0, .agg (cI x).toArray), (1, .pointer (some ⟨s, 0, none⟩))]) Tryz.func55 rfl rfl ⟨rfl, rfl, trivial⟩ (hw0.st) ?_
  refine JC.seq (fun K0 hK0 => ?_)
  refine JC.region ?_
  refine J.box rfl rfl rfl (fun b2 => ?_)
  refine J.assign rfl rfl ?_
  refine J.nil ?_
  refine JX.thenN (hK0 _ _ ?_)
  refine JC.seq (fun K1 hK1 => ?_)
  refine JC.region ?_
  refine J.loadOA (vs := cI x) Ty.a24 Ty.s24 rfl (by repeat first | exact .head _ | apply List.Mem.tail | apply List.mem_append_right) (by exact rfl) rfl rfl ?_
  refine J.loadOA (vs := cI self) Ty.a24 Ty.s24 rfl (by repeat first | exact .head _ | apply List.Mem.tail | apply List.mem_append_right) (by exact rfl) rfl rfl ?_
  refine J.eqI Ty.QI Ty.keyI rfl rfl rfl ?_
  refine J.assign rfl rfl ?_
  refine J.nil ?_
  refine JX.thenN (hK1 _ _ ?_)
  refine JC.ret ?_
  refine JX.ret1 rfl rfl (fun w hw => ?_)
  exact ⟨rfl, hw.same hw0 (fun p hp => by simp at hp ⊢; subst hp; simp)⟩

theorem indexFunc_spec (v : Value) (xs : List IDV) (s : Nat) (self : IDV) (w : World) (hw0 : Own w [(s, cb (cI self) 24)]) (hr : Row w v xs.length (fI xs)) (hoff : Off [s] v (fI xs)) (hl : xs.length < 4611686018427387904) :
    Calls Tryz.prog 70 [v, .func (.func 55) #[] #[.pointer (some ⟨s, 0, none⟩)]].toArray w fun r w' => r = .returned (.int .i64 (placeI xs self)) ∧ Bel w w' := by
  obtain ⟨a, c, rfl, hc, _⟩ := id hr
  refine calls_of_J (args := [.slice a xs.length c, .func (.func 55) #[] #[.pointer (some ⟨s, 0, none⟩)]]) (e := [(0, .slice a xs.length c), (1, .func (.func 55) #[] #[.pointer (some ⟨s, 0, none⟩)])]) Tryz.func70 rfl rfl ⟨rfl, rfl, trivial⟩ (hw0.st) ?_
  refine JC.seq (fun K0 hK0 => ?_)
  refine JC.region ?_
  refine J.assign rfl rfl ?_
  refine J.nil ?_
  refine JX.thenN (hK0 _ _ ?_)
  refine JC.seq (fun K1 hK1 => ?_)
  refine JC.seq (fun K2 hK2 => ?_)
  refine JC.region ?_
  refine J.move rfl rfl ?_
  refine J.lenS rfl Ty.u39 rfl rfl ?_
  refine J.move rfl rfl ?_
  refine J.nil ?_
  refine JX.thenN (hK2 _ _ ?_)
  refine JC.block ?_
  refine JC.conseq (JC.cov (f := (fun i => [(0, .slice a xs.length c), (1, .func (.func 55) #[] #[.pointer (some ⟨s, 0, none⟩)]), (6, .slice a xs.length c), (7, .int .i64 ((xs.length : Nat) : Int)), (8, .int .i64 ((i : Nat) : Int))]) 0) ⟨rfl, rfl, rfl, rfl, rfl, trivial⟩ (JC.loop (α := Nat) (fun i => [(0, .slice a xs.length c), (1, .func (.func 55) #[] #[.pointer (some ⟨s, 0, none⟩)]), (6, .slice a xs.length c), (7, .int .i64 ((xs.length : Nat) : Int)), (8, .int .i64 ((i : Nat) : Int))]) (fun i w' => (i ≤ xs.length ∧ ∀ j, j < i → xs[j]? ≠ some self) ∧ St w [s] [(s, cb (cI self) 24)] w') (fun i => xs.length - i) 0 (fun i => ?_))) (fun w hw => ⟨⟨Nat.zero_le _, by omega⟩, hw⟩)
  refine JC.pr (fun hx => ?_)
  obtain ⟨hi, hpre⟩ := hx
  refine JC.seq (fun K3 hK3 => ?_)
  refine JC.region ?_
  refine J.bin rfl rfl rfl rfl ?_
  refine J.nil ?_
  refine JX.thenN (hK3 _ _ ?_)
  refine JC.seq (fun K4 hK4 => ?_)
  refine JC.cond rfl (fun h0 => ?_) (fun h0 => ?_)
  · skip
    have hlt : i < xs.length := by simp at h0; omega
    have hfl := fI_length xs
    have hcl := (Row.some hr (by omega))
    obtain ⟨b, o, c', hqe, _, _⟩ := hcl
    simp only [Value.slice.injEq] at hqe
    obtain ⟨rfl, _, rfl⟩ := hqe
    refine JC.skip ?_
    refine JX.thenN (hK4 _ _ ?_)
    refine JC.seq (fun K5 hK5 => ?_)
    refine JC.block ?_
    refine JC.seq (fun K6 hK6 => ?_)
    refine JC.region ?_
    refine J.move rfl rfl ?_
    refine J.assign rfl rfl ?_
    refine J.nil ?_
    refine JX.thenN (hK6 _ _ ?_)
    refine JC.seq (fun K7 hK7 => ?_)
    refine JC.region ?_
    refine J.move rfl rfl ?_
    refine J.move rfl rfl ?_
    refine J.move rfl rfl ?_
    refine J.indexAddrS Ty.el39 Ty.s24 rfl rfl (by omega) (by omega) rfl ?_
    refine J.loadA (vs := cI xs[i]) Ty.a24 Ty.s24 rfl rfl (fun w1 hw => rowF_at (hr.st hoff hw) (List.getElem?_eq_getElem hlt) (by omega)) rfl ?_
    refine J.callVB (v := .bool (decide (xs[i] = self))) (fun w1 w2 hw hb => hw.step hb) Ty.bd55 rfl rfl rfl (fun w1 hw => by simpa using sorted1_spec s self xs[i] w1 hw.owns') ?_
    refine J.nil ?_
    refine JX.thenN (hK7 _ _ ?_)
    refine JC.cond rfl (fun h1 => ?_) (fun h1 => ?_)
    · skip
      have he : xs[i] = self := by simp at h1; exact h1
      refine JC.seq (fun K8 hK8 => ?_)
      refine JC.region ?_
      refine J.move rfl rfl ?_
      refine J.assign rfl rfl ?_
      refine J.nil ?_
      refine JX.thenN (hK8 _ _ ?_)
      refine JC.ret ?_
      refine JX.blockR ?_
      refine JX.thenR ?_
      refine JX.thenR ?_
      refine JX.blockR ?_
      refine JX.thenR ?_
      refine JX.ret1 rfl rfl (fun w hw => ?_)
      first | exact ⟨by rw [placeI_at hlt hpre he], hw.same hw0 (fun p hp => hp)⟩ | exact ⟨by rw [placeI_no (by rw [← hge]; exact hpre)], hw.same hw0 (fun p hp => hp)⟩
    · skip
      have hne : ¬ xs[i] = self := fun e => by simp [e] at h1
      refine JC.skip ?_
      refine JX.blockN ?_
      refine JX.thenN (hK5 _ _ ?_)
      refine JC.region ?_
      (first | refine J.addN rfl rfl (by omega) (by omega) rfl ?_ | refine J.bin rfl rfl rfl rfl ?_)
      refine J.move rfl rfl ?_
      refine J.nil ?_
      refine JX.thenN ?_
      refine JX.again (i + 1) ?_ ?_ ?_
      · omega
      · exact ⟨rfl, rfl, rfl, rfl, rfl, trivial⟩
      · exact fun w1 hw => ⟨⟨hlt, fun j hj => by
        rcases Nat.lt_or_ge j i with h | h
        · exact hpre j h
        · have : j = i := by omega
          subst this
          rw [List.getElem?_eq_getElem hlt]; simp; exact hne⟩, hw⟩
  · skip
    have hge : i = xs.length := by simp at h0; omega
    refine JC.exit ?_
    refine JX.thenE ?_
    refine JX.thenE ?_
    refine JX.blockE ?_
    refine JX.thenN (hK1 _ _ ?_)
    refine JC.seq (fun K9 hK9 => ?_)
    refine JC.region ?_
    refine J.assign rfl rfl ?_
    refine J.nil ?_
    refine JX.thenN (hK9 _ _ ?_)
    refine JC.ret ?_
    refine JX.ret1 rfl rfl (fun w hw => ?_)
    first | exact ⟨by rw [placeI_at hlt hpre he], hw.same hw0 (fun p hp => hp)⟩ | exact ⟨by rw [placeI_no (by rw [← hge]; exact hpre)], hw.same hw0 (fun p hp => hp)⟩

theorem clone_nil (k c : Nat) (w : World) :
    Calls Tryz.prog 54 [.slice none k c].toArray w fun r w' => r = .returned (.slice none 0 0) ∧ Bel w w' := by
  refine calls_of_J (args := [.slice none k c]) (e := [(0, .slice none k c)]) Tryz.func54 rfl rfl ⟨rfl, trivial⟩ (St.start w) ?_
  refine JC.seq (fun K0 hK0 => ?_)
  refine JC.region ?_
  refine J.assign rfl rfl ?_
  refine J.nil ?_
  refine JX.thenN (hK0 _ _ ?_)
  refine JC.seq (fun K1 hK1 => ?_)
  refine JC.seq (fun K2 hK2 => ?_)
  refine JC.region ?_
  refine J.move rfl rfl ?_
  refine J.eqNilSl Ty.u39 rfl rfl rfl ?_
  refine J.nil ?_
  refine JX.thenN (hK2 _ _ ?_)
  first | refine JC.condT rfl ?_ | refine JC.cond rfl (fun _ => ?_) (fun h => by first | (exfalso; simp at h; omega) | (simp at h))
  refine JC.seq (fun K3 hK3 => ?_)
  refine JC.region ?_
  refine J.assign rfl rfl ?_
  refine J.nil ?_
  refine JX.thenN (hK3 _ _ ?_)
  refine JC.ret ?_
  refine JX.thenR ?_
  refine JX.ret1 rfl rfl (fun w hw => ?_)
  exact ⟨rfl, hw.below⟩

theorem fI_one {xs : List IDV} {y : Value} (h : y ∈ fI xs) : y.oneCell' = true := by
  simp only [fI, List.mem_flatMap] at h
  obtain ⟨x, _, hy⟩ := h
  simp [cI] at hy
  rcases hy with rfl | rfl | rfl | rfl | rfl | rfl | rfl | rfl | rfl | rfl | rfl | rfl | rfl | rfl | rfl | rfl <;> rfl
theorem clone_some (a : Addr) (c : Nat) (xs : List IDV) (w : World) (hr : Row w (.slice (some a) xs.length c) xs.length (fI xs)) (hl : xs.length ≤ 8796093022208) :
    Calls Tryz.prog 54 [.slice (some a) xs.length c].toArray w fun r w' => ∃ x : Value × List (Nat × Obj), r = .returned x.1 ∧ (True ∧ Vec 24 16 x.1 xs.length (fI xs) x.2) ∧ St w [] x.2 w' := by
  refine calls_of_J (args := [.slice (some a) xs.length c]) (e := [(0, .slice (some a) xs.length c)]) Tryz.func54 rfl rfl ⟨rfl, trivial⟩ (St.start w) ?_
  refine JC.seq (fun K0 hK0 => ?_)
  refine JC.region ?_
  refine J.assign rfl rfl ?_
  refine J.nil ?_
  refine JX.thenN (hK0 _ _ ?_)
  refine JC.seq (fun K1 hK1 => ?_)
  refine JC.seq (fun K2 hK2 => ?_)
  refine JC.region ?_
  refine J.move rfl rfl ?_
  refine J.eqNilSl Ty.u39 rfl rfl rfl ?_
  refine J.nil ?_
  refine JX.thenN (hK2 _ _ ?_)
  first | refine JC.condF rfl ?_ | refine JC.cond rfl (fun h => by first | (exfalso; simp at h; omega) | (simp at h)) (fun _ => ?_)
  refine JC.skip ?_
  refine JX.thenN (hK1 _ _ ?_)
  refine JC.seq (fun K3 hK3 => ?_)
  refine JC.region ?_
  refine J.buildSl (cs := []) Ty.el39 Ty.s24 Ty.zID rfl rfl rfl rfl rfl rfl rfl (fun b5 => ?_)
  refine J.move rfl rfl ?_
  refine J.append (lp := [(b5, cb [] 24)]) (xs := []) (ys := fI xs) (k := 0) (m := xs.length) Ty.el39 Ty.s24 Ty.b24 Ty.zID rfl (.inl ⟨24, Ty.u39⟩) rfl rfl ⟨rfl, .inr ⟨b5, 0, [], rfl, rfl, rfl, Nat.le_refl _⟩⟩ (fun w1 hw => .inl (hr.below (hw.drop (List.nil_sublist _)).below)) (fI_length xs) (fun y hy => fI_one hy) (by omega) (by omega) rfl (fun v7 lp7 hv7 => ?_)
  rw [Nat.zero_add, List.nil_append] at hv7
  refine J.assign rfl rfl ?_
  refine J.nil ?_
  refine JX.thenN (hK3 _ _ ?_)
  refine JC.ret ?_
  refine JX.ret1 rfl rfl (fun w hw => ?_)
  exact ⟨(v7, lp7), rfl, ⟨trivial, hv7⟩, hw.perm (by simp)⟩

end Go.Proofs.YtohldionclgljaaGreat
/-
  slices.DeleteFunc at identities: contract.
-/
namespace Go.Proofs.YtohldionclgljaaGreat
open Go.J Go.RowKit
set_option linter.unusedVariables false
set_option linter.unusedSimpArgs false
set_option maxRecDepth 4000
theorem placeI_spec : ∀ {xs : List IDV} {n : IDV}, 0 ≤ placeI xs n → ∃ i : Nat, placeI xs n = (i : Int) ∧ xs[i]? = some n ∧ ∀ j, j < i → xs[j]? ≠ some n
  | [], _, h => by simp [placeI] at h
  | x :: xs, n, h => by
    simp only [placeI] at h ⊢
    by_cases h0 : x = n
    · exact ⟨0, by simp [h0], by simp [h0], fun j hj => by omega⟩
    · rw [if_neg h0] at h ⊢
      by_cases h2 : placeI xs n < 0
      · rw [if_pos h2] at h; omega
      · rw [if_neg h2]
        obtain ⟨i, h3, h4, h5⟩ := placeI_spec (xs := xs) (n := n) (by omega)
        refine ⟨i + 1, by omega, by simpa using h4, fun j hj => ?_⟩
        cases j with
        | zero => simpa using h0
        | succ j => simpa using h5 j (by omega)
theorem DelInv.start {xs : List IDV} {self : IDV} {i : Nat} (hi : xs[i]? = some self) (hb : ∀ j, j < i → xs[j]? ≠ some self) : DelInv xs self ⟨i + 1, xs⟩ ∧ (delI (xs.take (i + 1)) self).length = i := by
  have hlt := (List.getElem?_eq_some_iff.1 hi).1
  have e1 : delI (xs.take i) self = xs.take i := delI_none (fun j hj => by
    have hj' : j < i := by rw [List.length_take] at hj; omega
    rw [List.getElem?_take_of_lt hj']
    exact hb j hj')
  have e2 : delI (xs.take (i + 1)) self = xs.take i := by
    rw [take_add_one hlt, delI, List.filter_append]
    have : xs[i] = self := by rw [List.getElem?_eq_getElem hlt] at hi; exact Option.some.inj hi
    rw [this]
    have := e1
    rw [delI] at this
    rw [this]
    simp
  have hl : (xs.take i).length = i := by rw [List.length_take]; omega
  refine ⟨⟨hlt, rfl, ?_, rfl⟩, by rw [e2, hl]⟩
  simp only
  rw [e2, hl]
structure DG where
  i : Nat
  j : Nat
  zs : List IDV

theorem deleteFunc_spec (q s cap : Nat) (xs : List IDV) (sp : List Value) (self : IDV) (w : World) (hw0 : Own w [(q, cb (fI xs ++ sp) 24), (s, cb (cI self) 24)]) (hcap : xs.length ≤ cap) (hsz : (fI xs ++ sp).length = cap * 16) (hl : xs.length < 4611686018427387904) :
    Calls Tryz.prog 53 [.slice (some ⟨q, 0, none⟩) xs.length cap, .func (.func 55) #[] #[.pointer (some ⟨s, 0, none⟩)]].toArray w fun r w' => ∃ sp' : List Value, r = .returned (.slice (some ⟨q, 0, none⟩) (delI xs self).length cap) ∧ (fI (delI xs self) ++ sp').length = cap * 16 ∧ St w [q, s] [(q, cb (fI (delI xs self) ++ sp') 24), (s, cb (cI self) 24)] w' := by
  refine calls_of_J (args := [.slice (some ⟨q, 0, none⟩) xs.length cap, .func (.func 55) #[] #[.pointer (some ⟨s, 0, none⟩)]]) (e := [(0, .slice (some ⟨q, 0, none⟩) xs.length cap), (1, .func (.func 55) #[] #[.pointer (some ⟨s, 0, none⟩)])]) Tryz.func53 rfl rfl ⟨rfl, rfl, trivial⟩ (hw0.st) ?_
  refine JC.seq (fun K0 hK0 => ?_)
  refine JC.region ?_
  refine J.assign rfl rfl ?_
  refine J.nil ?_
  refine JX.thenN (hK0 _ _ ?_)
  refine JC.seq (fun K1 hK1 => ?_)
  refine JC.region ?_
  refine J.move rfl rfl ?_
  refine J.move rfl rfl ?_
  refine J.callB (v := .int .i64 (placeI xs self)) (fun w1 w2 hw hb => hw.step hb) Ty.bd70 rfl rfl (fun w1 hw => indexFunc_spec (.slice (some ⟨q, 0, none⟩) xs.length cap) xs s self w1 (St.owns (l1 := [(s, cb (cI self) 24)]) (l := [(q, cb (fI xs ++ sp) 24)]) (hw.perm (by (refine perm_cnt (fun _ => ?_)); simp only [cntB_append, cntB_cons, cntB_nil, Nat.add_zero, Nat.zero_add]; try ac_rfl))) (Row.own hw (.head _) (by simp) hcap) (Off.mk (St.off (l1 := [(s, cb (cI self) 24)]) (l := [(q, cb (fI xs ++ sp) 24)]) (hw.perm (by (refine perm_cnt (fun _ => ?_)); simp only [cntB_append, cntB_cons, cntB_nil, Nat.add_zero, Nat.zero_add]; try ac_rfl)) (.head _))) hl) ?_
  refine J.assign rfl rfl ?_
  refine J.nil ?_
  refine JX.thenN (hK1 _ _ ?_)
  refine JC.seq (fun K2 hK2 => ?_)
  refine JC.seq (fun K3 hK3 => ?_)
  refine JC.region ?_
  refine J.move rfl rfl ?_
  refine J.bin rfl rfl rfl rfl ?_
  refine J.nil ?_
  refine JX.thenN (hK3 _ _ ?_)
  refine JC.cond rfl (fun h0 => ?_) (fun h0 => ?_)
  · skip
    have hno : placeI xs self = -1 := by simp at h0; exact h0
    have hxs : delI xs self = xs := List.filter_eq_self.2 fun x hx => by
      have : x ≠ self := fun e => by
        have := placeI_mem.2 (e ▸ hx)
        omega
      simpa using this
    refine JC.seq (fun K4 hK4 => ?_)
    refine JC.region ?_
    refine J.move rfl rfl ?_
    refine J.assign rfl rfl ?_
    refine J.nil ?_
    refine JX.thenN (hK4 _ _ ?_)
    refine JC.ret ?_
    refine JX.thenR ?_
    refine JX.ret1 rfl rfl (fun w hw => ?_)
    first | exact ⟨sp, by rw [hxs], by rw [hxs]; exact hsz, by rw [hxs]; exact hw⟩ | exact ⟨sp2, rfl, by rw [hc2, List.length_append, hfz, hzl, ← fI_length xs, ← List.length_append]; exact hsz, hw⟩
  · skip
    have hge := placeI_ge xs self
    have hne1 : placeI xs self ≠ -1 := by simp at h0; exact h0
    obtain ⟨i0, hi0, hi1, hi2⟩ := placeI_spec (xs := xs) (n := self) (by omega)
    have hi3 := (List.getElem?_eq_some_iff.1 hi1).1
    have hst := DelInv.start hi1 hi2
    refine JC.skip ?_
    refine JX.thenN (hK2 _ _ ?_)
    refine JC.seq (fun K5 hK5 => ?_)
    refine JC.seq (fun K6 hK6 => ?_)
    refine JC.region ?_
    refine J.name 5 rfl (congrArg (Value.int .i64) hi0) ?_
    refine J.move rfl rfl ?_
    (first | refine J.addN rfl rfl (by omega) (by omega) rfl ?_ | refine J.bin rfl rfl rfl rfl ?_)
    refine J.assign rfl rfl ?_
    refine J.nil ?_
    refine JX.thenN (hK6 _ _ ?_)
    refine JC.block ?_
    refine JC.conseq (JC.cov (f := (fun st => [(0, .slice (some ⟨q, 0, none⟩) xs.length cap), (1, .func (.func 55) #[] #[.pointer (some ⟨s, 0, none⟩)]), (5, .int .i64 ((st.i : Nat) : Int)), (6, .int .i64 ((st.j : Nat) : Int))]) (⟨i0, i0 + 1, xs⟩ : DG)) ⟨rfl, rfl, rfl, rfl, trivial⟩ (JC.loop (α := DG) (fun st => [(0, .slice (some ⟨q, 0, none⟩) xs.length cap), (1, .func (.func 55) #[] #[.pointer (some ⟨s, 0, none⟩)]), (5, .int .i64 ((st.i : Nat) : Int)), (6, .int .i64 ((st.j : Nat) : Int))]) (fun st w' => (DelInv xs self ⟨st.j, st.zs⟩ ∧ st.i = (delI (xs.take st.j) self).length) ∧ St w [q, s] [(q, cb (fI st.zs ++ sp) 24), (s, cb (cI self) 24)] w') (fun st => xs.length - st.j) (⟨i0, i0 + 1, xs⟩ : DG) (fun st => ?_))) (fun w hw => ⟨⟨hst.1, hst.2.symm⟩, hw⟩)
    obtain ⟨i, j, zs⟩ := st
    refine JC.pr (fun hx => ?_)
    obtain ⟨hI, hiv⟩ := hx
    have hjl := hI.hj
    have hzl := hI.hl
    simp only at hiv hjl hzl ⊢
    refine JC.seq (fun K7 hK7 => ?_)
    refine JC.seq (fun K8 hK8 => ?_)
    refine JC.region ?_
    refine J.move rfl rfl ?_
    refine J.move rfl rfl ?_
    refine J.lenS rfl Ty.u39 rfl rfl ?_
    refine J.bin rfl rfl rfl rfl ?_
    refine J.nil ?_
    refine JX.thenN (hK8 _ _ ?_)
    refine JC.cond rfl (fun h1 => ?_) (fun h1 => ?_)
    · skip
      have hlt : j < xs.length := by simp at h1; omega
      have hget : zs[j]? = some xs[j] := hI.get hlt
      have hile : i ≤ j := by
        have := delI_le (xs.take j) self
        rw [List.length_take] at this
        omega
      refine JC.skip ?_
      refine JX.thenN (hK7 _ _ ?_)
      refine JC.seq (fun K9 hK9 => ?_)
      refine JC.block ?_
      refine JC.seq (fun K10 hK10 => ?_)
      refine JC.region ?_
      refine J.move rfl rfl ?_
      refine J.move rfl rfl ?_
      refine J.indexAddrS Ty.el39 Ty.s24 rfl rfl (by omega) (by omega) rfl ?_
      refine J.loadA (vs := cI xs[j]) Ty.a24 Ty.s24 rfl rfl (fun w1 hw => rowF_at (xs := zs) (k := xs.length) (c := cap) (Row.own (o := 0) (cs := fI zs ++ sp) hw (.head _) (by rw [List.drop_zero, List.take_left]) hcap) hget (by omega)) rfl ?_
      refine J.alloc Ty.zID rfl rfl (fun b7 => ?_)
      refine J.storeW Ty.s24 rfl rfl rfl rfl rfl (by simp [Value.oneCell']) (by repeat first | exact .here | apply Up.there) ?_
      refine J.nil ?_
      refine JX.thenN (hK10 _ _ ?_)
      refine JC.seq (fun K11 hK11 => ?_)
      refine JC.region ?_
      refine J.move rfl rfl ?_
      refine J.loadOA (vs := cI xs[j]) Ty.a24 Ty.s24 rfl (by repeat first | exact .head _ | apply List.Mem.tail | apply List.mem_append_right) (by exact rfl) rfl rfl ?_
      refine J.callVB (v := .bool (decide (xs[j] = self))) (fun w1 w2 hw hb => hw.step hb) Ty.bd55 rfl rfl rfl (fun w1 hw => by simpa using sorted1_spec s self xs[j] w1 (St.owns (l1 := [(s, cb (cI self) 24)]) (l := [(b7, cb (cI xs[j]) 24), (q, cb (fI zs ++ sp) 24)]) (hw.perm (by (refine perm_cnt (fun _ => ?_)); simp only [cntB_append, cntB_cons, cntB_nil, Nat.add_zero, Nat.zero_add]; try ac_rfl)))) ?_
      refine J.not rfl rfl ?_
      refine J.nil ?_
      refine JX.thenN (hK11 _ _ ?_)
      refine JC.cond rfl (fun h2 => ?_) (fun h2 => ?_)
      · skip
        have hxn : xs[j] ≠ self := by simp at h2; exact h2
        have hput := hI.put hlt hxn
        simp only at hput
        refine JC.seq (fun K12 hK12 => ?_)
        refine JC.region ?_
        refine J.move rfl rfl ?_
        refine J.move rfl rfl ?_
        refine J.loadOA (vs := cI xs[j]) Ty.a24 Ty.s24 rfl (by repeat first | exact .head _ | apply List.Mem.tail | apply List.mem_append_right) (by exact rfl) rfl rfl ?_
        refine J.indexAddrS Ty.el39 Ty.s24 rfl rfl (by omega) (by omega) rfl ?_
        refine J.storeO (cs := fI zs ++ sp) (vs := cI xs[j]) Ty.s24 rfl rfl rfl rfl (by simp [Value.oneCell']) (.there .here) (by have := fI_length zs; simp only [List.length_append]; omega) ?_
        refine J.conseq (I' := St w [q, s] [(b7, cb (cI xs[j]) 24), (q, cb (fI (zs.set i xs[j]) ++ sp) 24), (s, cb (cI self) 24)]) ?_ (fun w1 hw => by rw [← fI_set (show i < zs.length by omega)]; exact hw)
        refine J.nil ?_
        refine JX.thenN (hK12 _ _ ?_)
        refine JC.region ?_
        refine J.move rfl rfl ?_
        (first | refine J.addN rfl rfl (by omega) (by omega) rfl ?_ | refine J.bin rfl rfl rfl rfl ?_)
        refine J.assign rfl rfl ?_
        refine J.nil ?_
        refine JX.blockN ?_
        refine JX.thenN (hK9 _ _ ?_)
        refine JC.region ?_
        refine J.move rfl rfl ?_
        (first | refine J.addN rfl rfl (by omega) (by omega) rfl ?_ | refine J.bin rfl rfl rfl rfl ?_)
        refine J.assign rfl rfl ?_
        refine J.nil ?_
        refine JX.thenN ?_
        refine JX.again (⟨i + 1, j + 1, zs.set i xs[j]⟩ : DG) ?_ ?_ ?_
        · simp only; omega
        · exact ⟨rfl, rfl, rfl, rfl, trivial⟩
        · exact fun w1 hw => ⟨⟨by rw [hiv]; exact hput.1, by rw [hput.2, ← hiv]⟩, hw.drop (List.sublist_cons_self _ _)⟩
      · skip
        have hxe : xs[j] = self := by simp at h2; exact h2
        have hskip := hI.skip hlt hxe
        simp only at hskip
        refine JC.skip ?_
        refine JX.blockN ?_
        refine JX.thenN (hK9 _ _ ?_)
        refine JC.region ?_
        refine J.move rfl rfl ?_
        (first | refine J.addN rfl rfl (by omega) (by omega) rfl ?_ | refine J.bin rfl rfl rfl rfl ?_)
        refine J.assign rfl rfl ?_
        refine J.nil ?_
        refine JX.thenN ?_
        refine JX.again (⟨i, j + 1, zs⟩ : DG) ?_ ?_ ?_
        · simp only; omega
        · exact ⟨rfl, rfl, rfl, rfl, trivial⟩
        · exact fun w1 hw => ⟨⟨hskip.1, by rw [hskip.2]; exact hiv⟩, hw.drop (List.sublist_cons_self _ _)⟩
    · skip
      have hge : j = xs.length := by simp at h1; omega
      subst hge
      have hfin : i = (delI xs self).length := by rw [hiv, List.take_of_length_le (Nat.le_refl _)]
      have hile : i ≤ xs.length := by have := delI_le xs self; omega
      have htk := hI.tk
      simp only at htk
      rw [List.take_of_length_le (Nat.le_refl _), ← hfin] at htk
      refine JC.exit ?_
      refine JX.thenE ?_
      refine JX.thenE ?_
      refine JX.blockE ?_
      refine JX.thenN (hK5 _ _ ?_)
      refine JC.seq (fun K13 hK13 => ?_)
      refine JC.region ?_
      refine J.move rfl rfl ?_
      refine J.move rfl rfl ?_
      obtain ⟨oo, hoo, hoz⟩ : ∃ oo, (if cap = i then some (⟨q, 0, none⟩ : Addr) else (some (⟨q, 0, none⟩ : Addr)).map (·.add (i * 16))) = some ⟨q, oo, none⟩ ∧ (xs.length - i = 0 ∨ oo = i * 16) := by
        by_cases hci : cap = i
        · exact ⟨0, by rw [if_pos hci], .inl (by omega)⟩
        · exact ⟨i * 16, by rw [if_neg hci]; simp [Addr.add]; omega, .inr rfl⟩
      refine J.sliceS Ty.el39 Ty.s24 rfl rfl rfl rfl rfl (by omega) (by omega) (by omega) rfl ?_
      refine J.name 38 rfl (show _ = Value.slice (some ⟨q, oo, none⟩) (xs.length - i) (cap - i) by rw [← hoo]; rfl) ?_
      have hfz := fI_length zs
      obtain ⟨sp2, hc1, hc2⟩ := clear_end (sp := sp) (Z := (Builtin.zeroCells (cI zI).toArray (xs.length - i)).toList) hzl htk hile (by rw [zeroCells_length]; rfl) hoz
      refine J.clear (cs := fI zs ++ sp) (sz := 16) rfl Ty.el39 Ty.zID rfl (by decide) (fun u hu => fI_one (xs := [zI]) (List.mem_append_left [] hu)) rfl .here (by simp only [List.length_append]; rcases hoz with h | h <;> omega) ?_
      refine J.conseq (I' := St w [q, s] [(q, cb (fI (delI xs self) ++ sp2) 24), (s, cb (cI self) 24)]) ?_ (fun w1 hw => by rw [← hc1]; exact hw)
      refine J.nil ?_
      refine JX.thenN (hK13 _ _ ?_)
      refine JC.seq (fun K14 hK14 => ?_)
      refine JC.region ?_
      refine J.move rfl rfl ?_
      refine J.move rfl rfl ?_
      refine J.sliceS Ty.el39 Ty.s24 rfl rfl rfl rfl rfl (by omega) (by omega) (by omega) rfl ?_
      refine J.name 41 rfl (show _ = Value.slice (some ⟨q, 0, none⟩) (delI xs self).length cap by rw [← hfin]; split <;> simp [Addr.add]) ?_
      refine J.assign rfl rfl ?_
      refine J.nil ?_
      refine JX.thenN (hK14 _ _ ?_)
      refine JC.ret ?_
      refine JX.ret1 rfl rfl (fun w hw => ?_)
      first | exact ⟨sp, by rw [hxs], by rw [hxs]; exact hsz, by rw [hxs]; exact hw⟩ | exact ⟨sp2, rfl, by rw [hc2, List.length_append, hfz, hzl, ← fI_length xs, ← List.length_append]; exact hsz, hw⟩

end Go.Proofs.YtohldionclgljaaGreat
/-
  slices.Compact at identities: contract.
-/
namespace Go.Proofs.YtohldionclgljaaGreat
open Go.J Go.RowKit
set_option linter.unusedVariables false
set_option linter.unusedSimpArgs false
set_option maxRecDepth 4000
def stepI (acc : List IDV) (x : IDV) : List IDV := if acc.getLast? = some x then acc else acc ++ [x]
/-- without neighbours that are one -/
def dedI (xs : List IDV) : List IDV := xs.foldl stepI []
theorem dedI_take {xs : List IDV} {j : Nat} (h : j < xs.length) : dedI (xs.take (j + 1)) = stepI (dedI (xs.take j)) xs[j] := by
  rw [take_add_one h, dedI, List.foldl_append]; rfl
theorem stepI_last (acc : List IDV) (x : IDV) : (stepI acc x).getLast? = some x := by
  unfold stepI
  split
  · assumption
  · simp
theorem dedI_last {xs : List IDV} {j : Nat} (h : j < xs.length) : (dedI (xs.take (j + 1))).getLast? = some xs[j] := by
  rw [dedI_take h, stepI_last]
theorem dedI_same {xs : List IDV} {j : Nat} (h : j + 1 < xs.length) (he : xs[j + 1] = xs[j]) : dedI (xs.take (j + 1 + 1)) = dedI (xs.take (j + 1)) := by
  rw [dedI_take h, stepI, if_pos (by rw [dedI_last (by omega), he])]
theorem dedI_new {xs : List IDV} {j : Nat} (h : j + 1 < xs.length) (he : xs[j + 1] ≠ xs[j]) : dedI (xs.take (j + 1 + 1)) = dedI (xs.take (j + 1)) ++ [xs[j + 1]] := by
  rw [dedI_take h, stepI, if_neg (by rw [dedI_last (by omega)]; intro e; exact he (Option.some.inj e).symm)]
theorem dedI_one {xs : List IDV} (h : 0 < xs.length) : dedI (xs.take 1) = xs.take 1 := by
  rw [dedI_take h, take_add_one h]; rfl
theorem dedI_short {xs : List IDV} (h : xs.length < 2) : dedI xs = xs := by
  match xs, h with
  | [], _ => rfl
  | [x], _ => rfl
  | x :: y :: r, h => simp at h; omega
structure DK where
  k : Nat
  k2 : Nat
  zs : List IDV
structure CInv (xs : List IDV) (k0 : Nat) (s : DK) : Prop where
  h1 : 1 ≤ s.k2
  hn : k0 + s.k2 ≤ xs.length
  hl : s.zs.length = xs.length
  hk : s.k = (dedI (xs.take (k0 + s.k2))).length
  tk : s.zs.take s.k = dedI (xs.take (k0 + s.k2))
  le : s.k ≤ k0 + s.k2 - 1
  dr : s.zs.drop (k0 + s.k2 - 1) = xs.drop (k0 + s.k2 - 1)
theorem CInv.get {xs : List IDV} {k0 : Nat} {s : DK} (h : CInv xs k0 s) {i : Nat} (hi : k0 + s.k2 - 1 ≤ i) (hlt : i < xs.length) : s.zs[i]? = some xs[i] := by
  have e : (s.zs.drop (k0 + s.k2 - 1))[i - (k0 + s.k2 - 1)]? = (xs.drop (k0 + s.k2 - 1))[i - (k0 + s.k2 - 1)]? := by rw [h.dr]
  rw [List.getElem?_drop, List.getElem?_drop, show k0 + s.k2 - 1 + (i - (k0 + s.k2 - 1)) = i by omega, List.getElem?_eq_getElem hlt] at e
  exact e
theorem drop_next {a b : List IDV} {i : Nat} (h : a.drop i = b.drop i) : a.drop (i + 1) = b.drop (i + 1) := by
  rw [← List.drop_drop, ← List.drop_drop, h]
theorem CInv.skip {xs : List IDV} {k0 : Nat} {s : DK} (h : CInv xs k0 s) (hlt : k0 + s.k2 < xs.length) (he : xs[k0 + s.k2] = xs[k0 + s.k2 - 1]'(by omega)) : CInv xs k0 ⟨s.k, s.k2 + 1, s.zs⟩ := by
  obtain ⟨j, hj⟩ : ∃ j, k0 + s.k2 = j + 1 := ⟨k0 + s.k2 - 1, by have := h.h1; omega⟩
  have e : dedI (xs.take (k0 + (s.k2 + 1))) = dedI (xs.take (k0 + s.k2)) := by
    rw [show k0 + (s.k2 + 1) = j + 1 + 1 by omega, hj]
    have hlt' : j + 1 < xs.length := by omega
    refine dedI_same hlt' ?_
    simp only [hj] at he
    simpa using he
  have hle := h.le
  have hdr := h.dr
  refine ⟨by simp only; omega, by simp only; omega, h.hl, by simp only; rw [e]; exact h.hk, by simp only; rw [e]; exact h.tk, by simp only; omega, ?_⟩
  simp only
  rw [show k0 + (s.k2 + 1) - 1 = (k0 + s.k2 - 1) + 1 by have := h.h1; omega]
  exact drop_next hdr
theorem CInv.put {xs : List IDV} {k0 : Nat} {s : DK} (h : CInv xs k0 s) (hlt : k0 + s.k2 < xs.length) (he : xs[k0 + s.k2] ≠ xs[k0 + s.k2 - 1]'(by omega)) : CInv xs k0 ⟨s.k + 1, s.k2 + 1, s.zs.set s.k xs[k0 + s.k2]⟩ := by
  obtain ⟨j, hj⟩ : ∃ j, k0 + s.k2 = j + 1 := ⟨k0 + s.k2 - 1, by have := h.h1; omega⟩
  have e : dedI (xs.take (k0 + (s.k2 + 1))) = dedI (xs.take (k0 + s.k2)) ++ [xs[k0 + s.k2]] := by
    have hlt' : j + 1 < xs.length := by omega
    simp only [hj] at he ⊢
    rw [show k0 + (s.k2 + 1) = j + 1 + 1 by omega]
    exact dedI_new hlt' (by simpa using he)
  have hle := h.le
  have h1 := h.h1
  have hk := h.hk
  have hl := h.hl
  refine ⟨by simp only; omega, by simp only; omega, by simp only [List.length_set]; exact h.hl, by simp only; rw [e, List.length_append, List.length_singleton, ← hk], ?_, by simp only; omega, ?_⟩
  · simp only
    rw [e, take_add_one (by rw [List.length_set, hl]; omega), List.getElem_set_self, List.take_set_of_le (Nat.le_refl _), h.tk]
  · simp only
    rw [show k0 + (s.k2 + 1) - 1 = (k0 + s.k2 - 1) + 1 by omega, List.drop_set_of_lt (by omega)]
    exact drop_next h.dr
theorem CInv.start {xs : List IDV} {k0 : Nat} (h1 : 1 ≤ k0) (hlt : k0 < xs.length) (hp : dedI (xs.take k0) = xs.take k0) (he : xs[k0] = xs[k0 - 1]'(by omega)) : CInv xs k0 ⟨k0, 1, xs⟩ := by
  obtain ⟨j, rfl⟩ : ∃ j, k0 = j + 1 := ⟨k0 - 1, by omega⟩
  have e : dedI (xs.take (j + 1 + 1)) = xs.take (j + 1) := by
    rw [dedI_same hlt (by simpa using he), hp]
  have hl : (xs.take (j + 1)).length = j + 1 := by rw [List.length_take]; omega
  exact ⟨Nat.le_refl _, by simp only; omega, rfl, by simp only; rw [e, hl], by simp only; rw [e], by simp only; omega, rfl⟩

theorem compact_spec (q cap : Nat) (xs : List IDV) (sp : List Value) (w : World) (hw0 : Own w [(q, cb (fI xs ++ sp) 24)]) (hcap : xs.length ≤ cap) (hsz : (fI xs ++ sp).length = cap * 16) (hl : xs.length < 4611686018427387904) :
    Calls Tryz.prog 57 [.slice (some ⟨q, 0, none⟩) xs.length cap].toArray w fun r w' => ∃ sp' : List Value, r = .returned (.slice (some ⟨q, 0, none⟩) (dedI xs).length cap) ∧ (fI (dedI xs) ++ sp').length = cap * 16 ∧ St w [q] [(q, cb (fI (dedI xs) ++ sp') 24)] w' := by
  refine calls_of_J (args := [.slice (some ⟨q, 0, none⟩) xs.length cap]) (e := [(0, .slice (some ⟨q, 0, none⟩) xs.length cap)]) Tryz.func57 rfl rfl ⟨rfl, trivial⟩ (hw0.st) ?_
  refine JC.seq (fun K0 hK0 => ?_)
  refine JC.region ?_
  refine J.assign rfl rfl ?_
  refine J.nil ?_
  refine JX.thenN (hK0 _ _ ?_)
  refine JC.seq (fun K1 hK1 => ?_)
  refine JC.seq (fun K2 hK2 => ?_)
  refine JC.region ?_
  refine J.move rfl rfl ?_
  refine J.lenS rfl Ty.u39 rfl rfl ?_
  refine J.bin rfl rfl rfl rfl ?_
  refine J.nil ?_
  refine JX.thenN (hK2 _ _ ?_)
  refine JC.cond rfl (fun h0 => ?_) (fun h0 => ?_)
  · skip
    have hxs : dedI xs = xs := dedI_short (by simp at h0; omega)
    refine JC.seq (fun K3 hK3 => ?_)
    refine JC.region ?_
    refine J.move rfl rfl ?_
    refine J.assign rfl rfl ?_
    refine J.nil ?_
    refine JX.thenN (hK3 _ _ ?_)
    refine JC.ret ?_
    refine JX.thenR ?_
    refine JX.ret1 rfl rfl (fun w hw => ?_)
    first | exact ⟨sp, by rw [hxs], by rw [hxs]; exact hsz, by rw [hxs]; exact hw⟩ | exact ⟨sp2, rfl, by rw [hc2, List.length_append, hfz, hzl, ← fI_length xs, ← List.length_append]; exact hsz, hw⟩
  · skip
    have hn2 : 2 ≤ xs.length := by simp at h0; omega
    refine JC.skip ?_
    refine JX.thenN (hK1 _ _ ?_)
    refine JC.seq (fun K4 hK4 => ?_)
    refine JC.seq (fun K5 hK5 => ?_)
    refine JC.region ?_
    refine J.assign rfl rfl ?_
    refine J.nil ?_
    refine JX.thenN (hK5 _ _ ?_)
    refine JC.block ?_
    refine JC.conseq (JC.cov (f := (fun k => [(0, .slice (some ⟨q, 0, none⟩) xs.length cap), (3, .int .i64 ((k : Nat) : Int))]) 1) ⟨rfl, rfl, trivial⟩ (JC.loop (α := Nat) (fun k => [(0, .slice (some ⟨q, 0, none⟩) xs.length cap), (3, .int .i64 ((k : Nat) : Int))]) (fun k w' => (1 ≤ k ∧ k ≤ xs.length ∧ dedI (xs.take k) = xs.take k) ∧ St w [q] [(q, cb (fI xs ++ sp) 24)] w') (fun k => xs.length - k) 1 (fun k => ?_))) (fun w hw => ⟨⟨Nat.le_refl _, by omega, dedI_one (by omega)⟩, hw⟩)
    refine JC.pr (fun hx => ?_)
    obtain ⟨hk1, hkn, hpre⟩ := hx
    refine JC.seq (fun K6 hK6 => ?_)
    refine JC.seq (fun K7 hK7 => ?_)
    refine JC.region ?_
    refine J.move rfl rfl ?_
    refine J.move rfl rfl ?_
    refine J.lenS rfl Ty.u39 rfl rfl ?_
    refine J.bin rfl rfl rfl rfl ?_
    refine J.nil ?_
    refine JX.thenN (hK7 _ _ ?_)
    refine JC.cond rfl (fun h1 => ?_) (fun h1 => ?_)
    · skip
      have hlt : k < xs.length := by simp at h1; omega
      refine JC.skip ?_
      refine JX.thenN (hK6 _ _ ?_)
      refine JC.seq (fun K8 hK8 => ?_)
      refine JC.block ?_
      refine JC.seq (fun K9 hK9 => ?_)
      apply JC.drawL 10 [Eqv (.slice (some ⟨q, 0, none⟩) xs.length cap), Eqv (.int .i64 ((k : Nat) : Int)), Eqv (.pointer (some ⟨q, 0 + (k : Int).toNat * 16, none⟩)), Eqv (.agg (cI xs[k]).toArray), Eqv (.slice (some ⟨q, 0, none⟩) xs.length cap), Eqv (.int .i64 ((k : Nat) : Int)), Eqv (.int .i64 ((k : Int) - 1)), Eqv (.pointer (some ⟨q, 0 + ((k : Int) - 1).toNat * 16, none⟩)), Eqv (.agg (cI (xs[k - 1]'(by omega))).toArray), Eqv (.bool (decide (xs[k] = xs[k - 1]'(by omega))))] Ty.mixed rfl rfl rfl (by kernel_rfl) rfl rfl (fun w w' hw hb => hw.step hb) ⟨fun _ _ _ h _ => h, fun _ _ _ h _ => h, fun _ _ _ h _ => h, fun _ _ _ h _ => h, fun _ _ _ h _ => h, fun _ _ _ h _ => h, fun _ _ _ h _ => h, fun _ _ _ h _ => h, fun _ _ _ h _ => h, fun _ _ _ h _ => h, trivial⟩ ?hstep ?htail
      case hstep =>
        refine ⟨fun wi => ?_, fun wi => ?_, fun wi => ?_, fun wi => ?_, fun wi => ?_, fun wi => ?_, fun wi => ?_, fun wi => ?_, fun wi => ?_, fun wi => ?_, trivial⟩
        · skip
          refine Fin.nil ?_
          refine J.move rfl rfl ?_
          exact J.finP rfl
        · skip
          refine Fin.nil ?_
          refine J.move rfl rfl ?_
          exact J.finP rfl
        · skip
          refine Fin.consE rfl (Fin.consE rfl (Fin.nil ?_))
          refine J.indexAddrS Ty.el39 Ty.s24 rfl rfl (by omega) (by omega) rfl ?_
          exact J.finP rfl
        · skip
          refine Fin.consE rfl (Fin.nil ?_)
          refine J.loadA (vs := cI xs[k]) Ty.a24 Ty.s24 rfl rfl (fun w1 hw => rowF_at (xs := xs) (k := xs.length) (c := cap) (Row.own (o := 0) (cs := fI xs ++ sp) hw.2 (.head _) (by rw [List.drop_zero, List.take_left]) hcap) (List.getElem?_eq_getElem hlt) (by omega)) rfl ?_
          exact J.finP rfl
        · skip
          refine Fin.nil ?_
          refine J.move rfl rfl ?_
          exact J.finP rfl
        · skip
          refine Fin.nil ?_
          refine J.move rfl rfl ?_
          exact J.finP rfl
        · skip
          refine Fin.consE rfl (Fin.nil ?_)
          (first | refine J.subN rfl rfl (by omega) (by omega) rfl ?_ | refine J.bin rfl rfl rfl rfl ?_)
          exact J.finP rfl
        · skip
          refine Fin.consE rfl (Fin.consE rfl (Fin.nil ?_))
          refine J.indexAddrS Ty.el39 Ty.s24 rfl rfl (by omega) (by omega) rfl ?_
          exact J.finP rfl
        · skip
          refine Fin.consE rfl (Fin.nil ?_)
          refine J.loadA (vs := cI (xs[k - 1]'(by omega))) Ty.a24 Ty.s24 rfl rfl (fun w1 hw => rowF_at (xs := xs) (k := xs.length) (c := cap) (Row.own (o := 0) (cs := fI xs ++ sp) hw.2 (.head _) (by rw [List.drop_zero, List.take_left]) hcap) (List.getElem?_eq_getElem (show k - 1 < xs.length by omega)) (by omega)) rfl ?_
          exact J.finP rfl
        · skip
          refine Fin.consE rfl (Fin.consE rfl (Fin.nil ?_))
          refine J.eqI Ty.QI Ty.keyI rfl rfl rfl ?_
          exact J.finP rfl
      case htail =>
        refine Fin.consE rfl (Fin.consE rfl (Fin.consE rfl (Fin.consE rfl (Fin.consE rfl (Fin.consE rfl (Fin.consE rfl (Fin.consE rfl (Fin.consE rfl (Fin.consE rfl (Fin.nil ?_))))))))))
        refine J.nil ?_
        refine JX.thenN (hK9 _ _ ?_)
        refine JC.cond rfl (fun h2 => ?_) (fun h2 => ?_)
        · skip
          have he2 : xs[k] = xs[k - 1]'(by omega) := by simp at h2; exact h2
          have hst := CInv.start hk1 hlt hpre he2
          obtain ⟨k0, hk0⟩ : ∃ k0, k0 = k := ⟨_, rfl⟩
          subst hk0
          refine JC.seq (fun K10 hK10 => ?_)
          refine JC.region ?_
          refine J.move rfl rfl ?_
          refine J.move rfl rfl ?_
          refine J.sliceS Ty.el39 Ty.s24 rfl rfl rfl rfl rfl (by omega) (by omega) (by omega) rfl ?_
          refine J.name 28 rfl (show _ = Value.slice (some ⟨q, k0 * 16, none⟩) (xs.length - k0) (cap - k0) by rw [if_neg (by omega)]; simp [Addr.add]; try omega) ?_
          refine J.assign rfl rfl ?_
          refine J.nil ?_
          refine JX.thenN (hK10 _ _ ?_)
          refine JC.seq (fun K11 hK11 => ?_)
          refine JC.seq (fun K12 hK12 => ?_)
          refine JC.region ?_
          refine J.assign rfl rfl ?_
          refine J.nil ?_
          refine JX.thenN (hK12 _ _ ?_)
          refine JC.block ?_
          refine JC.conseq (JC.cov (f := (fun st => [(0, .slice (some ⟨q, 0, none⟩) xs.length cap), (3, .int .i64 ((st.k : Nat) : Int)), (4, .slice (some ⟨q, k0 * 16, none⟩) (xs.length - k0) (cap - k0)), (5, .int .i64 ((st.k2 : Nat) : Int))]) (⟨k0, 1, xs⟩ : DK)) ⟨rfl, rfl, rfl, rfl, trivial⟩ (JC.loop (α := DK) (fun st => [(0, .slice (some ⟨q, 0, none⟩) xs.length cap), (3, .int .i64 ((st.k : Nat) : Int)), (4, .slice (some ⟨q, k0 * 16, none⟩) (xs.length - k0) (cap - k0)), (5, .int .i64 ((st.k2 : Nat) : Int))]) (fun st w' => CInv xs k0 st ∧ St w [q] [(q, cb (fI st.zs ++ sp) 24)] w') (fun st => xs.length - (k0 + st.k2)) (⟨k0, 1, xs⟩ : DK) (fun st => ?_))) (fun w hw => ⟨hst, hw⟩)
          obtain ⟨k, k2, zs⟩ := st
          refine JC.pr (fun hI => ?_)
          have hI1 := hI.h1
          have hIn := hI.hn
          have hzl := hI.hl
          have hIle := hI.le
          simp only at hI1 hIn hzl hIle ⊢
          refine JC.seq (fun K13 hK13 => ?_)
          refine JC.seq (fun K14 hK14 => ?_)
          refine JC.region ?_
          refine J.move rfl rfl ?_
          refine J.move rfl rfl ?_
          refine J.lenS rfl Ty.u39 rfl rfl ?_
          refine J.bin rfl rfl rfl rfl ?_
          refine J.nil ?_
          refine JX.thenN (hK14 _ _ ?_)
          refine JC.cond rfl (fun h3 => ?_) (fun h3 => ?_)
          · skip
            have hlt2 : k0 + k2 < xs.length := by simp at h3; omega
            refine JC.skip ?_
            refine JX.thenN (hK13 _ _ ?_)
            refine JC.seq (fun K15 hK15 => ?_)
            refine JC.block ?_
            refine JC.seq (fun K16 hK16 => ?_)
            apply JC.drawL 10 [Eqv (.slice (some ⟨q, k0 * 16, none⟩) (xs.length - k0) (cap - k0)), Eqv (.int .i64 ((k2 : Nat) : Int)), Eqv (.pointer (some ⟨q, k0 * 16 + (k2 : Int).toNat * 16, none⟩)), Eqv (.agg (cI (xs[k0 + k2]'hlt2)).toArray), Eqv (.slice (some ⟨q, k0 * 16, none⟩) (xs.length - k0) (cap - k0)), Eqv (.int .i64 ((k2 : Nat) : Int)), Eqv (.int .i64 ((k2 : Int) - 1)), Eqv (.pointer (some ⟨q, k0 * 16 + ((k2 : Int) - 1).toNat * 16, none⟩)), Eqv (.agg (cI (xs[k0 + k2 - 1]'(by omega))).toArray), Eqv (.bool (!decide ((xs[k0 + k2]'hlt2) = (xs[k0 + k2 - 1]'(by omega)))))] Ty.mixed rfl rfl rfl (by kernel_rfl) rfl rfl (fun w w' hw hb => hw.step hb) ⟨fun _ _ _ h _ => h, fun _ _ _ h _ => h, fun _ _ _ h _ => h, fun _ _ _ h _ => h, fun _ _ _ h _ => h, fun _ _ _ h _ => h, fun _ _ _ h _ => h, fun _ _ _ h _ => h, fun _ _ _ h _ => h, fun _ _ _ h _ => h, trivial⟩ ?hstep ?htail
            case hstep =>
              refine ⟨fun wi => ?_, fun wi => ?_, fun wi => ?_, fun wi => ?_, fun wi => ?_, fun wi => ?_, fun wi => ?_, fun wi => ?_, fun wi => ?_, fun wi => ?_, trivial⟩
              · skip
                refine Fin.nil ?_
                refine J.move rfl rfl ?_
                exact J.finP rfl
              · skip
                refine Fin.nil ?_
                refine J.move rfl rfl ?_
                exact J.finP rfl
              · skip
                refine Fin.consE rfl (Fin.consE rfl (Fin.nil ?_))
                refine J.indexAddrS Ty.el39 Ty.s24 rfl rfl (by omega) (by omega) rfl ?_
                exact J.finP rfl
              · skip
                refine Fin.consE rfl (Fin.nil ?_)
                refine J.loadA (vs := cI (xs[k0 + k2]'hlt2)) Ty.a24 Ty.s24 rfl rfl (fun w1 hw => rowF_at (xs := zs) (k := xs.length) (c := cap) (Row.own (o := 0) (cs := fI zs ++ sp) hw.2 (.head _) (by rw [List.drop_zero, List.take_left]) hcap) (hI.get (i := k0 + k2) (by simp only; omega) hlt2) (by omega)) rfl ?_
                exact J.finP rfl
              · skip
                refine Fin.nil ?_
                refine J.move rfl rfl ?_
                exact J.finP rfl
              · skip
                refine Fin.nil ?_
                refine J.move rfl rfl ?_
                exact J.finP rfl
              · skip
                refine Fin.consE rfl (Fin.nil ?_)
                (first | refine J.subN rfl rfl (by omega) (by omega) rfl ?_ | refine J.bin rfl rfl rfl rfl ?_)
                exact J.finP rfl
              · skip
                refine Fin.consE rfl (Fin.consE rfl (Fin.nil ?_))
                refine J.indexAddrS Ty.el39 Ty.s24 rfl rfl (by omega) (by omega) rfl ?_
                exact J.finP rfl
              · skip
                refine Fin.consE rfl (Fin.nil ?_)
                refine J.loadA (vs := cI (xs[k0 + k2 - 1]'(by omega))) Ty.a24 Ty.s24 rfl rfl (fun w1 hw => rowF_at (xs := zs) (k := xs.length) (c := cap) (Row.own (o := 0) (cs := fI zs ++ sp) hw.2 (.head _) (by rw [List.drop_zero, List.take_left]) hcap) (hI.get (i := k0 + k2 - 1) (Nat.le_refl _) (by omega)) (by omega)) rfl ?_
                exact J.finP rfl
              · skip
                refine Fin.consE rfl (Fin.consE rfl (Fin.nil ?_))
                refine J.neI Ty.QI Ty.keyI rfl rfl rfl ?_
                exact J.finP rfl
            case htail =>
              refine Fin.consE rfl (Fin.consE rfl (Fin.consE rfl (Fin.consE rfl (Fin.consE rfl (Fin.consE rfl (Fin.consE rfl (Fin.consE rfl (Fin.consE rfl (Fin.consE rfl (Fin.nil ?_))))))))))
              refine J.nil ?_
              refine JX.thenN (hK16 _ _ ?_)
              refine JC.cond rfl (fun h4 => ?_) (fun h4 => ?_)
              · skip
                have hne : (xs[k0 + k2]'hlt2) ≠ (xs[k0 + k2 - 1]'(by omega)) := by simp at h4; exact h4
                refine JC.seq (fun K17 hK17 => ?_)
                refine JC.region ?_
                refine J.move rfl rfl ?_
                refine J.move rfl rfl ?_
                refine J.move rfl rfl ?_
                refine J.move rfl rfl ?_
                refine J.indexAddrS Ty.el39 Ty.s24 rfl rfl (by omega) (by omega) rfl ?_
                refine J.loadA (vs := cI (xs[k0 + k2]'hlt2)) Ty.a24 Ty.s24 rfl rfl (fun w1 hw => rowF_at (xs := zs) (k := xs.length) (c := cap) (Row.own (o := 0) (cs := fI zs ++ sp) hw (.head _) (by rw [List.drop_zero, List.take_left]) hcap) (hI.get (i := k0 + k2) (by simp only; omega) hlt2) (by omega)) rfl ?_
                refine J.indexAddrS Ty.el39 Ty.s24 rfl rfl (by omega) (by omega) rfl ?_
                refine J.storeO (cs := fI zs ++ sp) (vs := cI (xs[k0 + k2]'hlt2)) Ty.s24 rfl rfl rfl rfl (by simp [Value.oneCell']) .here (by have := fI_length zs; simp only [List.length_append]; omega) ?_
                refine J.conseq (I' := St w [q] [(q, cb (fI (zs.set k (xs[k0 + k2]'hlt2)) ++ sp) 24)]) ?_ (fun w1 hw => by rw [← fI_set (show k < zs.length by omega)]; exact hw)
                refine J.nil ?_
                refine JX.thenN (hK17 _ _ ?_)
                refine JC.region ?_
                refine J.move rfl rfl ?_
                (first | refine J.addN rfl rfl (by omega) (by omega) rfl ?_ | refine J.bin rfl rfl rfl rfl ?_)
                refine J.assign rfl rfl ?_
                refine J.nil ?_
                refine JX.blockN ?_
                refine JX.thenN (hK15 _ _ ?_)
                refine JC.region ?_
                refine J.move rfl rfl ?_
                (first | refine J.addN rfl rfl (by omega) (by omega) rfl ?_ | refine J.bin rfl rfl rfl rfl ?_)
                refine J.assign rfl rfl ?_
                refine J.nil ?_
                refine JX.thenN ?_
                refine JX.again (⟨k + 1, k2 + 1, zs.set k (xs[k0 + k2]'hlt2)⟩ : DK) ?_ ?_ ?_
                · simp only; omega
                · exact ⟨rfl, rfl, rfl, rfl, trivial⟩
                · exact fun w1 hw => ⟨hI.put hlt2 hne, hw⟩
              · skip
                have heq : (xs[k0 + k2]'hlt2) = (xs[k0 + k2 - 1]'(by omega)) := by simp at h4; exact h4
                refine JC.skip ?_
                refine JX.blockN ?_
                refine JX.thenN (hK15 _ _ ?_)
                refine JC.region ?_
                refine J.move rfl rfl ?_
                (first | refine J.addN rfl rfl (by omega) (by omega) rfl ?_ | refine J.bin rfl rfl rfl rfl ?_)
                refine J.assign rfl rfl ?_
                refine J.nil ?_
                refine JX.thenN ?_
                refine JX.again (⟨k, k2 + 1, zs⟩ : DK) ?_ ?_ ?_
                · simp only; omega
                · exact ⟨rfl, rfl, rfl, rfl, trivial⟩
                · exact fun w1 hw => ⟨hI.skip hlt2 heq, hw⟩
          · skip
            have hge2 : k0 + k2 = xs.length := by simp at h3; omega
            have htk := hI.tk
            have hkk := hI.hk
            simp only at htk hkk
            rw [hge2, List.take_of_length_le (Nat.le_refl _)] at htk hkk
            refine JC.exit ?_
            refine JX.thenE ?_
            refine JX.thenE ?_
            refine JX.blockE ?_
            refine JX.thenN (hK11 _ _ ?_)
            refine JC.seq (fun K18 hK18 => ?_)
            refine JC.region ?_
            refine J.move rfl rfl ?_
            refine J.move rfl rfl ?_
            obtain ⟨oo, hoo, hoz⟩ : ∃ oo, (if cap = k then some (⟨q, 0, none⟩ : Addr) else (some (⟨q, 0, none⟩ : Addr)).map (·.add (k * 16))) = some ⟨q, oo, none⟩ ∧ (xs.length - k = 0 ∨ oo = k * 16) := by
              by_cases hci : cap = k
              · exact ⟨0, by rw [if_pos hci], .inl (by omega)⟩
              · exact ⟨k * 16, by rw [if_neg hci]; simp [Addr.add]; omega, .inr rfl⟩
            refine J.sliceS Ty.el39 Ty.s24 rfl rfl rfl rfl rfl (by omega) (by omega) (by omega) rfl ?_
            refine J.name 56 rfl (show _ = Value.slice (some ⟨q, oo, none⟩) (xs.length - k) (cap - k) by rw [← hoo]; rfl) ?_
            have hfz := fI_length zs
            obtain ⟨sp2, hc1, hc2⟩ := clear_end (sp := sp) (Z := (Builtin.zeroCells (cI zI).toArray (xs.length - k)).toList) hzl htk (by omega) (by rw [zeroCells_length]; rfl) hoz
            refine J.clear (cs := fI zs ++ sp) (sz := 16) rfl Ty.el39 Ty.zID rfl (by decide) (fun u hu => fI_one (xs := [zI]) (List.mem_append_left [] hu)) rfl .here (by simp only [List.length_append]; rcases hoz with h | h <;> omega) ?_
            refine J.conseq (I' := St w [q] [(q, cb (fI (dedI xs) ++ sp2) 24)]) ?_ (fun w1 hw => by rw [← hc1]; exact hw)
            refine J.nil ?_
            refine JX.thenN (hK18 _ _ ?_)
            refine JC.seq (fun K19 hK19 => ?_)
            refine JC.region ?_
            refine J.move rfl rfl ?_
            refine J.move rfl rfl ?_
            refine J.sliceS Ty.el39 Ty.s24 rfl rfl rfl rfl rfl (by omega) (by omega) (by omega) rfl ?_
            refine J.name 59 rfl (show _ = Value.slice (some ⟨q, 0, none⟩) (dedI xs).length cap by rw [← hkk]; split <;> simp [Addr.add]) ?_
            refine J.assign rfl rfl ?_
            refine J.nil ?_
            refine JX.thenN (hK19 _ _ ?_)
            refine JC.ret ?_
            refine JX.blockR ?_
            refine JX.thenR ?_
            refine JX.thenR ?_
            refine JX.blockR ?_
            refine JX.thenR ?_
            refine JX.ret1 rfl rfl (fun w hw => ?_)
            first | exact ⟨sp, by rw [hxs], by rw [hxs]; exact hsz, by rw [hxs]; exact hw⟩ | exact ⟨sp2, rfl, by rw [hc2, List.length_append, hfz, hzl, ← fI_length xs, ← List.length_append]; exact hsz, hw⟩
        · skip
          have hnext : dedI (xs.take (k + 1)) = xs.take (k + 1) := by
            obtain ⟨j, rfl⟩ : ∃ j, k = j + 1 := ⟨k - 1, by omega⟩
            rw [dedI_new hlt (by simpa using h2), hpre, ← take_add_one hlt]
          refine JC.skip ?_
          refine JX.blockN ?_
          refine JX.thenN (hK8 _ _ ?_)
          refine JC.region ?_
          refine J.move rfl rfl ?_
          (first | refine J.addN rfl rfl (by omega) (by omega) rfl ?_ | refine J.bin rfl rfl rfl rfl ?_)
          refine J.assign rfl rfl ?_
          refine J.nil ?_
          refine JX.thenN ?_
          refine JX.again (k + 1) ?_ ?_ ?_
          · omega
          · exact ⟨rfl, rfl, trivial⟩
          · exact fun w1 hw => ⟨⟨by omega, hlt, hnext⟩, hw⟩
    · skip
      have hge : k = xs.length := by simp at h1; omega
      have hxs : dedI xs = xs := by rw [hge, List.take_of_length_le (Nat.le_refl _)] at hpre; exact hpre
      refine JC.exit ?_
      refine JX.thenE ?_
      refine JX.thenE ?_
      refine JX.blockE ?_
      refine JX.thenN (hK4 _ _ ?_)
      refine JC.seq (fun K20 hK20 => ?_)
      refine JC.region ?_
      refine J.move rfl rfl ?_
      refine J.assign rfl rfl ?_
      refine J.nil ?_
      refine JX.thenN (hK20 _ _ ?_)
      refine JC.ret ?_
      refine JX.ret1 rfl rfl (fun w hw => ?_)
      first | exact ⟨sp, by rw [hxs], by rw [hxs]; exact hsz, by rw [hxs]; exact hw⟩ | exact ⟨sp2, rfl, by rw [hc2, List.length_append, hfz, hzl, ← fI_length xs, ← List.length_append]; exact hsz, hw⟩

end Go.Proofs.YtohldionclgljaaGreat
