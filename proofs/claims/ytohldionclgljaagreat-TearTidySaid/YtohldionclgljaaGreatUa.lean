/-
  The order of paths: table.Less, table.order and the document's Less: contracts; slices.SortFunc at paths.
-/
import Derived.Test.YtohldionclgljaaGreatLb
import Derived.Test.YtohldionclgljaaGreatTb
import Derived.Test.YtohldionclgljaaGreatUs
namespace Go.Proofs.YtohldionclgljaaGreat
open Go.J Go.RowKit
set_option linter.unusedVariables false
set_option linter.unusedSimpArgs false
open Go.Sort Go.Shelf
set_option maxRecDepth 4000
/-- the order of paths -/
def ltP (a b : PV) : Bool := decide (valI a.who < valI b.who) || (decide (a.who = b.who) && decide (a.n < b.n))
theorem ltP_iff {a b : PV} : ltP a b = true ↔ valI a.who < valI b.who ∨ (valI a.who = valI b.who ∧ a.n < b.n) := by
  unfold ltP
  rw [Bool.or_eq_true, Bool.and_eq_true, decide_eq_true_eq, decide_eq_true_eq, decide_eq_true_eq]
  exact ⟨fun h => h.elim .inl fun h => .inr ⟨by rw [h.1], h.2⟩, fun h => h.elim .inl fun h => .inr ⟨valI_inj h.1, h.2⟩⟩
theorem ltP_irrefl (a : PV) : ltP a a = false := by
  cases h : ltP a a
  · rfl
  · have := ltP_iff.1 h
    omega
theorem ltP_trans {a b c : PV} (h1 : ltP a b = true) (h2 : ltP b c = true) : ltP a c = true := by
  rw [ltP_iff] at *
  omega
theorem ltP_total {a b : PV} (h1 : ltP a b = false) (h2 : ltP b a = false) : a = b := by
  rw [Bool.eq_false_iff, ne_eq, ltP_iff] at h1 h2
  have h3 : valI a.who = valI b.who := by omega
  have h4 : a.n = b.n := by omega
  cases a; cases b
  simp only at h3 h4
  rw [valI_inj h3, h4]
theorem ltP_asymm {a b : PV} (h : ltP a b = true) : ltP b a = false := by
  cases h2 : ltP b a
  · rfl
  · rw [ltP_iff] at h h2
    omega
def cmpP (a b : PV) : Int := if ltP a b then -1 else if ltP b a then 1 else 0
theorem ltOf_cmpP (a b : PV) : ltOf cmpP a b = ltP a b := by
  unfold ltOf cmpP
  cases h1 : ltP a b
  · cases h2 : ltP b a <;> simp
  · simp
theorem swo_cmpP : SWO (ltOf cmpP) where
  irrefl x := by rw [ltOf_cmpP]; exact ltP_irrefl x
  trans x y z h1 h2 := by rw [ltOf_cmpP] at *; exact ltP_trans h1 h2
  ntrans x y z h1 h2 := by
    rw [ltOf_cmpP] at *
    rw [Bool.eq_false_iff, ne_eq, ltP_iff] at *
    omega
theorem leP_trans (a b c : PV) (h1 : (!(ltOf cmpP) b a) = true) (h2 : (!(ltOf cmpP) c b) = true) : (!(ltOf cmpP) c a) = true := by
  rw [Bool.not_eq_true', ltOf_cmpP, Bool.eq_false_iff, ne_eq, ltP_iff] at *
  omega
theorem leP_total (a b : PV) : ((!(ltOf cmpP) b a) || !(ltOf cmpP) a b) = true := by
  rw [ltOf_cmpP, ltOf_cmpP]
  cases h : ltP b a
  · rfl
  · rw [ltP_asymm h]; rfl
theorem cmpI_ne (a b : IDV) : cmpI a b ≠ 0 ↔ a ≠ b := by
  unfold cmpI
  constructor
  · intro h e
    subst e
    simp at h
  · intro h
    have : valI a ≠ valI b := fun e => h (valI_inj e)
    split
    · decide
    · rw [if_pos (by omega)]; decide
theorem cmpI_lt (a b : IDV) : cmpI a b < 0 ↔ valI a < valI b := by
  unfold cmpI
  split
  · simp [*]
  · split <;> simp [*]
instance : Inhabited PV := ⟨zP⟩
/- the cells of a row of paths -/
abbrev fP (xs : List PV) : List Value := xs.flatMap cP
theorem fP_length : ∀ xs : List PV, (fP xs).length = xs.length * 17
  | [] => rfl
  | x :: xs => by
    have := fP_length xs
    simp only [fP, List.flatMap_cons, List.length_append, List.length_cons] at this ⊢
    simp only [List.length_nil] at this ⊢
    omega
theorem fP_at : ∀ {xs : List PV} {i : Nat} {a : PV}, xs[i]? = some a → ((fP xs).drop (i * 17)).take 17 = cP a
  | [], i, a, h => by simp at h
  | x :: xs, 0, a, h => by
    simp only [List.getElem?_cons_zero, Option.some.injEq] at h
    subst h
    rfl
  | x :: xs, i + 1, a, h => by
    have ih := fP_at (xs := xs) (i := i) (by simpa using h)
    rw [show (i + 1) * 17 = 17 + i * 17 by omega]
    show (((cP x ++ fP xs).drop (17 + i * 17)).take 17) = cP a
    rw [← List.drop_drop, show (cP x ++ fP xs).drop 17 = fP xs from rfl]
    exact ih
theorem cP_len (a : PV) : (cP a).length = 17 := rfl
theorem one_cP (a : PV) : ∀ v, v ∈ cP a → v.oneCell' = true := by
  intro v hv
  simp only [cP, List.mem_append, List.mem_singleton] at hv
  rcases hv with hv | rfl
  · simp [cI] at hv
    rcases hv with rfl | rfl | rfl | rfl | rfl | rfl | rfl | rfl | rfl | rfl | rfl | rfl | rfl | rfl | rfl | rfl <;> rfl
  · rfl
theorem rowP_at {w : World} {b o k c q i : Nat} {xs : List PV} {a : PV} (h : Row w (.slice (some ⟨b, o, none⟩) k c) k (fP xs)) (hi : xs[i]? = some a) (hq : q = o + i * 17) : Cells w b q (cP a) := by
  have hl : i < xs.length := (List.getElem?_eq_some_iff.1 hi).1
  have hlen := fP_length xs
  obtain ⟨b', o', c', hv, _, hc⟩ := Row.some h (by omega)
  simp only [Value.slice.injEq, Option.some.injEq, Addr.mk.injEq] at hv
  obtain ⟨⟨rfl, rfl, _⟩, _, rfl⟩ := hv
  subst hq
  intro j hj
  have hj16 : j < 17 := hj
  rw [Nat.add_assoc, hc (i * 17 + j) (by omega)]
  have e := fP_at hi
  have : (cP a)[j]? = (((fP xs).drop (i * 17)).take 17)[j]? := by rw [e]
  rw [this, List.getElem?_take_of_lt hj16, List.getElem?_drop]
theorem flat_fP (xs : List PV) : flatK cP 17 xs.toArray = (fP xs).toArray := by
  have hl := fP_length xs
  apply Array.ext
  · simp [hl]
  · intro t h1 h2
    have ht : t < xs.length * 17 := by simpa using h1
    have hi : t / 17 < xs.length := by omega
    have e := get_flatK cP 17 xs.toArray t (by simpa using ht)
    rw [getElem!_pos _ t h1] at e
    rw [e]
    have hx : xs.toArray[t / 17]! = xs[t / 17] := by rw [getElem!_pos xs.toArray (t / 17) (by simpa using hi)]; simp
    rw [hx]
    have hr : t % 17 < (cP xs[t / 17]).length := by show t % 17 < 17; omega
    rw [getElem!_pos (cP xs[t / 17]) (t % 17) hr]
    have e2 := fP_at (List.getElem?_eq_getElem hi)
    have e3 : (cP xs[t / 17])[t % 17]? = (fP xs)[t]? := by
      rw [← e2, List.getElem?_take_of_lt (by omega), List.getElem?_drop, show t / 17 * 17 + t % 17 = t by omega]
    rw [List.getElem?_eq_getElem hr, List.getElem?_eq_getElem (by omega)] at e3
    simpa using Option.some.inj e3
theorem holds_fP {w : World} {q : Nat} {xs : List PV} {sp : List Value} {t : TypeId} (h : w.heap[q]? = some (cb (fP xs ++ sp) t)) : HoldsK cP 17 w q 0 xs.toArray := by
  intro j hj
  rw [flat_fP] at hj ⊢
  have hj' : j < (fP xs).length := by simpa using hj
  refine ⟨?_, frozen_of h⟩
  rw [cell_of h, Nat.zero_add, List.getElem?_append_left hj', List.getElem?_eq_getElem hj']
  rw [getElem!_pos (fP xs).toArray j hj]
  rfl
theorem sortWorldP_st {w : World} {q : Nat} {xs ys : List PV} {sp : List Value} {t : TypeId} (h : w.heap[q]? = some (cb (fP xs ++ sp) t)) (hl : ys.length = xs.length) (n : Nat) (os : Array Obj) :
    St w [q] [(q, cb (fP ys ++ sp) t)] (sortWorldK cP 17 w q 0 n ys.toArray os) := by
  have hq := lt_of_some h
  have hlx := fP_length xs
  have hly := fP_length ys
  have hheap : (sortWorldK cP 17 w q 0 n ys.toArray os).heap = (w.heap.modify q (onCells (putCells id 0 (flatK cP 17 ys.toArray)))) ++ os := rfl
  refine ⟨rfl, rfl, rfl, by rw [hheap]; simp, Nat.le_add_right _ _, fun b hb hS => ?_, fun p hp => ?_, fun p hp => ?_, by simp⟩
  · rw [hheap, Array.getElem?_append_left (by simpa using hb), Array.getElem?_modify, if_neg (by simp at hS; exact fun e => hS e.symm)]
  · simp only [List.mem_singleton] at hp
    subst hp
    rw [hheap, Array.getElem?_append_left (by simpa using hq), Array.getElem?_modify, if_pos rfl, h]
    simp only [Option.map_some, onCells, flat_fP]
    congr 2
    apply Array.ext
    · simp [putCells, hlx, hly, hl]
    · intro i h1 h2
      have hi : i < (fP ys ++ sp).length := by simpa using h2
      simp only [putCells, Array.getElem_mapIdx, Nat.zero_le, true_and, Nat.zero_add, Nat.sub_zero, id]
      by_cases hin : i < (fP ys).length
      · rw [if_pos (by simpa using hin), getElem!_pos _ i (by simpa using hin)]
        simp [List.getElem_append_left hin]
      · rw [if_neg (by simpa using hin)]
        simp only [List.getElem_toArray]
        rw [List.getElem_append_right (by omega), List.getElem_append_right (by omega)]
        congr 1
        omega
  · simp only [List.mem_singleton] at hp
    subst hp
    left; simp

theorem tless_spec (a b : PV) (w : World) :
    Calls Tryz.prog 77 [.agg (cP a).toArray, .agg (cP b).toArray].toArray w fun r w' => r = .returned (.bool (ltP a b)) ∧ Bel w w' := by
  refine calls_of_J (args := [.agg (cP a).toArray, .agg (cP b).toArray]) (e := [(0, .agg (cP a).toArray), (1, .agg (cP b).toArray)]) Tryz.func77 rfl rfl ⟨rfl, rfl, trivial⟩ (St.start w) ?_
  refine JC.seq (fun K0 hK0 => ?_)
  refine JC.region ?_
  refine J.box rfl rfl rfl (fun b2 => ?_)
  refine J.box rfl rfl rfl (fun b3 => ?_)
  refine J.assign rfl rfl ?_
  refine J.nil ?_
  refine JX.thenN (hK0 _ _ ?_)
  refine JC.seq (fun K1 hK1 => ?_)
  refine JC.seq (fun K2 hK2 => ?_)
  refine JC.region ?_
  refine J.fieldAddr Ty.fd31_0 rfl rfl ?_
  refine J.loadOA (vs := cI a.who) Ty.a24 Ty.s24 rfl (by repeat first | exact .head _ | apply List.Mem.tail | apply List.mem_append_right) (by exact rfl) rfl rfl ?_
  refine J.fieldAddr Ty.fd31_0 rfl rfl ?_
  refine J.loadOA (vs := cI b.who) Ty.a24 Ty.s24 rfl (by repeat first | exact .head _ | apply List.Mem.tail | apply List.mem_append_right) (by exact rfl) rfl rfl ?_
  refine J.callB (v := .int .i64 (cmpI a.who b.who)) (fun w1 w2 hw hb => hw.step hb) Ty.bd27 rfl rfl (fun w1 hw => compare_spec a.who b.who w1) ?_
  refine J.assign rfl rfl ?_
  refine J.nil ?_
  refine JX.thenN (hK2 _ _ ?_)
  refine JC.seq (fun K3 hK3 => ?_)
  refine JC.region ?_
  refine J.move rfl rfl ?_
  refine J.bin rfl rfl rfl rfl ?_
  refine J.nil ?_
  refine JX.thenN (hK3 _ _ ?_)
  refine JC.cond rfl (fun h0 => ?_) (fun h0 => ?_)
  · skip
    have hne : a.who ≠ b.who := by
      have : cmpI a.who b.who ≠ 0 := by simpa using h0
      exact (cmpI_ne _ _).1 this
    have hres : decide (cmpI a.who b.who < 0) = ltP a b := by
      unfold ltP
      simp [hne, cmpI_lt]
    refine JC.seq (fun K4 hK4 => ?_)
    refine JC.region ?_
    refine J.move rfl rfl ?_
    refine J.bin rfl rfl rfl rfl ?_
    refine J.assign rfl rfl ?_
    refine J.nil ?_
    refine JX.thenN (hK4 _ _ ?_)
    refine JC.ret ?_
    refine JX.thenR ?_
    refine JX.ret1 rfl rfl (fun w hw => ?_)
    exact ⟨by rw [hres], (hw.drop (List.nil_sublist _)).below⟩
  · skip
    have heq : a.who = b.who := by
      apply Classical.byContradiction
      intro h
      have := (cmpI_ne _ _).2 h
      simp [this] at h0
    have hres : decide (a.n < b.n) = ltP a b := by
      unfold ltP
      simp [heq]
    refine JC.skip ?_
    refine JX.thenN (hK1 _ _ ?_)
    refine JC.seq (fun K5 hK5 => ?_)
    refine JC.region ?_
    refine J.fieldAddr Ty.fd31_1 rfl rfl ?_
    refine J.loadO Ty.a2 rfl (by repeat first | exact .head _ | apply List.Mem.tail | apply List.mem_append_right) (by exact rfl) rfl ?_
    refine J.fieldAddr Ty.fd31_1 rfl rfl ?_
    refine J.loadO Ty.a2 rfl (by repeat first | exact .head _ | apply List.Mem.tail | apply List.mem_append_right) (by exact rfl) rfl ?_
    refine J.bin rfl rfl rfl rfl ?_
    refine J.assign rfl rfl ?_
    refine J.nil ?_
    refine JX.thenN (hK5 _ _ ?_)
    refine JC.ret ?_
    refine JX.ret1 rfl rfl (fun w hw => ?_)
    exact ⟨by rw [hres], (hw.drop (List.nil_sublist _)).below⟩

theorem order_spec (a b : PV) (w : World) :
    Calls Tryz.prog 63 [.agg (cP a).toArray, .agg (cP b).toArray].toArray w fun r w' => r = .returned (.int .i64 (cmpP a b)) ∧ Bel w w' := by
  refine calls_of_J (args := [.agg (cP a).toArray, .agg (cP b).toArray]) (e := [(0, .agg (cP a).toArray), (1, .agg (cP b).toArray)]) Tryz.func63 rfl rfl ⟨rfl, rfl, trivial⟩ (St.start w) ?_
  refine JC.seq (fun K0 hK0 => ?_)
  refine JC.region ?_
  refine J.box rfl rfl rfl (fun b2 => ?_)
  refine J.box rfl rfl rfl (fun b3 => ?_)
  refine J.assign rfl rfl ?_
  refine J.nil ?_
  refine JX.thenN (hK0 _ _ ?_)
  refine JC.seq (fun K1 hK1 => ?_)
  refine JC.block ?_
  refine JC.seq (fun K2 hK2 => ?_)
  refine JC.region ?_
  refine J.loadOA (vs := cP a) Ty.a31 Ty.s31 rfl (by repeat first | exact .head _ | apply List.Mem.tail | apply List.mem_append_right) (by exact rfl) rfl rfl ?_
  refine J.loadOA (vs := cP b) Ty.a31 Ty.s31 rfl (by repeat first | exact .head _ | apply List.Mem.tail | apply List.mem_append_right) (by exact rfl) rfl rfl ?_
  refine J.callB (v := .bool (ltP a b)) (fun w1 w2 hw hb => hw.step hb) Ty.bd77 rfl rfl (fun w1 hw => tless_spec a b w1) ?_
  refine J.assign rfl rfl ?_
  refine J.nil ?_
  refine JX.thenN (hK2 _ _ ?_)
  refine JC.cond rfl (fun h0 => ?_) (fun h0 => ?_)
  · skip
    have hc0 : ltP a b = true := h0
    refine JC.seq (fun K3 hK3 => ?_)
    refine JC.region ?_
    refine J.assign rfl rfl ?_
    refine J.nil ?_
    refine JX.thenN (hK3 _ _ ?_)
    refine JC.ret ?_
    refine JX.blockR ?_
    refine JX.thenR ?_
    refine JX.ret1 rfl rfl (fun w hw => ?_)
    exact ⟨by simp [cmpP, hc0], (hw.drop (List.nil_sublist _)).below⟩
  · skip
    have hc0 : ltP a b = false := h0
    refine JC.seq (fun K4 hK4 => ?_)
    refine JC.region ?_
    refine J.loadOA (vs := cP b) Ty.a31 Ty.s31 rfl (by repeat first | exact .head _ | apply List.Mem.tail | apply List.mem_append_right) (by exact rfl) rfl rfl ?_
    refine J.loadOA (vs := cP a) Ty.a31 Ty.s31 rfl (by repeat first | exact .head _ | apply List.Mem.tail | apply List.mem_append_right) (by exact rfl) rfl rfl ?_
    refine J.callB (v := .bool (ltP b a)) (fun w1 w2 hw hb => hw.step hb) Ty.bd77 rfl rfl (fun w1 hw => tless_spec b a w1) ?_
    refine J.assign rfl rfl ?_
    refine J.nil ?_
    refine JX.thenN (hK4 _ _ ?_)
    refine JC.cond rfl (fun h1 => ?_) (fun h1 => ?_)
    · skip
      have hc1 : ltP b a = true := h1
      refine JC.seq (fun K5 hK5 => ?_)
      refine JC.region ?_
      refine J.assign rfl rfl ?_
      refine J.nil ?_
      refine JX.thenN (hK5 _ _ ?_)
      refine JC.ret ?_
      refine JX.blockR ?_
      refine JX.thenR ?_
      refine JX.ret1 rfl rfl (fun w hw => ?_)
      exact ⟨by simp [cmpP, hc0, hc1], (hw.drop (List.nil_sublist _)).below⟩
    · skip
      have hc1 : ltP b a = false := h1
      refine JC.skip ?_
      refine JX.blockN ?_
      refine JX.thenN (hK1 _ _ ?_)
      refine JC.seq (fun K6 hK6 => ?_)
      refine JC.region ?_
      refine J.assign rfl rfl ?_
      refine J.nil ?_
      refine JX.thenN (hK6 _ _ ?_)
      refine JC.ret ?_
      refine JX.ret1 rfl rfl (fun w hw => ?_)
      exact ⟨by simp [cmpP, hc0, hc1], (hw.drop (List.nil_sublist _)).below⟩

theorem rless12_spec (a b : PV) (w : World) :
    Calls Tryz.prog 50 [.agg (cP a).toArray, .agg (cP b).toArray].toArray w fun r w' => r = .returned (.bool (ltP a b)) ∧ Bel w w' := by
  refine calls_of_J (args := [.agg (cP a).toArray, .agg (cP b).toArray]) (e := [(0, .agg (cP a).toArray), (1, .agg (cP b).toArray)]) Tryz.func50 rfl rfl ⟨rfl, rfl, trivial⟩ (St.start w) ?_
  refine JC.seq (fun K0 hK0 => ?_)
  refine JC.region ?_
  refine J.box rfl rfl rfl (fun b2 => ?_)
  refine J.box rfl rfl rfl (fun b3 => ?_)
  refine J.assign rfl rfl ?_
  refine J.nil ?_
  refine JX.thenN (hK0 _ _ ?_)
  refine JC.seq (fun K1 hK1 => ?_)
  refine JC.seq (fun K2 hK2 => ?_)
  refine JC.region ?_
  refine J.fieldAddr Ty.fd31_0 rfl rfl ?_
  refine J.loadOA (vs := cI a.who) Ty.a24 Ty.s24 rfl (by repeat first | exact .head _ | apply List.Mem.tail | apply List.mem_append_right) (by exact rfl) rfl rfl ?_
  refine J.fieldAddr Ty.fd31_0 rfl rfl ?_
  refine J.loadOA (vs := cI b.who) Ty.a24 Ty.s24 rfl (by repeat first | exact .head _ | apply List.Mem.tail | apply List.mem_append_right) (by exact rfl) rfl rfl ?_
  refine J.neI Ty.QI Ty.keyI rfl rfl rfl ?_
  refine J.nil ?_
  refine JX.thenN (hK2 _ _ ?_)
  refine JC.cond rfl (fun h0 => ?_) (fun h0 => ?_)
  · skip
    have hc0 : a.who ≠ b.who := by simpa using h0
    refine JC.seq (fun K3 hK3 => ?_)
    refine JC.region ?_
    refine J.fieldAddr Ty.fd31_0 rfl rfl ?_
    refine J.loadOA (vs := cI a.who) Ty.a24 Ty.s24 rfl (by repeat first | exact .head _ | apply List.Mem.tail | apply List.mem_append_right) (by exact rfl) rfl rfl ?_
    refine J.fieldAddr Ty.fd31_0 rfl rfl ?_
    refine J.loadOA (vs := cI b.who) Ty.a24 Ty.s24 rfl (by repeat first | exact .head _ | apply List.Mem.tail | apply List.mem_append_right) (by exact rfl) rfl rfl ?_
    refine J.callB (v := .bool (decide (valI a.who < valI b.who))) (fun w1 w2 hw hb => hw.step hb) Ty.bd44 rfl rfl (fun w1 hw => less_spec a.who b.who w1) ?_
    refine J.assign rfl rfl ?_
    refine J.nil ?_
    refine JX.thenN (hK3 _ _ ?_)
    refine JC.ret ?_
    refine JX.thenR ?_
    refine JX.ret1 rfl rfl (fun w hw => ?_)
    exact ⟨by simp [ltP, hc0], (hw.drop (List.nil_sublist _)).below⟩
  · skip
    have hc0 : a.who = b.who := by simpa using h0
    refine JC.skip ?_
    refine JX.thenN (hK1 _ _ ?_)
    refine JC.seq (fun K4 hK4 => ?_)
    refine JC.region ?_
    refine J.fieldAddr Ty.fd31_1 rfl rfl ?_
    refine J.loadO Ty.a2 rfl (by repeat first | exact .head _ | apply List.Mem.tail | apply List.mem_append_right) (by exact rfl) rfl ?_
    refine J.fieldAddr Ty.fd31_1 rfl rfl ?_
    refine J.loadO Ty.a2 rfl (by repeat first | exact .head _ | apply List.Mem.tail | apply List.mem_append_right) (by exact rfl) rfl ?_
    refine J.bin rfl rfl rfl rfl ?_
    refine J.assign rfl rfl ?_
    refine J.nil ?_
    refine JX.thenN (hK4 _ _ ?_)
    refine JC.ret ?_
    refine JX.ret1 rfl rfl (fun w hw => ?_)
    exact ⟨by simp [ltP, hc0], (hw.drop (List.nil_sublist _)).below⟩

theorem sortP_spec (q : Nat) (xs : List PV) (sp : List Value) (cap : Nat) (w : World) (hb : w.heap[q]? = some (cb (fP xs ++ sp) 31)) (hlen : xs.length < 4611686018427387904) :
    Calls Tryz.prog 75 [.slice (some ⟨q, 0, none⟩) xs.length cap, .func (.func 63) #[] #[]].toArray w fun r w' => ∃ ys : List PV, r = .returned (.tuple #[]) ∧ (ys.Perm xs ∧ ys.Pairwise (fun a b => ltP b a = false)) ∧ St w [q] [(q, cb (fP ys ++ sp) 31)] w' := by
  have hcmp : CmpLays Tryz.prog 63 #[] cP 17 cmpP q 0 xs.toArray.size w := by
    intro m os dk hd x y
    have h := order_spec x y (sortWorldK cP 17 w q 0 m dk os)
    exact Calls.mono h fun r w' ⟨h1, h2⟩ => ⟨h1, h2.grown⟩
  have hcon := AnyQ.slices_SortFunc_total Tryz.sortU 17 (fun w => Go.J.run_isAgg Ty.a31 w) (fun w => Go.J.run_sizeOf Ty.s31 w) cP (fun _ => rfl) (fun x v hv => one_cP x v hv) cmpP swo_cmpP 63 #[] q 0 cap xs.toArray w
    (fun args w => run_callFunc Ty.bd63 w) hcmp (holds_fP hb) (lt_of_some hb) (by simpa using hlen) (fun x y h1 h2 => by rw [ltOf_cmpP] at h1 h2; exact ltP_total h1 h2)
  change Calls Tryz.prog 75 _ _ _ at hcon
  rw [List.size_toArray] at hcon
  refine hcon.mono fun r w' ⟨h1, n, os, h2⟩ => ?_
  refine ⟨xs.mergeSort (fun x y => !(ltOf cmpP) y x), h1, ⟨List.mergeSort_perm _ _, ?_⟩, ?_⟩
  · have := List.pairwise_mergeSort (le := fun x y => !(ltOf cmpP) y x) leP_trans leP_total xs
    refine this.imp fun {a b} h => ?_
    simpa [ltOf_cmpP] using h
  · rw [h2]
    exact sortWorldP_st hb (by simp) n os

end Go.Proofs.YtohldionclgljaaGreat
