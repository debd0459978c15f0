/-
  SeekDone: texts that its proof needs, part 4.
-/
import Derived.Test.YtbafhclandendaaZSeekDonec
/-
  slices.CompactFunc at candidates: contract.
-/
namespace Go.Proofs.Ytbafhclandendaa
open Go.J Go.RowKit
set_option linter.unusedVariables false
set_option linter.unusedSimpArgs false
set_option maxRecDepth 8000
def stepC (acc : List CV) (x : CV) : List CV := if acc.getLast?.map (·.id) = some x.id then acc else acc ++ [x]
/-- the first of each row of neighbours of one identity -/
def dedC (xs : List CV) : List CV := xs.foldl stepC []
theorem dedC_take {xs : List CV} {j : Nat} (h : j < xs.length) : dedC (xs.take (j + 1)) = stepC (dedC (xs.take j)) xs[j] := by
  rw [take_add_one h, dedC, List.foldl_append]; rfl
theorem stepC_last (acc : List CV) (x : CV) : (stepC acc x).getLast?.map (·.id) = some x.id := by
  unfold stepC
  split
  · assumption
  · simp
theorem dedC_last {xs : List CV} {j : Nat} (h : j < xs.length) : (dedC (xs.take (j + 1))).getLast?.map (·.id) = some xs[j].id := by
  rw [dedC_take h, stepC_last]
theorem dedC_same {xs : List CV} {j : Nat} (h : j + 1 < xs.length) (he : xs[j + 1].id = xs[j].id) : dedC (xs.take (j + 1 + 1)) = dedC (xs.take (j + 1)) := by
  rw [dedC_take h, stepC, if_pos (by rw [dedC_last (by omega), he])]
theorem dedC_new {xs : List CV} {j : Nat} (h : j + 1 < xs.length) (he : xs[j + 1].id ≠ xs[j].id) : dedC (xs.take (j + 1 + 1)) = dedC (xs.take (j + 1)) ++ [xs[j + 1]] := by
  rw [dedC_take h, stepC, if_neg (by rw [dedC_last (by omega)]; intro e; exact he (Option.some.inj e).symm)]
theorem dedC_one {xs : List CV} (h : 0 < xs.length) : dedC (xs.take 1) = xs.take 1 := by
  rw [dedC_take h, take_add_one h]; rfl
theorem dedC_short {xs : List CV} (h : xs.length < 2) : dedC xs = xs := by
  match xs, h with
  | [], _ => rfl
  | [x], _ => rfl
  | x :: y :: r, h => simp at h; omega
structure DKC where
  k : Nat
  k2 : Nat
  zs : List CV
structure KInv (xs : List CV) (k0 : Nat) (s : DKC) : Prop where
  h1 : 1 ≤ s.k2
  hn : k0 + s.k2 ≤ xs.length
  hl : s.zs.length = xs.length
  hk : s.k = (dedC (xs.take (k0 + s.k2))).length
  tk : s.zs.take s.k = dedC (xs.take (k0 + s.k2))
  le : s.k ≤ k0 + s.k2 - 1
  dr : s.zs.drop (k0 + s.k2 - 1) = xs.drop (k0 + s.k2 - 1)
theorem KInv.get {xs : List CV} {k0 : Nat} {s : DKC} (h : KInv xs k0 s) {i : Nat} (hi : k0 + s.k2 - 1 ≤ i) (hlt : i < xs.length) : s.zs[i]? = some xs[i] := by
  have e : (s.zs.drop (k0 + s.k2 - 1))[i - (k0 + s.k2 - 1)]? = (xs.drop (k0 + s.k2 - 1))[i - (k0 + s.k2 - 1)]? := by rw [h.dr]
  rw [List.getElem?_drop, List.getElem?_drop, show k0 + s.k2 - 1 + (i - (k0 + s.k2 - 1)) = i by omega, List.getElem?_eq_getElem hlt] at e
  exact e
theorem drop_nextC {a b : List CV} {i : Nat} (h : a.drop i = b.drop i) : a.drop (i + 1) = b.drop (i + 1) := by
  rw [← List.drop_drop, ← List.drop_drop, h]
theorem KInv.skip {xs : List CV} {k0 : Nat} {s : DKC} (h : KInv xs k0 s) (hlt : k0 + s.k2 < xs.length) (he : xs[k0 + s.k2].id = (xs[k0 + s.k2 - 1]'(by omega)).id) : KInv xs k0 ⟨s.k, s.k2 + 1, s.zs⟩ := by
  obtain ⟨j, hj⟩ : ∃ j, k0 + s.k2 = j + 1 := ⟨k0 + s.k2 - 1, by have := h.h1; omega⟩
  have e : dedC (xs.take (k0 + (s.k2 + 1))) = dedC (xs.take (k0 + s.k2)) := by
    rw [show k0 + (s.k2 + 1) = j + 1 + 1 by omega, hj]
    have hlt' : j + 1 < xs.length := by omega
    refine dedC_same hlt' ?_
    simp only [hj] at he
    simpa using he
  have hle := h.le
  have hdr := h.dr
  refine ⟨by simp only; omega, by simp only; omega, h.hl, by simp only; rw [e]; exact h.hk, by simp only; rw [e]; exact h.tk, by simp only; omega, ?_⟩
  simp only
  rw [show k0 + (s.k2 + 1) - 1 = (k0 + s.k2 - 1) + 1 by have := h.h1; omega]
  exact drop_nextC hdr
theorem KInv.put {xs : List CV} {k0 : Nat} {s : DKC} (h : KInv xs k0 s) (hlt : k0 + s.k2 < xs.length) (he : xs[k0 + s.k2].id ≠ (xs[k0 + s.k2 - 1]'(by omega)).id) : KInv xs k0 ⟨s.k + 1, s.k2 + 1, s.zs.set s.k xs[k0 + s.k2]⟩ := by
  obtain ⟨j, hj⟩ : ∃ j, k0 + s.k2 = j + 1 := ⟨k0 + s.k2 - 1, by have := h.h1; omega⟩
  have e : dedC (xs.take (k0 + (s.k2 + 1))) = dedC (xs.take (k0 + s.k2)) ++ [xs[k0 + s.k2]] := by
    have hlt' : j + 1 < xs.length := by omega
    simp only [hj] at he ⊢
    rw [show k0 + (s.k2 + 1) = j + 1 + 1 by omega]
    exact dedC_new hlt' (by simpa using he)
  have hle := h.le
  have h1 := h.h1
  have hk := h.hk
  have hl := h.hl
  refine ⟨by simp only; omega, by simp only; omega, by simp only [List.length_set]; exact h.hl, by simp only; rw [e, List.length_append, List.length_singleton, ← hk], ?_, by simp only; omega, ?_⟩
  · simp only
    rw [e, take_add_one (by rw [List.length_set, hl]; omega), List.getElem_set_self, List.take_set_of_le (Nat.le_refl _), h.tk]
  · simp only
    rw [show k0 + (s.k2 + 1) - 1 = (k0 + s.k2 - 1) + 1 by omega, List.drop_set_of_lt (by omega)]
    exact drop_nextC h.dr
theorem KInv.start {xs : List CV} {k0 : Nat} (h1 : 1 ≤ k0) (hlt : k0 < xs.length) (hp : dedC (xs.take k0) = xs.take k0) (he : xs[k0].id = (xs[k0 - 1]'(by omega)).id) : KInv xs k0 ⟨k0, 1, xs⟩ := by
  obtain ⟨j, rfl⟩ : ∃ j, k0 = j + 1 := ⟨k0 - 1, by omega⟩
  have e : dedC (xs.take (j + 1 + 1)) = xs.take (j + 1) := by
    rw [dedC_same hlt (by simpa using he), hp]
  have hl : (xs.take (j + 1)).length = j + 1 := by rw [List.length_take]; omega
  exact ⟨Nat.le_refl _, by simp only; omega, rfl, by simp only; rw [e, hl], by simp only; rw [e], by simp only; omega, rfl⟩

theorem asks2_spec (x y : CV) (w : World) :
    Calls Try.prog 57 [.agg (cC x).toArray, .agg (cC y).toArray].toArray w fun r w' => r = .returned (.bool (decide (x.id = y.id))) ∧ Bel w w' := by
  refine calls_of_J (args := [.agg (cC x).toArray, .agg (cC y).toArray]) (e := [(0, .agg (cC x).toArray), (1, .agg (cC y).toArray)]) Try.func57 rfl rfl ⟨rfl, rfl, trivial⟩ (St.start w) ?_
  refine JC.seq (fun K0 hK0 => ?_)
  refine JC.region ?_
  refine J.box rfl rfl rfl (fun b2 => ?_)
  refine J.box rfl rfl rfl (fun b3 => ?_)
  refine J.assign rfl rfl ?_
  refine J.nil ?_
  refine JX.thenN (hK0 _ _ ?_)
  refine JC.seq (fun K1 hK1 => ?_)
  refine JC.region ?_
  refine J.fieldAddr Ty.fd75_0 rfl rfl ?_
  refine J.loadA (vs := cI x.id) Ty.a23 Ty.s23 rfl rfl (fun w1 hw => Cells.of_block (hw.own (b2, cb (cC x) 75) (by repeat first | exact .head _ | apply List.Mem.tail | apply List.mem_append_right)) rfl) rfl ?_
  refine J.fieldAddr Ty.fd75_0 rfl rfl ?_
  refine J.loadA (vs := cI y.id) Ty.a23 Ty.s23 rfl rfl (fun w1 hw => Cells.of_block (hw.own (b3, cb (cC y) 75) (by repeat first | exact .head _ | apply List.Mem.tail | apply List.mem_append_right)) rfl) rfl ?_
  refine J.eqI Ty.QI Ty.keyI rfl rfl rfl ?_
  refine J.assign rfl rfl ?_
  refine J.nil ?_
  refine JX.thenN (hK1 _ _ ?_)
  refine JC.ret ?_
  refine JX.ret1 rfl rfl (fun w hw => ?_)
  exact ⟨rfl, (hw.drop (List.nil_sublist _)).below⟩

theorem compactC_spec (q cap : Nat) (xs : List CV) (sp : List Value) (w : World) (hw0 : Own w [(q, cb (fC (xs) ++ sp) 75)]) (hcap : xs.length ≤ cap) (hsz : (fC xs ++ sp).length = cap * 35) (hl : xs.length ≤ 1099511627776) :
    Calls Try.prog 56 [.slice (some ⟨q, 0, none⟩) xs.length cap, .func (.func 57) #[] #[]].toArray w fun r w' => ∃ sp' : List Value, r = .returned (.slice (some ⟨q, 0, none⟩) (dedC xs).length cap) ∧ (fC (dedC xs) ++ sp').length = cap * 35 ∧ St w [q] [(q, cb (fC (dedC xs) ++ sp') 75)] w' := by
  refine calls_of_J (args := [.slice (some ⟨q, 0, none⟩) xs.length cap, .func (.func 57) #[] #[]]) (e := [(0, .slice (some ⟨q, 0, none⟩) xs.length cap), (1, .func (.func 57) #[] #[])]) Try.func56 rfl rfl ⟨rfl, rfl, trivial⟩ (hw0.st) ?_
  refine JC.seq (fun K0 hK0 => ?_)
  refine JC.region ?_
  refine J.assign rfl rfl ?_
  refine J.nil ?_
  refine JX.thenN (hK0 _ _ ?_)
  refine JC.seq (fun K1 hK1 => ?_)
  refine JC.seq (fun K2 hK2 => ?_)
  refine JC.region ?_
  refine J.move rfl rfl ?_
  refine J.lenS rfl Ty.u68 rfl rfl ?_
  refine J.bin rfl rfl rfl rfl ?_
  refine J.nil ?_
  refine JX.thenN (hK2 _ _ ?_)
  refine JC.cond rfl (fun h0 => ?_) (fun h0 => ?_)
  · skip
    have hxs : dedC xs = xs := dedC_short (by simp at h0; omega)
    refine JC.seq (fun K3 hK3 => ?_)
    refine JC.region ?_
    refine J.move rfl rfl ?_
    refine J.assign rfl rfl ?_
    refine J.nil ?_
    refine JX.thenN (hK3 _ _ ?_)
    refine JC.ret ?_
    refine JX.thenR ?_
    refine JX.ret1 rfl rfl (fun w hw => ?_)
    first | exact ⟨sp, by rw [hxs], by rw [hxs]; exact hsz, by rw [hxs]; exact hw⟩ | exact ⟨sp2, rfl, by rw [hc2, List.length_append, hfz, hzl, ← fC_len xs, ← List.length_append]; exact hsz, hw⟩
  · skip
    have hn2 : 2 ≤ xs.length := by simp at h0; omega
    refine JC.skip ?_
    refine JX.thenN (hK1 _ _ ?_)
    refine JC.seq (fun K4 hK4 => ?_)
    refine JC.seq (fun K5 hK5 => ?_)
    refine JC.region ?_
    refine J.assign rfl rfl ?_
    refine J.nil ?_
    refine JX.thenN (hK5 _ _ ?_)
    refine JC.block ?_
    refine JC.conseq (JC.cov (f := (fun k => [(0, .slice (some ⟨q, 0, none⟩) xs.length cap), (1, .func (.func 57) #[] #[]), (5, .int .i64 ((k : Nat) : Int))]) 1) ⟨rfl, rfl, rfl, trivial⟩ (JC.loop (α := Nat) (fun k => [(0, .slice (some ⟨q, 0, none⟩) xs.length cap), (1, .func (.func 57) #[] #[]), (5, .int .i64 ((k : Nat) : Int))]) (fun k w' => (1 ≤ k ∧ k ≤ xs.length ∧ dedC (xs.take k) = xs.take k) ∧ St w [q] [(q, cb (fC (xs) ++ sp) 75)] w') (fun k => xs.length - k) 1 (fun k => ?_))) (fun w hw => ⟨⟨Nat.le_refl _, by omega, dedC_one (by omega)⟩, hw⟩)
    refine JC.pr (fun hx => ?_)
    obtain ⟨hk1, hkn, hpre⟩ := hx
    refine JC.seq (fun K6 hK6 => ?_)
    refine JC.seq (fun K7 hK7 => ?_)
    refine JC.region ?_
    refine J.move rfl rfl ?_
    refine J.move rfl rfl ?_
    refine J.lenS rfl Ty.u68 rfl rfl ?_
    refine J.bin rfl rfl rfl rfl ?_
    refine J.nil ?_
    refine JX.thenN (hK7 _ _ ?_)
    refine JC.cond rfl (fun h1 => ?_) (fun h1 => ?_)
    · skip
      have hlt : k < xs.length := by simp at h1; omega
      refine JC.skip ?_
      refine JX.thenN (hK6 _ _ ?_)
      refine JC.seq (fun K8 hK8 => ?_)
      refine JC.block ?_
      refine JC.seq (fun K9 hK9 => ?_)
      apply JC.drawX (α := Nat × Unit) 11 (fun x => match x with | ⟨xu, uu⟩ => [.func (.func 57) #[] #[], .slice (some ⟨q, 0, none⟩) xs.length cap, .int .i64 ((k : Nat) : Int), .pointer (some ⟨q, 0 + (k : Int).toNat * 35, none⟩), .agg (cC xs[k]).toArray, .slice (some ⟨q, 0, none⟩) xs.length cap, .int .i64 ((k : Nat) : Int), .int .i64 ((k : Int) - 1), .pointer (some ⟨q, 0 + ((k : Int) - 1).toNat * 35, none⟩), .agg (cC (xs[k - 1]'(by omega))).toArray, .bool (decide (xs[k].id = (xs[k - 1]'(by omega)).id))]) (fun m x => match x with | ⟨xu, uu⟩ => fun w1 => (True) ∧ St w [q] ((q, cb (fC (xs) ++ sp) 75) :: []) w1) Ty.mixed rfl rfl rfl (by kernel_rfl) rfl rfl ?hinit ?hstep ?htail
      case hinit => exact fun w1 hw => ⟨(0, ()), trivial, hw.drew⟩
      case hstep =>
        refine ⟨fun m x hm hp => ?_, fun m x hm hp => ?_, fun m x hm hp => ?_, fun m x hm hp => ?_, fun m x hm hp => ?_, fun m x hm hp => ?_, fun m x hm hp => ?_, fun m x hm hp => ?_, fun m x hm hp => ?_, fun m x hm hp => ?_, fun m x hm hp => ?_, trivial⟩
        · skip
          obtain ⟨xu, uu⟩ := x
          show J _ _ _ _ _ (_) _
          refine J.pr (fun hF => ?_)
          refine J.move rfl rfl ?_
          exact J.finX rfl (fun _ hw => ⟨⟨xu, uu⟩, rfl, fun _ _ _ => rfl, hF, hw⟩)
        · skip
          obtain ⟨xu, uu⟩ := x
          show J _ _ _ _ _ (_) _
          refine J.pr (fun hF => ?_)
          refine J.move rfl rfl ?_
          exact J.finX rfl (fun _ hw => ⟨⟨xu, uu⟩, rfl, fun _ _ _ => rfl, hF, hw⟩)
        · skip
          obtain ⟨xu, uu⟩ := x
          show J _ _ _ _ _ (_) _
          refine J.pr (fun hF => ?_)
          refine J.move rfl rfl ?_
          exact J.finX rfl (fun _ hw => ⟨⟨xu, uu⟩, rfl, fun _ _ _ => rfl, hF, hw⟩)
        · skip
          obtain ⟨xu, uu⟩ := x
          show J _ _ _ _ _ ((20, .int .i64 ((k : Nat) : Int)) :: (19, .slice (some ⟨q, 0, none⟩) xs.length cap) :: _) _
          refine J.pr (fun hF => ?_)
          refine J.indexAddrS Ty.el68 Ty.s75 rfl rfl (by omega) (by omega) rfl ?_
          exact J.finX rfl (fun _ hw => ⟨⟨xu, uu⟩, rfl, fun _ _ _ => rfl, hF, hw⟩)
        · skip
          obtain ⟨xu, uu⟩ := x
          show J _ _ _ _ _ ((21, .pointer (some ⟨q, 0 + (k : Int).toNat * 35, none⟩)) :: _) _
          refine J.pr (fun hF => ?_)
          refine J.loadA (vs := cC xs[k]) Ty.a75 Ty.s75 rfl rfl (fun w1 hw => rowG_at (c := cC) (sz := 35) (xs := xs) (k := xs.length) (cc := cap) (fun _ => rfl) (Row.own (o := 0) (cs := fC xs ++ sp) hw (.head _) (by rw [List.drop_zero, List.take_left]) hcap) (List.getElem?_eq_getElem hlt) (by omega)) rfl ?_
          exact J.finX rfl (fun _ hw => ⟨⟨xu, uu⟩, rfl, fun _ _ _ => rfl, hF, hw⟩)
        · skip
          obtain ⟨xu, uu⟩ := x
          show J _ _ _ _ _ (_) _
          refine J.pr (fun hF => ?_)
          refine J.move rfl rfl ?_
          exact J.finX rfl (fun _ hw => ⟨⟨xu, uu⟩, rfl, fun _ _ _ => rfl, hF, hw⟩)
        · skip
          obtain ⟨xu, uu⟩ := x
          show J _ _ _ _ _ (_) _
          refine J.pr (fun hF => ?_)
          refine J.move rfl rfl ?_
          exact J.finX rfl (fun _ hw => ⟨⟨xu, uu⟩, rfl, fun _ _ _ => rfl, hF, hw⟩)
        · skip
          obtain ⟨xu, uu⟩ := x
          show J _ _ _ _ _ ((24, .int .i64 ((k : Nat) : Int)) :: _) _
          refine J.pr (fun hF => ?_)
          (first | refine J.subN rfl rfl (by omega) (by omega) rfl ?_ | refine J.bin rfl rfl rfl rfl ?_)
          exact J.finX rfl (fun _ hw => ⟨⟨xu, uu⟩, rfl, fun _ _ _ => rfl, hF, hw⟩)
        · skip
          obtain ⟨xu, uu⟩ := x
          show J _ _ _ _ _ ((25, .int .i64 ((k : Int) - 1)) :: (23, .slice (some ⟨q, 0, none⟩) xs.length cap) :: _) _
          refine J.pr (fun hF => ?_)
          refine J.indexAddrS Ty.el68 Ty.s75 rfl rfl (by omega) (by omega) rfl ?_
          exact J.finX rfl (fun _ hw => ⟨⟨xu, uu⟩, rfl, fun _ _ _ => rfl, hF, hw⟩)
        · skip
          obtain ⟨xu, uu⟩ := x
          show J _ _ _ _ _ ((26, .pointer (some ⟨q, 0 + ((k : Int) - 1).toNat * 35, none⟩)) :: _) _
          refine J.pr (fun hF => ?_)
          refine J.loadA (vs := cC (xs[k - 1]'(by omega))) Ty.a75 Ty.s75 rfl rfl (fun w1 hw => rowG_at (c := cC) (sz := 35) (xs := xs) (k := xs.length) (cc := cap) (fun _ => rfl) (Row.own (o := 0) (cs := fC xs ++ sp) hw (.head _) (by rw [List.drop_zero, List.take_left]) hcap) (List.getElem?_eq_getElem (show k - 1 < xs.length by omega)) (by omega)) rfl ?_
          exact J.finX rfl (fun _ hw => ⟨⟨xu, uu⟩, rfl, fun _ _ _ => rfl, hF, hw⟩)
        · skip
          obtain ⟨xu, uu⟩ := x
          show J _ _ _ _ _ ((27, .agg (cC (xs[k - 1]'(by omega))).toArray) :: (22, .agg (cC xs[k]).toArray) :: (18, .func (.func 57) #[] #[]) :: _) _
          refine J.pr (fun hF => ?_)
          refine J.callVB (v := .bool (decide (xs[k].id = (xs[k - 1]'(by omega)).id))) (fun w1 w2 hw hb => hw.step hb) Ty.bd57 rfl rfl rfl (fun w1 hw => asks2_spec xs[k] (xs[k - 1]'(by omega)) w1) ?_
          exact J.finX rfl (fun _ hw => ⟨⟨xu, uu⟩, rfl, fun _ _ _ => rfl, hF, hw⟩)
      case htail =>
        intro x
        obtain ⟨xu, uu⟩ := x
        show J _ _ _ _ _ ((28, .bool (decide (xs[k].id = (xs[k - 1]'(by omega)).id))) :: (27, .agg (cC (xs[k - 1]'(by omega))).toArray) :: (26, .pointer (some ⟨q, 0 + ((k : Int) - 1).toNat * 35, none⟩)) :: (25, .int .i64 ((k : Int) - 1)) :: (24, .int .i64 ((k : Nat) : Int)) :: (23, .slice (some ⟨q, 0, none⟩) xs.length cap) :: (22, .agg (cC xs[k]).toArray) :: (21, .pointer (some ⟨q, 0 + (k : Int).toNat * 35, none⟩)) :: (20, .int .i64 ((k : Nat) : Int)) :: (19, .slice (some ⟨q, 0, none⟩) xs.length cap) :: (18, .func (.func 57) #[] #[]) :: _) (fun w1 => (True) ∧ St w [q] ((q, cb (fC (xs) ++ sp) 75) :: []) w1)
        refine J.pr (fun hF => ?_)
        refine J.nil ?_
        refine JX.thenN (hK9 _ _ ?_)
        refine JC.cond rfl (fun h2 => ?_) (fun h2 => ?_)
        · skip
          have he2 : xs[k].id = (xs[k - 1]'(by omega)).id := by simp at h2; exact h2
          have hst := KInv.start hk1 hlt hpre he2
          obtain ⟨k0, hk0⟩ : ∃ k0, k0 = k := ⟨_, rfl⟩
          subst hk0
          refine JC.seq (fun K10 hK10 => ?_)
          refine JC.region ?_
          refine J.move rfl rfl ?_
          refine J.move rfl rfl ?_
          refine J.sliceS Ty.el68 Ty.s75 rfl rfl rfl rfl rfl (by omega) (by omega) (by omega) rfl ?_
          refine J.name 31 rfl (show _ = Value.slice (some ⟨q, k0 * 35, none⟩) (xs.length - k0) (cap - k0) by rw [if_neg (by omega)]; simp [Addr.add]; try omega) ?_
          refine J.assign rfl rfl ?_
          refine J.nil ?_
          refine JX.thenN (hK10 _ _ ?_)
          refine JC.seq (fun K11 hK11 => ?_)
          refine JC.seq (fun K12 hK12 => ?_)
          refine JC.region ?_
          refine J.assign rfl rfl ?_
          refine J.nil ?_
          refine JX.thenN (hK12 _ _ ?_)
          refine JC.block ?_
          refine JC.conseq (JC.cov (f := (fun st => [(0, .slice (some ⟨q, 0, none⟩) xs.length cap), (1, .func (.func 57) #[] #[]), (5, .int .i64 ((st.k : Nat) : Int)), (6, .slice (some ⟨q, k0 * 35, none⟩) (xs.length - k0) (cap - k0)), (7, .int .i64 ((st.k2 : Nat) : Int))]) (⟨k0, 1, xs⟩ : DKC)) ⟨rfl, rfl, rfl, rfl, rfl, trivial⟩ (JC.loop (α := DKC) (fun st => [(0, .slice (some ⟨q, 0, none⟩) xs.length cap), (1, .func (.func 57) #[] #[]), (5, .int .i64 ((st.k : Nat) : Int)), (6, .slice (some ⟨q, k0 * 35, none⟩) (xs.length - k0) (cap - k0)), (7, .int .i64 ((st.k2 : Nat) : Int))]) (fun st w' => KInv xs k0 st ∧ St w [q] [(q, cb (fC (st.zs) ++ sp) 75)] w') (fun st => xs.length - (k0 + st.k2)) (⟨k0, 1, xs⟩ : DKC) (fun st => ?_))) (fun w hw => ⟨hst, hw⟩)
          obtain ⟨k, k2, zs⟩ := st
          refine JC.pr (fun hI => ?_)
          have hI1 := hI.h1
          have hIn := hI.hn
          have hzl := hI.hl
          have hIle := hI.le
          simp only at hI1 hIn hzl hIle ⊢
          refine JC.seq (fun K13 hK13 => ?_)
          refine JC.seq (fun K14 hK14 => ?_)
          refine JC.region ?_
          refine J.move rfl rfl ?_
          refine J.move rfl rfl ?_
          refine J.lenS rfl Ty.u68 rfl rfl ?_
          refine J.bin rfl rfl rfl rfl ?_
          refine J.nil ?_
          refine JX.thenN (hK14 _ _ ?_)
          refine JC.cond rfl (fun h3 => ?_) (fun h3 => ?_)
          · skip
            have hlt2 : k0 + k2 < xs.length := by simp at h3; omega
            refine JC.skip ?_
            refine JX.thenN (hK13 _ _ ?_)
            refine JC.seq (fun K15 hK15 => ?_)
            refine JC.block ?_
            refine JC.seq (fun K16 hK16 => ?_)
            apply JC.drawX (α := Nat × Unit) 12 (fun x => match x with | ⟨xu, uu⟩ => [.func (.func 57) #[] #[], .slice (some ⟨q, k0 * 35, none⟩) (xs.length - k0) (cap - k0), .int .i64 ((k2 : Nat) : Int), .pointer (some ⟨q, k0 * 35 + (k2 : Int).toNat * 35, none⟩), .agg (cC (xs[k0 + k2]'hlt2)).toArray, .slice (some ⟨q, k0 * 35, none⟩) (xs.length - k0) (cap - k0), .int .i64 ((k2 : Nat) : Int), .int .i64 ((k2 : Int) - 1), .pointer (some ⟨q, k0 * 35 + ((k2 : Int) - 1).toNat * 35, none⟩), .agg (cC (xs[k0 + k2 - 1]'(by omega))).toArray, .bool (decide ((xs[k0 + k2]'hlt2).id = (xs[k0 + k2 - 1]'(by omega)).id)), .bool (!decide ((xs[k0 + k2]'hlt2).id = (xs[k0 + k2 - 1]'(by omega)).id))]) (fun m x => match x with | ⟨xu, uu⟩ => fun w1 => (True) ∧ St w [q] ((q, cb (fC (zs) ++ sp) 75) :: []) w1) Ty.mixed rfl rfl rfl (by kernel_rfl) rfl rfl ?hinit ?hstep ?htail
            case hinit => exact fun w1 hw => ⟨(0, ()), trivial, hw.drew⟩
            case hstep =>
              refine ⟨fun m x hm hp => ?_, fun m x hm hp => ?_, fun m x hm hp => ?_, fun m x hm hp => ?_, fun m x hm hp => ?_, fun m x hm hp => ?_, fun m x hm hp => ?_, fun m x hm hp => ?_, fun m x hm hp => ?_, fun m x hm hp => ?_, fun m x hm hp => ?_, fun m x hm hp => ?_, trivial⟩
              · skip
                obtain ⟨xu, uu⟩ := x
                show J _ _ _ _ _ (_) _
                refine J.pr (fun hF => ?_)
                refine J.move rfl rfl ?_
                exact J.finX rfl (fun _ hw => ⟨⟨xu, uu⟩, rfl, fun _ _ _ => rfl, hF, hw⟩)
              · skip
                obtain ⟨xu, uu⟩ := x
                show J _ _ _ _ _ (_) _
                refine J.pr (fun hF => ?_)
                refine J.move rfl rfl ?_
                exact J.finX rfl (fun _ hw => ⟨⟨xu, uu⟩, rfl, fun _ _ _ => rfl, hF, hw⟩)
              · skip
                obtain ⟨xu, uu⟩ := x
                show J _ _ _ _ _ (_) _
                refine J.pr (fun hF => ?_)
                refine J.move rfl rfl ?_
                exact J.finX rfl (fun _ hw => ⟨⟨xu, uu⟩, rfl, fun _ _ _ => rfl, hF, hw⟩)
              · skip
                obtain ⟨xu, uu⟩ := x
                show J _ _ _ _ _ ((40, .int .i64 ((k2 : Nat) : Int)) :: (39, .slice (some ⟨q, k0 * 35, none⟩) (xs.length - k0) (cap - k0)) :: _) _
                refine J.pr (fun hF => ?_)
                refine J.indexAddrS Ty.el68 Ty.s75 rfl rfl (by omega) (by omega) rfl ?_
                exact J.finX rfl (fun _ hw => ⟨⟨xu, uu⟩, rfl, fun _ _ _ => rfl, hF, hw⟩)
              · skip
                obtain ⟨xu, uu⟩ := x
                show J _ _ _ _ _ ((41, .pointer (some ⟨q, k0 * 35 + (k2 : Int).toNat * 35, none⟩)) :: _) _
                refine J.pr (fun hF => ?_)
                refine J.loadA (vs := cC (xs[k0 + k2]'hlt2)) Ty.a75 Ty.s75 rfl rfl (fun w1 hw => rowG_at (c := cC) (sz := 35) (xs := zs) (k := xs.length) (cc := cap) (fun _ => rfl) (Row.own (o := 0) (cs := fC zs ++ sp) hw (.head _) (by rw [List.drop_zero, List.take_left]) hcap) (hI.get (i := k0 + k2) (by simp only; omega) hlt2) (by omega)) rfl ?_
                exact J.finX rfl (fun _ hw => ⟨⟨xu, uu⟩, rfl, fun _ _ _ => rfl, hF, hw⟩)
              · skip
                obtain ⟨xu, uu⟩ := x
                show J _ _ _ _ _ (_) _
                refine J.pr (fun hF => ?_)
                refine J.move rfl rfl ?_
                exact J.finX rfl (fun _ hw => ⟨⟨xu, uu⟩, rfl, fun _ _ _ => rfl, hF, hw⟩)
              · skip
                obtain ⟨xu, uu⟩ := x
                show J _ _ _ _ _ (_) _
                refine J.pr (fun hF => ?_)
                refine J.move rfl rfl ?_
                exact J.finX rfl (fun _ hw => ⟨⟨xu, uu⟩, rfl, fun _ _ _ => rfl, hF, hw⟩)
              · skip
                obtain ⟨xu, uu⟩ := x
                show J _ _ _ _ _ ((44, .int .i64 ((k2 : Nat) : Int)) :: _) _
                refine J.pr (fun hF => ?_)
                (first | refine J.subN rfl rfl (by omega) (by omega) rfl ?_ | refine J.bin rfl rfl rfl rfl ?_)
                exact J.finX rfl (fun _ hw => ⟨⟨xu, uu⟩, rfl, fun _ _ _ => rfl, hF, hw⟩)
              · skip
                obtain ⟨xu, uu⟩ := x
                show J _ _ _ _ _ ((45, .int .i64 ((k2 : Int) - 1)) :: (43, .slice (some ⟨q, k0 * 35, none⟩) (xs.length - k0) (cap - k0)) :: _) _
                refine J.pr (fun hF => ?_)
                refine J.indexAddrS Ty.el68 Ty.s75 rfl rfl (by omega) (by omega) rfl ?_
                exact J.finX rfl (fun _ hw => ⟨⟨xu, uu⟩, rfl, fun _ _ _ => rfl, hF, hw⟩)
              · skip
                obtain ⟨xu, uu⟩ := x
                show J _ _ _ _ _ ((46, .pointer (some ⟨q, k0 * 35 + ((k2 : Int) - 1).toNat * 35, none⟩)) :: _) _
                refine J.pr (fun hF => ?_)
                refine J.loadA (vs := cC (xs[k0 + k2 - 1]'(by omega))) Ty.a75 Ty.s75 rfl rfl (fun w1 hw => rowG_at (c := cC) (sz := 35) (xs := zs) (k := xs.length) (cc := cap) (fun _ => rfl) (Row.own (o := 0) (cs := fC zs ++ sp) hw (.head _) (by rw [List.drop_zero, List.take_left]) hcap) (hI.get (i := k0 + k2 - 1) (Nat.le_refl _) (by omega)) (by omega)) rfl ?_
                exact J.finX rfl (fun _ hw => ⟨⟨xu, uu⟩, rfl, fun _ _ _ => rfl, hF, hw⟩)
              · skip
                obtain ⟨xu, uu⟩ := x
                show J _ _ _ _ _ ((47, .agg (cC (xs[k0 + k2 - 1]'(by omega))).toArray) :: (42, .agg (cC (xs[k0 + k2]'hlt2)).toArray) :: (38, .func (.func 57) #[] #[]) :: _) _
                refine J.pr (fun hF => ?_)
                refine J.callVB (v := .bool (decide ((xs[k0 + k2]'hlt2).id = (xs[k0 + k2 - 1]'(by omega)).id))) (fun w1 w2 hw hb => hw.step hb) Ty.bd57 rfl rfl rfl (fun w1 hw => asks2_spec (xs[k0 + k2]'hlt2) (xs[k0 + k2 - 1]'(by omega)) w1) ?_
                exact J.finX rfl (fun _ hw => ⟨⟨xu, uu⟩, rfl, fun _ _ _ => rfl, hF, hw⟩)
              · skip
                obtain ⟨xu, uu⟩ := x
                show J _ _ _ _ _ ((48, .bool (decide ((xs[k0 + k2]'hlt2).id = (xs[k0 + k2 - 1]'(by omega)).id))) :: _) _
                refine J.pr (fun hF => ?_)
                refine J.not rfl rfl ?_
                exact J.finX rfl (fun _ hw => ⟨⟨xu, uu⟩, rfl, fun _ _ _ => rfl, hF, hw⟩)
            case htail =>
              intro x
              obtain ⟨xu, uu⟩ := x
              show J _ _ _ _ _ ((49, .bool (!decide ((xs[k0 + k2]'hlt2).id = (xs[k0 + k2 - 1]'(by omega)).id))) :: (48, .bool (decide ((xs[k0 + k2]'hlt2).id = (xs[k0 + k2 - 1]'(by omega)).id))) :: (47, .agg (cC (xs[k0 + k2 - 1]'(by omega))).toArray) :: (46, .pointer (some ⟨q, k0 * 35 + ((k2 : Int) - 1).toNat * 35, none⟩)) :: (45, .int .i64 ((k2 : Int) - 1)) :: (44, .int .i64 ((k2 : Nat) : Int)) :: (43, .slice (some ⟨q, k0 * 35, none⟩) (xs.length - k0) (cap - k0)) :: (42, .agg (cC (xs[k0 + k2]'hlt2)).toArray) :: (41, .pointer (some ⟨q, k0 * 35 + (k2 : Int).toNat * 35, none⟩)) :: (40, .int .i64 ((k2 : Nat) : Int)) :: (39, .slice (some ⟨q, k0 * 35, none⟩) (xs.length - k0) (cap - k0)) :: (38, .func (.func 57) #[] #[]) :: _) (fun w1 => (True) ∧ St w [q] ((q, cb (fC (zs) ++ sp) 75) :: []) w1)
              refine J.pr (fun hF => ?_)
              refine J.nil ?_
              refine JX.thenN (hK16 _ _ ?_)
              refine JC.cond rfl (fun h4 => ?_) (fun h4 => ?_)
              · skip
                have hne : (xs[k0 + k2]'hlt2).id ≠ (xs[k0 + k2 - 1]'(by omega)).id := by simp at h4; exact h4
                refine JC.seq (fun K17 hK17 => ?_)
                refine JC.region ?_
                refine J.move rfl rfl ?_
                refine J.move rfl rfl ?_
                refine J.move rfl rfl ?_
                refine J.move rfl rfl ?_
                refine J.indexAddrS Ty.el68 Ty.s75 rfl rfl (by omega) (by omega) rfl ?_
                refine J.loadA (vs := cC (xs[k0 + k2]'hlt2)) Ty.a75 Ty.s75 rfl rfl (fun w1 hw => rowG_at (c := cC) (sz := 35) (xs := zs) (k := xs.length) (cc := cap) (fun _ => rfl) (Row.own (o := 0) (cs := fC zs ++ sp) hw (.head _) (by rw [List.drop_zero, List.take_left]) hcap) (hI.get (i := k0 + k2) (by simp only; omega) hlt2) (by omega)) rfl ?_
                refine J.indexAddrS Ty.el68 Ty.s75 rfl rfl (by omega) (by omega) rfl ?_
                refine J.storeO (cs := fC zs ++ sp) (vs := cC (xs[k0 + k2]'hlt2)) Ty.s75 rfl rfl rfl rfl (one_cC _) .here (by have := fC_len zs; simp only [List.length_append]; omega) ?_
                refine J.conseq (I' := St w [q] [(q, cb (fC (zs.set k (xs[k0 + k2]'hlt2)) ++ sp) 75)]) ?_ (fun w1 hw => by rw [← set_C (show k < zs.length by omega) (o := 0 + (k : Int).toNat * 35) (by omega)]; exact hw)
                refine J.nil ?_
                refine JX.thenN (hK17 _ _ ?_)
                refine JC.region ?_
                refine J.move rfl rfl ?_
                (first | refine J.addN rfl rfl (by omega) (by omega) rfl ?_ | refine J.bin rfl rfl rfl rfl ?_)
                refine J.assign rfl rfl ?_
                refine J.nil ?_
                refine JX.blockN ?_
                refine JX.thenN (hK15 _ _ ?_)
                refine JC.region ?_
                refine J.move rfl rfl ?_
                (first | refine J.addN rfl rfl (by omega) (by omega) rfl ?_ | refine J.bin rfl rfl rfl rfl ?_)
                refine J.assign rfl rfl ?_
                refine J.nil ?_
                refine JX.thenN ?_
                refine JX.again (⟨k + 1, k2 + 1, zs.set k (xs[k0 + k2]'hlt2)⟩ : DKC) ?_ ?_ ?_
                · simp only; omega
                · exact ⟨rfl, rfl, rfl, rfl, rfl, trivial⟩
                · exact fun w1 hw => ⟨hI.put hlt2 hne, hw⟩
              · skip
                have heq : (xs[k0 + k2]'hlt2).id = (xs[k0 + k2 - 1]'(by omega)).id := by simp at h4; exact h4
                refine JC.skip ?_
                refine JX.blockN ?_
                refine JX.thenN (hK15 _ _ ?_)
                refine JC.region ?_
                refine J.move rfl rfl ?_
                (first | refine J.addN rfl rfl (by omega) (by omega) rfl ?_ | refine J.bin rfl rfl rfl rfl ?_)
                refine J.assign rfl rfl ?_
                refine J.nil ?_
                refine JX.thenN ?_
                refine JX.again (⟨k, k2 + 1, zs⟩ : DKC) ?_ ?_ ?_
                · simp only; omega
                · exact ⟨rfl, rfl, rfl, rfl, rfl, trivial⟩
                · exact fun w1 hw => ⟨hI.skip hlt2 heq, hw⟩
          · skip
            have hge2 : k0 + k2 = xs.length := by simp at h3; omega
            have htk := hI.tk
            have hkk := hI.hk
            simp only at htk hkk
            rw [hge2, List.take_of_length_le (Nat.le_refl _)] at htk hkk
            refine JC.exit ?_
            refine JX.thenE ?_
            refine JX.thenE ?_
            refine JX.blockE ?_
            refine JX.thenN (hK11 _ _ ?_)
            refine JC.seq (fun K18 hK18 => ?_)
            refine JC.region ?_
            refine J.move rfl rfl ?_
            refine J.move rfl rfl ?_
            obtain ⟨oo, hoo, hoz⟩ : ∃ oo, (if cap = k then some (⟨q, 0, none⟩ : Addr) else (some (⟨q, 0, none⟩ : Addr)).map (·.add (k * 35))) = some ⟨q, oo, none⟩ ∧ (xs.length - k = 0 ∨ oo = k * 35) := by
              by_cases hci : cap = k
              · exact ⟨0, by rw [if_pos hci], .inl (by omega)⟩
              · exact ⟨k * 35, by rw [if_neg hci]; simp [Addr.add]; omega, .inr rfl⟩
            refine J.sliceS Ty.el68 Ty.s75 rfl rfl rfl rfl rfl (by omega) (by omega) (by omega) rfl ?_
            refine J.name 61 rfl (show _ = Value.slice (some ⟨q, oo, none⟩) (xs.length - k) (cap - k) by rw [← hoo]; rfl) ?_
            have hfz := fC_len zs
            obtain ⟨sp2, hc1, hc2⟩ := clear_C (sp := sp) (Z := (Builtin.zeroCells (cC zCV).toArray (xs.length - k)).toList) hzl htk (by omega) (by rw [zeroCells_length]; rfl) hoz
            refine J.clear (cs := fC zs ++ sp) (sz := 35) rfl Ty.el68 zCan rfl (by decide) (fun u hu => one_fC (xs := [zCV]) (List.mem_append_left [] hu)) rfl .here (by simp only [List.length_append]; rcases hoz with h | h <;> omega) ?_
            refine J.conseq (I' := St w [q] [(q, cb (fC (dedC xs) ++ sp2) 75)]) ?_ (fun w1 hw => by rw [← hc1]; exact hw)
            refine J.nil ?_
            refine JX.thenN (hK18 _ _ ?_)
            refine JC.seq (fun K19 hK19 => ?_)
            refine JC.region ?_
            refine J.move rfl rfl ?_
            refine J.move rfl rfl ?_
            refine J.sliceS Ty.el68 Ty.s75 rfl rfl rfl rfl rfl (by omega) (by omega) (by omega) rfl ?_
            refine J.name 64 rfl (show _ = Value.slice (some ⟨q, 0, none⟩) (dedC xs).length cap by rw [← hkk]; split <;> simp [Addr.add]) ?_
            refine J.assign rfl rfl ?_
            refine J.nil ?_
            refine JX.thenN (hK19 _ _ ?_)
            refine JC.ret ?_
            refine JX.blockR ?_
            refine JX.thenR ?_
            refine JX.thenR ?_
            refine JX.blockR ?_
            refine JX.thenR ?_
            refine JX.ret1 rfl rfl (fun w hw => ?_)
            first | exact ⟨sp, by rw [hxs], by rw [hxs]; exact hsz, by rw [hxs]; exact hw⟩ | exact ⟨sp2, rfl, by rw [hc2, List.length_append, hfz, hzl, ← fC_len xs, ← List.length_append]; exact hsz, hw⟩
        · skip
          have hnext : dedC (xs.take (k + 1)) = xs.take (k + 1) := by
            obtain ⟨j, rfl⟩ : ∃ j, k = j + 1 := ⟨k - 1, by omega⟩
            rw [dedC_new hlt (by simpa using h2), hpre, ← take_add_one hlt]
          refine JC.skip ?_
          refine JX.blockN ?_
          refine JX.thenN (hK8 _ _ ?_)
          refine JC.region ?_
          refine J.move rfl rfl ?_
          (first | refine J.addN rfl rfl (by omega) (by omega) rfl ?_ | refine J.bin rfl rfl rfl rfl ?_)
          refine J.assign rfl rfl ?_
          refine J.nil ?_
          refine JX.thenN ?_
          refine JX.again (k + 1) ?_ ?_ ?_
          · omega
          · exact ⟨rfl, rfl, rfl, trivial⟩
          · exact fun w1 hw => ⟨⟨by omega, hlt, hnext⟩, hw⟩
    · skip
      have hge : k = xs.length := by simp at h1; omega
      have hxs : dedC xs = xs := by rw [hge, List.take_of_length_le (Nat.le_refl _)] at hpre; exact hpre
      refine JC.exit ?_
      refine JX.thenE ?_
      refine JX.thenE ?_
      refine JX.blockE ?_
      refine JX.thenN (hK4 _ _ ?_)
      refine JC.seq (fun K20 hK20 => ?_)
      refine JC.region ?_
      refine J.move rfl rfl ?_
      refine J.assign rfl rfl ?_
      refine J.nil ?_
      refine JX.thenN (hK20 _ _ ?_)
      refine JC.ret ?_
      refine JX.ret1 rfl rfl (fun w hw => ?_)
      first | exact ⟨sp, by rw [hxs], by rw [hxs]; exact hsz, by rw [hxs]; exact hw⟩ | exact ⟨sp2, rfl, by rw [hc2, List.length_append, hfz, hzl, ← fC_len xs, ← List.length_append]; exact hsz, hw⟩

theorem compactC_nil (w : World) :
    Calls Try.prog 56 [.slice none 0 0, .func (.func 57) #[] #[]].toArray w fun r w' => r = .returned (.slice none 0 0) ∧ Bel w w' := by
  refine calls_of_J (args := [.slice none 0 0, .func (.func 57) #[] #[]]) (e := [(0, .slice none 0 0), (1, .func (.func 57) #[] #[])]) Try.func56 rfl rfl ⟨rfl, rfl, trivial⟩ (St.start w) ?_
  refine JC.seq (fun K0 hK0 => ?_)
  refine JC.region ?_
  refine J.assign rfl rfl ?_
  refine J.nil ?_
  refine JX.thenN (hK0 _ _ ?_)
  refine JC.seq (fun K1 hK1 => ?_)
  refine JC.seq (fun K2 hK2 => ?_)
  refine JC.region ?_
  refine J.move rfl rfl ?_
  refine J.lenS rfl Ty.u68 rfl rfl ?_
  refine J.bin rfl rfl rfl rfl ?_
  refine J.nil ?_
  refine JX.thenN (hK2 _ _ ?_)
  first | refine JC.condT rfl ?_ | refine JC.cond rfl (fun _ => ?_) (fun h => by first | (exfalso; simp at h; omega) | (simp at h))
  refine JC.seq (fun K3 hK3 => ?_)
  refine JC.region ?_
  refine J.move rfl rfl ?_
  refine J.assign rfl rfl ?_
  refine J.nil ?_
  refine JX.thenN (hK3 _ _ ?_)
  refine JC.ret ?_
  refine JX.thenR ?_
  refine JX.ret1 rfl rfl (fun w hw => ?_)
  exact ⟨rfl, hw.below⟩


theorem compactC_vec (v : Value) (xs : List CV) (lp : List (Nat × Obj)) (w : World) (hv : Vec 75 35 v (xs).length (fC (xs)) lp) (hw0 : Own w lp) (hl : xs.length ≤ 1099511627776) :
    Calls Try.prog 56 [v, .func (.func 57) #[] #[]].toArray w fun r w' => ∃ x : Value × List (Nat × Obj), r = .returned x.1 ∧ Vec 75 35 x.1 (dedC xs).length (fC (dedC xs)) x.2 ∧ St w (lp.map (·.1)) x.2 w' := by
  rcases vecC hv with ⟨rfl, rfl, rfl⟩ | ⟨b, c, sp, rfl, rfl, h1, h2⟩
  · exact (compactC_nil w).mono fun r w' ⟨h1, h2⟩ => ⟨(.slice none 0 0, []), h1, Vec.nil _ _, (St.start w).step h2⟩
  · exact (compactC_spec b c xs sp w hw0 h2 h1 hl).mono fun r w' ⟨sp', h3, h4, h5⟩ => ⟨(_, [_]), h3, vecC_mk h4, h5⟩
end Go.Proofs.Ytbafhclandendaa
/-
  For whom a node asks: plain laws.
-/
namespace Go.Proofs.Ytbafhclandendaa
open Go.J Go.RowKit
set_option linter.unusedVariables false
set_option linter.unusedSimpArgs false
set_option maxRecDepth 8000
/-- of two of one identity -/
def ahd (a b : CV) : Bool := if a.leg ≠ b.leg then decide (a.leg < b.leg) else if a.leg = 1 then ltQ a.p b.p else decide (a.n < b.n)
theorem ahd_ltC {a b : CV} (h : a.id = b.id) : ahd a b = true ↔ ltC a b := by
  rw [ltC_iff, h]
  unfold ahd
  by_cases hl : a.leg = b.leg
  · rw [if_neg (by simpa using hl)]
    by_cases h1 : a.leg = 1
    · have hb1 : b.leg = 1 := by omega
      have ea : k1 a = (valI a.p.who : Int) := if_pos h1
      have eb : k1 b = (valI b.p.who : Int) := if_pos hb1
      have fa : k2 a = a.p.n := if_pos h1
      have fb : k2 b = b.p.n := if_pos hb1
      rw [if_pos h1, ltQ_iff, ea, eb, fa, fb]
      omega
    · have hb1 : ¬ b.leg = 1 := by omega
      have ea : k1 a = a.n := if_neg h1
      have eb : k1 b = b.n := if_neg hb1
      have fa : k2 a = 0 := if_neg h1
      have fb : k2 b = 0 := if_neg hb1
      rw [if_neg h1, ea, eb, fa, fb]
      simp only [decide_eq_true_eq, true_and]
      constructor <;> intro h9 <;> omega
  · rw [if_pos (by simpa using hl)]
    simp only [decide_eq_true_eq, true_and]
    constructor <;> intro h9 <;> omega
def stepB (n : IDV) (acc : Option CV) (x : CV) : Option CV := if x.id = n then (match acc with | none => some x | some y => if ahd x y = true then some x else some y) else acc
/-- the best one of an identity -/
def bestC (n : IDV) (cs : List CV) : Option CV := cs.foldl (stepB n) none
theorem bestC_snoc (n : IDV) (cs : List CV) (x : CV) : bestC n (cs ++ [x]) = stepB n (bestC n cs) x := by rw [bestC, List.foldl_append]; rfl
theorem eqv_id {x y : CV} (h : eqv ltC x y = true) : y.id = x.id := by
  simp only [eqv, Bool.and_eq_true, Bool.not_eq_true', decide_eq_false_iff_not] at h
  rw [ltC_iff, ltC_iff] at h
  exact valI_inj (by omega)
structure BSpec (n : IDV) (cs : List CV) (y : CV) : Prop where
  id : y.id = n
  mem : y ∈ cs
  min : ∀ x, x ∈ cs → x.id = n → ¬ ltC x y
  hd : (cs.filter (eqv ltC y)).head? = some y
theorem snocRec {α : Type} {p : List α → Prop} (xs : List α) (nil : p []) (snoc : ∀ l x, p l → p (l ++ [x])) : p xs := by
  have : ∀ ys : List α, p ys.reverse := by
    intro ys
    induction ys with
    | nil => exact nil
    | cons y ys ih => rw [List.reverse_cons]; exact snoc _ _ ih
  have h := this xs.reverse
  rwa [List.reverse_reverse] at h
theorem bestC_spec (n : IDV) (cs : List CV) : (∀ y, bestC n cs = some y → BSpec n cs y) ∧ (bestC n cs = none → ∀ x, x ∈ cs → x.id ≠ n) := by
  induction cs using snocRec with
  | nil => exact ⟨fun y h => (by cases h), fun _ x hx => (by cases hx)⟩
  | snoc cs x ih =>
    rw [bestC_snoc]
    unfold stepB
    by_cases hx : x.id = n
    · rw [if_pos hx]
      cases hb : bestC n cs with
      | none =>
        have hno := ih.2 hb
        refine ⟨fun y hy => ?_, fun h => (by cases h)⟩
        obtain rfl := Option.some.inj hy
        refine ⟨hx, by simp, fun u hu hun => ?_, ?_⟩
        · rcases List.mem_append.1 hu with hu | hu
          · exact absurd hun (hno u hu)
          · rw [List.mem_singleton.1 hu]; exact swoC.irr _
        · rw [List.filter_append, show cs.filter (eqv ltC x) = [] from List.filter_eq_nil_iff.2 fun u hu he => hno u hu ((eqv_id he).trans hx)]
          simp [eqv_self swoC]
      | some y0 =>
        have h0 := ih.1 y0 hb
        by_cases ha : ahd x y0 = true
        · simp only [if_pos ha]
          have hlt : ltC x y0 := (ahd_ltC (hx.trans h0.id.symm)).1 ha
          refine ⟨fun y hy => ?_, fun h => (by cases h)⟩
          obtain rfl := Option.some.inj hy
          have hall : ∀ u, u ∈ cs → u.id = n → ltC x u := fun u hu hun => swoC.lt_le hlt (h0.min u hu hun)
          refine ⟨hx, by simp, fun u hu hun => ?_, ?_⟩
          · rcases List.mem_append.1 hu with hu | hu
            · exact swoC.asym (hall u hu hun)
            · rw [List.mem_singleton.1 hu]; exact swoC.irr _
          · rw [List.filter_append, show cs.filter (eqv ltC x) = [] from List.filter_eq_nil_iff.2 fun u hu he => by
              have h1 := hall u hu ((eqv_id he).trans hx)
              simp [eqv, h1] at he]
            simp [eqv_self swoC]
        · simp only [if_neg ha]
          have hnl : ¬ ltC x y0 := fun h => ha ((ahd_ltC (hx.trans h0.id.symm)).2 h)
          refine ⟨fun y hy => ?_, fun h => (by cases h)⟩
          obtain rfl := Option.some.inj hy
          refine ⟨h0.id, by simp [h0.mem], fun u hu hun => ?_, ?_⟩
          · rcases List.mem_append.1 hu with hu | hu
            · exact h0.min u hu hun
            · rw [List.mem_singleton.1 hu]; exact hnl
          · rw [List.filter_append, List.head?_append, h0.hd]; rfl
    · rw [if_neg hx]
      refine ⟨fun y hy => ?_, fun h u hu => ?_⟩
      · have h0 := ih.1 y hy
        refine ⟨h0.id, by simp [h0.mem], fun u hu hun => ?_, ?_⟩
        · rcases List.mem_append.1 hu with hu | hu
          · exact h0.min u hu hun
          · rw [List.mem_singleton.1 hu] at hun; exact absurd hun hx
        · rw [List.filter_append, List.head?_append, h0.hd]; rfl
      · rcases List.mem_append.1 hu with hu | hu
        · exact ih.2 h u hu
        · rw [List.mem_singleton.1 hu]; exact hx
/-- whom it asks for: document -/
def askL (W F : List IDV) (cs : List CV) : List CV := W.filterMap (fun n => if n ∈ F then none else bestC n cs)
structure DedS (Z D : List CV) : Prop where
  asc : (D.map (·.id)).Pairwise (fun a b => valI a < valI b)
  fnd : ∀ x, x ∈ D → Z.find? (fun z => decide (z.id = x.id)) = some x
  all : ∀ z, z ∈ Z → z.id ∈ D.map (·.id)
  lst : D.getLast?.map (·.id) = Z.getLast?.map (·.id)
theorem dedC_snoc (Z : List CV) (x : CV) : dedC (Z ++ [x]) = stepC (dedC Z) x := by rw [dedC, List.foldl_append]; rfl
theorem dedC_spec {Z : List CV} (hZ : Srt ltC Z) : DedS Z (dedC Z) := by
  induction Z using snocRec with
  | nil => exact ⟨.nil, fun x hx => (by cases hx), fun z hz => (by cases hz), rfl⟩
  | snoc Z x ih =>
    obtain ⟨hs1, _, hs2⟩ := Srt.app.1 hZ
    have h0 := ih hs1
    rw [dedC_snoc]
    have hle : ∀ z, z ∈ Z → valI z.id ≤ valI x.id := fun z hz => by
      have := hs2 z hz x (.head _)
      rw [ltC_iff] at this
      omega
    unfold stepC
    by_cases he : (dedC Z).getLast?.map (·.id) = some x.id
    · rw [if_pos he]
      refine ⟨h0.asc, fun y hy => by rw [List.find?_append, h0.fnd y hy]; rfl, fun z hz => ?_, by rw [he]; simp⟩
      rcases List.mem_append.1 hz with hz | hz
      · exact h0.all z hz
      · rw [List.mem_singleton.1 hz]
        obtain ⟨l, hl, hl2⟩ := Option.map_eq_some_iff.1 he
        exact List.mem_map.2 ⟨l, List.mem_of_getLast? hl, hl2⟩
    · rw [if_neg he]
      have hlt : ∀ z, z ∈ Z → valI z.id < valI x.id := by
        intro z hz
        cases hq : Z.getLast? with
        | none => rw [List.getLast?_eq_none_iff.1 hq] at hz; cases hz
        | some l =>
          have hlm := List.mem_of_getLast? hq
          have hne : l.id ≠ x.id := fun e => he (by rw [h0.lst, hq]; simp [e])
          have h1 : valI l.id < valI x.id := by
            have h2 := hle l hlm
            rcases Nat.lt_or_ge (valI l.id) (valI x.id) with h3 | h3
            · exact h3
            · exact absurd (valI_inj (by omega)) hne
          obtain ⟨i, hi⟩ := List.mem_iff_getElem?.1 hz
          have hil := (List.getElem?_eq_some_iff.1 hi).1
          rw [List.getLast?_eq_getElem?] at hq
          have h4 := hs1.get' swoC hi hq (by omega)
          rw [ltC_iff] at h4
          omega
      refine ⟨?_, fun y hy => ?_, fun z hz => ?_, by simp⟩
      · rw [List.map_append]
        refine List.pairwise_append.2 ⟨h0.asc, by simp, fun a ha b hb => ?_⟩
        obtain ⟨y, hy, rfl⟩ := List.mem_map.1 ha
        rw [List.mem_singleton.1 hb]
        exact hlt y (List.mem_of_find?_eq_some (h0.fnd y hy))
      · rcases List.mem_append.1 hy with hy | hy
        · rw [List.find?_append, h0.fnd y hy]; rfl
        · rw [List.mem_singleton.1 hy, List.find?_append, List.find?_eq_none.2 (fun z hz => by
            have := hlt z hz
            simp only [decide_eq_true_eq, true_and]
            intro e
            rw [e] at this
            omega)]
          simp
      · rw [List.map_append]
        rcases List.mem_append.1 hz with hz | hz
        · exact List.mem_append_left _ (h0.all z hz)
        · rw [List.mem_singleton.1 hz]; exact List.mem_append_right _ (.head _)
/-- the first of an identity in the sorted row is the best one -/
theorem find_best {W F : List IDV} {cs Z : List CV} (hse : SE ltC (dels (wnt W F) cs) Z) (hs : Srt ltC Z) {n : IDV} {y : CV} (hnW : n ∈ W) (hnF : n ∉ F) (hb : bestC n cs = some y) : Z.find? (fun z => decide (z.id = n)) = some y := by
  have h0 := (bestC_spec n cs).1 y hb
  have hin : ∀ u, u.id = n → (!wnt W F u) = true := fun u hu => by unfold wnt; rw [hu]; simp [hnW, hnF]
  have hyZ : y ∈ Z := (hse.mem swoC y).1 (List.mem_filter.2 ⟨h0.mem, hin y h0.id⟩)
  obtain ⟨z, hz⟩ : ∃ z, Z.find? (fun z => decide (z.id = n)) = some z := by
    cases h : Z.find? (fun z => decide (z.id = n)) with
    | some z => exact ⟨z, rfl⟩
    | none => exact absurd h0.id (by simpa using List.find?_eq_none.1 h y hyZ)
  rw [hz]
  obtain ⟨hzi, l, m, hZe, hl⟩ := List.find?_eq_some_iff_append.1 hz
  have hzi' : z.id = n := by simpa using hzi
  have hzZ : z ∈ Z := List.mem_of_find?_eq_some hz
  have hzc : z ∈ cs := (List.mem_filter.1 ((hse.mem swoC z).2 hzZ)).1
  have h1 : ¬ ltC z y := h0.min z hzc hzi'
  have h2 : ¬ ltC y z := by
    rw [hZe] at hyZ hs
    rcases List.mem_append.1 hyZ with h | h
    · have := hl y h; simp [h0.id] at this
    · rcases List.mem_cons.1 h with rfl | h
      · exact swoC.irr _
      · exact (List.pairwise_cons.1 (Srt.app.1 hs).2.1).1 y h
  have he : eqv ltC y z = true := by simp [eqv, h1, h2]
  have h3 : (Z.filter (eqv ltC y)).head? = some z := by
    rw [hZe, List.filter_append, show l.filter (eqv ltC y) = [] from List.filter_eq_nil_iff.2 fun u hu hq => by
      have := hl u hu
      simp [(eqv_id hq).trans h0.id] at this, List.nil_append, List.filter_cons_of_pos he]
    rfl
  have h4 : (dels (wnt W F) cs).filter (eqv ltC y) = cs.filter (eqv ltC y) := by
    rw [dels, List.filter_filter]
    refine List.filter_congr fun u hu => ?_
    cases hq : eqv ltC y u with
    | false => simp
    | true => rw [hin u ((eqv_id hq).trans h0.id)]; rfl
  rw [← hse y, h4, h0.hd] at h3
  exact h3.symm
theorem fm_congr {f g : IDV → Option IDV} : ∀ {l : List IDV}, (∀ n, n ∈ l → f n = g n) → l.filterMap f = l.filterMap g
  | [], _ => rfl
  | n :: l, h => by rw [List.filterMap_cons, List.filterMap_cons, h n (.head _), fm_congr fun m hm => h m (.tail _ hm)]
theorem by_ids {L : List CV} {f : IDV → CV} (h : ∀ x, x ∈ L → x = f x.id) : L = (L.map (·.id)).map f := by
  induction L with
  | nil => rfl
  | cons x L ih =>
    rw [List.map_cons, List.map_cons, ← h x (.head _), ← ih (fun y hy => h y (.tail _ hy))]
theorem ask_of {W F : List IDV} {cs Z : List CV} (hW : Asc W) (hc : ∀ n, n ∈ W → n ∉ F → ∃ x, x ∈ cs ∧ x.id = n) (hse : SE ltC (dels (wnt W F) cs) Z) (hs : Srt ltC Z) : dedC Z = askL W F cs := by
  have hd := dedC_spec hs
  have hbest : ∀ n, n ∈ W → n ∉ F → ∃ y, bestC n cs = some y := fun n h1 h2 => by
    cases hb : bestC n cs with
    | some y => exact ⟨y, rfl⟩
    | none =>
      obtain ⟨x, hx, hxn⟩ := hc n h1 h2
      exact absurd hxn ((bestC_spec n cs).2 hb x hx)
  have hZin : ∀ z, z ∈ Z → z.id ∈ W ∧ z.id ∉ F := fun z hz => by
    have := (List.mem_filter.1 ((hse.mem swoC z).2 hz)).2
    simpa [wnt] using this
  have hmemA : ∀ x, x ∈ askL W F cs ↔ x.id ∈ W ∧ x.id ∉ F ∧ bestC x.id cs = some x := by
    intro x
    unfold askL
    rw [List.mem_filterMap]
    constructor
    · rintro ⟨n, hn, he⟩
      by_cases hF : n ∈ F
      · rw [if_pos hF] at he; cases he
      · rw [if_neg hF] at he
        have hid := ((bestC_spec n cs).1 x he).id
        subst hid
        exact ⟨hn, hF, he⟩
    · rintro ⟨h1, h2, h3⟩
      exact ⟨x.id, h1, by rw [if_neg h2]; exact h3⟩
  have hids : (dedC Z).map (·.id) = (askL W F cs).map (·.id) := by
    have hA : (askL W F cs).map (·.id) = W.filter (fun n => decide (n ∉ F)) := by
      unfold askL
      rw [List.map_filterMap]
      rw [← List.filterMap_eq_filter]
      refine fm_congr fun n hn => ?_
      by_cases hF : n ∈ F
      · simp [hF, Option.guard]
      · obtain ⟨y, hy⟩ := hbest n hn hF
        simp [hF, hy, Option.guard, ((bestC_spec n cs).1 y hy).id]
    refine asc_ext hd.asc ?_ fun n => ?_
    · rw [hA]; exact hW.sublist List.filter_sublist
    · rw [hA, List.mem_filter]
      constructor
      · intro h
        obtain ⟨x, hx, rfl⟩ := List.mem_map.1 h
        have hxZ := List.mem_of_find?_eq_some (hd.fnd x hx)
        have := hZin x hxZ
        exact ⟨this.1, by simpa using this.2⟩
      · rintro ⟨h1, h2⟩
        have h2' : n ∉ F := by simpa using h2
        obtain ⟨y, hy⟩ := hbest n h1 h2'
        have hf := find_best hse hs h1 h2' hy
        have := hd.all y (List.mem_of_find?_eq_some hf)
        rwa [((bestC_spec n cs).1 y hy).id] at this
  have e1 := by_ids (L := dedC Z) (f := fun n => (Z.find? (fun z => decide (z.id = n))).getD zCV) (fun x hx => by show x = _; rw [hd.fnd x hx]; rfl)
  have e2 := by_ids (L := askL W F cs) (f := fun n => (Z.find? (fun z => decide (z.id = n))).getD zCV) (fun x hx => by
    obtain ⟨h1, h2, h3⟩ := (hmemA x).1 hx
    show x = _
    rw [find_best hse hs h1 h2 h3]; rfl)
  rw [e1, e2, hids]
/-- whom one asks for -/
noncomputable def askC (self : IDV) (F : List IDV) (cs : List CV) (half : Int) : List CV := askL (wantI self (F ++ cs.map (·.id)) half) F cs
theorem want_cand {self : IDV} {F : List IDV} {cs : List CV} {half : Int} : ∀ n, n ∈ wantI self (F ++ cs.map (·.id)) half → n ∉ F → ∃ x, x ∈ cs ∧ x.id = n := by
  intro n hn hF
  have := ((sortI_mem _ _ _).1 (mem_wantI.1 hn).1).1
  rcases List.mem_append.1 this with h | h
  · exact absurd h hF
  · obtain ⟨x, hx, rfl⟩ := List.mem_map.1 h
    exact ⟨x, hx, rfl⟩
theorem askC_of {self : IDV} {F : List IDV} {cs Z : List CV} {half : Int} (hse : SE ltC (dels (wnt (wantI self (F ++ cs.map (·.id)) half) F) cs) Z) (hs : Srt ltC Z) : dedC Z = askC self F cs half :=
  ask_of (wantI_asc _ _ _) want_cand hse hs
theorem askL_le (W F : List IDV) (cs : List CV) : (askL W F cs).length ≤ W.length := List.length_filterMap_le _ _
theorem askC_le (self : IDV) (F : List IDV) (cs : List CV) (half : Int) : (askC self F cs half).length ≤ F.length + cs.length := by
  have h1 := askL_le (wantI self (F ++ cs.map (·.id)) half) F cs
  have h2 := wantI_le self (F ++ cs.map (·.id)) half
  rw [List.length_append, List.length_map] at h2
  exact Nat.le_trans h1 h2
end Go.Proofs.Ytbafhclandendaa
/-
  seek.Asks: contract.
-/
namespace Go.Proofs.Ytbafhclandendaa
open Go.J Go.RowKit
set_option linter.unusedVariables false
set_option linter.unusedSimpArgs false
set_option maxRecDepth 8000
theorem ids_snoc {F : List IDV} {cs : List CV} {i : Nat} {x : CV} (h : cs[i]? = some x) : F ++ (cs.take (i + 1)).map (·.id) = (F ++ (cs.take i).map (·.id)) ++ [x.id] := by
  rw [take_get h, List.map_append, List.append_assoc]; rfl
theorem fI_snoc (xs : List IDV) (y : IDV) : fI (xs ++ [y]) = fI xs ++ cI y := by rw [fI_append]; simp [fI]
structure AkS where
  i : Nat
  v : Value
  lp : List (Nat × Obj)

theorem seekAsks_spec (self : IDV) (fv cv : Value) (F : List IDV) (cs : List CV) (half : Int) (w : World) (hrF : Row w fv F.length (fI F)) (hrC : Row w cv cs.length (fC cs)) (hlF : F.length ≤ 1000) (hlC : cs.length ≤ 40) :
    Calls Try.prog 37 [.agg (cI self).toArray, fv, cv, .int .i64 half].toArray w fun r w' => ∃ x : Value × List (Nat × Obj), r = .returned x.1 ∧ Vec 75 35 x.1 (askC self F cs half).length (fC (askC self F cs half)) x.2 ∧ St w [] x.2 w' := by
  obtain ⟨a, c, rfl, hc, _⟩ := id hrC
  obtain ⟨af, cf, rfl, hcf, _⟩ := id hrF
  refine calls_of_J (args := [.agg (cI self).toArray, .slice af F.length cf, .slice a cs.length c, .int .i64 half]) (e := [(0, .agg (cI self).toArray), (1, .slice af F.length cf), (2, .slice a cs.length c), (3, .int .i64 half)]) Try.func37 rfl rfl ⟨rfl, rfl, rfl, rfl, trivial⟩ (St.start w) ?_
  refine JC.seq (fun K0 hK0 => ?_)
  refine JC.region ?_
  refine J.box rfl rfl rfl (fun b4 => ?_)
  refine J.box rfl rfl rfl (fun b5 => ?_)
  refine J.assign rfl rfl ?_
  refine J.nil ?_
  refine JX.thenN (hK0 _ _ ?_)
  refine JC.seq (fun K1 hK1 => ?_)
  refine JC.region ?_
  refine J.load1 (v := .slice af F.length cf) Ty.a24 rfl (fun w1 hw => by rw [cell_of (hw.own ((b5, cb [.slice af F.length cf] 24)) (by repeat first | exact .head _ | apply List.Mem.tail | apply List.mem_append_right))]; rfl) rfl ?_
  refine J.perm ([] ++ ((b5, cb [.slice af F.length cf] 24) :: (b4, cb (cI self) 23) :: [])) (.refl _) ?_
  refine J.callS (α := Value × List (Nat × Obj)) (V := (·.1)) (Pr := fun x => Vec 23 16 x.1 (F).length (fI (F)) x.2) (L := (·.2)) (l1 := []) Ty.bd48 rfl rfl (fun w1 hw => clone_spec _ F w1 (hrF.below (hw.drop (List.nil_sublist _)).below) (by omega)) (fun x hv9 => ?_)
  obtain ⟨v9, l9⟩ := x
  simp only at hv9 ⊢
  refine J.assign rfl rfl ?_
  refine J.nil ?_
  refine JX.thenN (hK1 _ _ ?_)
  refine JC.seq (fun K2 hK2 => ?_)
  refine JC.seq (fun K3 hK3 => ?_)
  refine JC.region ?_
  refine J.move rfl rfl ?_
  refine J.lenS rfl Ty.u68 rfl rfl ?_
  refine J.move rfl rfl ?_
  refine J.nil ?_
  refine JX.thenN (hK3 _ _ ?_)
  refine JC.block ?_
  refine JC.conseq (JC.cov (f := (fun st => [(2, .slice a cs.length c), (3, .int .i64 half), (4, .pointer (some ⟨b4, 0, none⟩)), (5, .pointer (some ⟨b5, 0, none⟩)), (9, st.v), (16, .slice a cs.length c), (17, .int .i64 ((cs.length : Nat) : Int)), (18, .int .i64 ((st.i : Nat) : Int))]) (⟨0, v9, l9⟩ : AkS)) ⟨rfl, rfl, rfl, rfl, rfl, rfl, rfl, rfl, trivial⟩ (JC.loop (α := AkS) (fun st => [(2, .slice a cs.length c), (3, .int .i64 half), (4, .pointer (some ⟨b4, 0, none⟩)), (5, .pointer (some ⟨b5, 0, none⟩)), (9, st.v), (16, .slice a cs.length c), (17, .int .i64 ((cs.length : Nat) : Int)), (18, .int .i64 ((st.i : Nat) : Int))]) (fun st w' => (st.i ≤ cs.length ∧ Vec 23 16 st.v ((F ++ (cs.take st.i).map (·.id))).length (fI ((F ++ (cs.take st.i).map (·.id)))) st.lp) ∧ St w [] ((b4, cb (cI self) 23) :: (b5, cb [.slice af F.length cf] 24) :: st.lp) w') (fun st => cs.length - st.i) (⟨0, v9, l9⟩ : AkS) (fun st => ?_))) (fun w hw => ⟨⟨Nat.zero_le _, by simpa using hv9⟩, hw.perm (by (refine perm_cnt (fun _ => ?_)); simp only [cntB_append, cntB_cons, cntB_nil, Nat.add_zero, Nat.zero_add]; try ac_rfl)⟩)
  obtain ⟨i, v10, l10⟩ := st
  refine JC.pr (fun hI => ?_)
  obtain ⟨hi, hv10⟩ := hI
  try simp only at hi hv10 ⊢
  refine JC.seq (fun K4 hK4 => ?_)
  refine JC.region ?_
  refine J.bin rfl rfl rfl rfl ?_
  refine J.nil ?_
  refine JX.thenN (hK4 _ _ ?_)
  refine JC.seq (fun K5 hK5 => ?_)
  refine JC.cond rfl (fun h0 => ?_) (fun h0 => ?_)
  · skip
    have hlt : i < cs.length := by simp at h0; omega
    obtain ⟨xe, hxe⟩ : ∃ x, cs[i]? = some x := ⟨_, List.getElem?_eq_getElem hlt⟩
    obtain ⟨ba, oa, ca, hva, hca, hcel⟩ := hrC.some (by rw [fC_len]; omega)
    simp only [Value.slice.injEq] at hva
    obtain ⟨rfl, -, rfl⟩ := hva
    refine JC.skip ?_
    refine JX.thenN (hK5 _ _ ?_)
    refine JC.seq (fun K6 hK6 => ?_)
    refine JC.block ?_
    refine JC.seq (fun K7 hK7 => ?_)
    refine JC.region ?_
    refine J.indexAddrS Ty.el68 Ty.s75 rfl rfl (by omega) (by omega) rfl ?_
    refine J.loadA (vs := cC xe) Ty.a75 Ty.s75 rfl rfl (fun w1 hw => rowG_at (c := cC) (sz := 35) (fun _ => rfl) (hrC.below (hw.drop (List.nil_sublist _)).below) hxe (by rw [Int.toNat_natCast])) rfl ?_
    refine J.alloc zCan rfl rfl (fun b11 => ?_)
    refine J.storeW Ty.s75 rfl rfl rfl rfl rfl (by simp [Value.oneCell']) (by repeat first | exact .here | apply Up.there) ?_
    refine J.nil ?_
    refine JX.thenN (hK7 _ _ ?_)
    refine JC.region ?_
    refine J.move rfl rfl ?_
    refine J.fieldAddr Ty.fd75_0 rfl rfl ?_
    refine J.loadA (vs := cI xe.id) Ty.a23 Ty.s23 rfl rfl (fun w1 hw => Cells.of_block (hw.own ((b11, cb (cC xe) 75)) (by repeat first | exact .head _ | apply List.Mem.tail | apply List.mem_append_right)) rfl) rfl ?_
    refine J.buildSl (cs := cI xe.id) Ty.el24 Ty.s23 Ty.zID rfl rfl rfl rfl (by kernel_rfl) rfl rfl (fun b25 => ?_)
    refine J.perm (l10 ++ ((b25, cb (cI xe.id) 23) :: (b11, cb (cC xe) 75) :: ((b4, cb (cI self) 23) :: (b5, cb [.slice af F.length cf] 24) :: []))) (by (refine perm_cnt (fun _ => ?_)); simp only [cntB_append, cntB_cons, cntB_nil, Nat.add_zero, Nat.zero_add]; try ac_rfl) ?_
    refine J.append (lp := l10) (xs := fI ((F ++ (cs.take i).map (·.id)))) (ys := cI xe.id) (k := ((F ++ (cs.take i).map (·.id))).length) (m := 1) Ty.el24 Ty.s23 Ty.b23 Ty.zID rfl (.inl ⟨23, Ty.u24⟩) rfl rfl hv10 (fun w1 hw => .inl (Row.own (cs := cI xe.id) (tb := 23) (fr := (0, 0)) hw (List.mem_append_right _ (.head _)) (List.take_of_length_le (Nat.le_refl _)) (Nat.le_refl _))) rfl (one_cI _) (by simp only [List.length_append, List.length_map, List.length_take]; omega) (by simp only [List.length_append, List.length_map, List.length_take]; omega) rfl (fun v13 l13 hv13 => ?_)
    rw [← fI_snoc, ← ids_snoc hxe, show (F ++ (cs.take i).map (·.id)).length + 1 = (F ++ (cs.take (i + 1)).map (·.id)).length by rw [ids_snoc hxe]; exact (List.length_append (bs := [xe.id])).symm] at hv13
    refine J.assign rfl rfl ?_
    refine J.nil ?_
    refine JX.blockN ?_
    refine JX.thenN (hK6 _ _ ?_)
    refine JC.region ?_
    (first | refine J.addN rfl rfl (by omega) (by omega) rfl ?_ | refine J.bin rfl rfl rfl rfl ?_)
    refine J.move rfl rfl ?_
    refine J.nil ?_
    refine JX.thenN ?_
    refine JX.again (⟨i + 1, v13, l13⟩ : AkS) ?_ ?_ ?_
    · simp only; omega
    · exact ⟨rfl, rfl, rfl, rfl, rfl, rfl, rfl, rfl, trivial⟩
    · exact fun w1 hw => ⟨⟨hlt, hv13⟩, (hw.perm (by (refine perm_cnt (fun _ => ?_)); simp only [cntB_append, cntB_cons, cntB_nil, Nat.add_zero, Nat.zero_add]; try ac_rfl : List.Perm _ ((b25, cb (cI xe.id) 23) :: (b11, cb (cC xe) 75) :: ((b4, cb (cI self) 23) :: (b5, cb [.slice af F.length cf] 24) :: l13)))).drop (List.Sublist.cons _ (List.Sublist.cons _ (List.Sublist.refl _)))⟩
  · skip
    have hge : i = cs.length := by simp at h0; omega
    rw [hge, List.take_of_length_le (Nat.le_refl _)] at hv10
    refine JC.exit ?_
    refine JX.thenE ?_
    refine JX.thenE ?_
    refine JX.blockE ?_
    refine JX.thenN (hK2 _ _ ?_)
    refine JC.seq (fun K8 hK8 => ?_)
    refine JC.region ?_
    refine J.loadA (vs := cI self) Ty.a23 Ty.s23 rfl rfl (fun w1 hw => Cells.of_block (hw.own ((b4, cb (cI self) 23)) (by repeat first | exact .head _ | apply List.Mem.tail | apply List.mem_append_right)) rfl) rfl ?_
    refine J.move rfl rfl ?_
    refine J.move rfl rfl ?_
    refine J.perm ([] ++ ((b4, cb (cI self) 23) :: (b5, cb [.slice af F.length cf] 24) :: l10)) (.refl _) ?_
    refine J.callS (α := Value × List (Nat × Obj)) (V := (·.1)) (Pr := fun x => Vec 23 16 x.1 ((wantI self (F ++ cs.map (·.id)) half)).length (fI ((wantI self (F ++ cs.map (·.id)) half))) x.2) (L := (·.2)) (l1 := []) Ty.bd49 rfl rfl (fun w1 hw => want_spec self v10 (F ++ cs.map (·.id)) half w1 (vec_rowM hv10 hw (fun q hq => by first | (simp [hq]; done) | (simp at hq; simp [hq]; done) | (simp at hq; subst hq; simp))) (by simp only [List.length_append, List.length_map]; omega)) (fun x hvw => ?_)
    obtain ⟨vw, lw⟩ := x
    simp only at hvw ⊢
    obtain ⟨al, cl, rfl, hcl⟩ := hvw.form
    have hwl := wantI_le self (F ++ cs.map (·.id)) half
    rw [List.length_append, List.length_map] at hwl
    refine J.alloc Ty.z24 rfl rfl (fun b12 => ?_)
    refine J.storeO Ty.s24 rfl rfl rfl rfl (by simp [Value.oneCell']) (by repeat first | exact .here | apply Up.there) (by simp) ?_
    refine J.nil ?_
    refine JX.thenN (hK8 _ _ ?_)
    refine JC.seq (fun K9 hK9 => ?_)
    refine JC.region ?_
    refine J.move rfl rfl ?_
    refine J.perm ([] ++ ((b12, cb [.slice al (wantI self (F ++ cs.map (·.id)) half).length cl] 24) :: (lw ++ ((b4, cb (cI self) 23) :: (b5, cb [.slice af F.length cf] 24) :: l10)))) (.refl _) ?_
    refine J.callS (α := Value × List (Nat × Obj)) (V := (·.1)) (Pr := fun x => Vec 75 35 x.1 (cs).length (fC (cs)) x.2) (L := (·.2)) (l1 := []) Ty.bd51 rfl rfl (fun w1 hw => cloneC_spec _ cs w1 (hrC.below (hw.drop (List.nil_sublist _)).below) (by omega)) (fun x hvc => ?_)
    obtain ⟨vc, lc⟩ := x
    simp only at hvc ⊢
    refine J.makeFn rfl rfl ?_
    refine J.perm ((lc ++ [(b12, cb [.slice al (wantI self (F ++ cs.map (·.id)) half).length cl] 24), (b5, cb [.slice af F.length cf] 24)]) ++ (lw ++ ((b4, cb (cI self) 23) :: l10))) (by (refine perm_cnt (fun _ => ?_)); simp only [cntB_append, cntB_cons, cntB_nil, Nat.add_zero, Nat.zero_add]; try ac_rfl) ?_
    refine J.callS (α := Value × List (Nat × Obj)) (V := (·.1)) (Pr := fun x => Vec 75 35 x.1 (dels (wnt (wantI self (F ++ cs.map (·.id)) half) F) cs).length (fC (dels (wnt (wantI self (F ++ cs.map (·.id)) half) F) cs)) x.2) (L := fun x => x.2 ++ [(b12, cb [.slice al (wantI self (F ++ cs.map (·.id)) half).length cl] 24), (b5, cb [.slice af F.length cf] 24)]) (l1 := lc ++ [(b12, cb [.slice al (wantI self (F ++ cs.map (·.id)) half).length cl] 24), (b5, cb [.slice af F.length cf] 24)]) Ty.bd50 rfl rfl (fun w1 hw => deleteFuncC_vec vc cs lc b12 b5 _ _ (wantI self (F ++ cs.map (·.id)) half) F w1 hvc hw.owns (by omega) (vec_rowM hvw hw (fun q hq => by first | (simp [hq]; done) | (simp at hq; simp [hq]; done) | (simp at hq; subst hq; simp))) (hrF.below (hw.drop (List.nil_sublist _)).below) (by omega) (by omega) (hvw.off hw) (hrF.offNew hw (fun p hp => List.mem_append_left _ hp))) (fun x hvd => ?_)
    obtain ⟨vd, ld⟩ := x
    simp only at hvd ⊢
    have hdl := dels_le (wnt (wantI self (F ++ cs.map (·.id)) half) F) cs
    refine J.perm (ld ++ ((b12, cb [.slice al (wantI self (F ++ cs.map (·.id)) half).length cl] 24) :: (b5, cb [.slice af F.length cf] 24) :: (lw ++ ((b4, cb (cI self) 23) :: l10)))) (by (refine perm_cnt (fun _ => ?_)); simp only [cntB_append, cntB_cons, cntB_nil, Nat.add_zero, Nat.zero_add]; try ac_rfl) ?_
    refine J.assign rfl rfl ?_
    refine J.nil ?_
    refine JX.thenN (hK9 _ _ ?_)
    refine JC.seq (fun K10 hK10 => ?_)
    refine JC.region ?_
    refine J.move rfl rfl ?_
    refine J.callS (α := List CV × List (Nat × Obj)) (V := fun _ => .tuple #[]) (Pr := fun x => SE ltC (dels (wnt (wantI self (F ++ cs.map (·.id)) half) F) cs) x.1 ∧ Srt ltC x.1 ∧ Vec 75 35 vd (x.1).length (fC (x.1)) x.2) (L := (·.2)) (l1 := ld) Ty.bd54 rfl rfl (fun w1 hw => sortC_vec vd _ ld w1 hvd hw.owns (by omega)) (fun x hvz => ?_)
    obtain ⟨Z, lz⟩ := x
    obtain ⟨hse, hsz, hvz⟩ := hvz
    simp only at hse hsz hvz ⊢
    have hzl := hse.length swoC
    have hask := askC_of hse hsz
    have hal := askC_le self F cs half
    refine J.nil ?_
    refine JX.thenN (hK10 _ _ ?_)
    refine JC.seq (fun K11 hK11 => ?_)
    refine JC.region ?_
    refine J.move rfl rfl ?_
    refine J.callS (α := Value × List (Nat × Obj)) (V := (·.1)) (Pr := fun x => Vec 75 35 x.1 (dedC Z).length (fC (dedC Z)) x.2) (L := (·.2)) (l1 := lz) Ty.bd56 rfl rfl (fun w1 hw => compactC_vec vd Z lz w1 hvz hw.owns (by omega)) (fun x hve => ?_)
    obtain ⟨ve, le⟩ := x
    simp only at hve ⊢
    rw [hask] at hve
    refine J.append (lp := []) (xs := []) (ys := fC (askC self F cs half)) (k := 0) (m := (askC self F cs half).length) Ty.el68 Ty.s75 Ty.b75 zCan rfl (.inl ⟨75, Ty.u68⟩) rfl rfl (Vec.nil _ _) (fun w1 hw => .inl (vec_rowM hve hw (fun q hq => by first | (simp [hq]; done) | (simp at hq; simp [hq]; done) | (simp at hq; subst hq; simp)))) (fC_len _) (fun y hy => one_fC hy) (by omega) (by omega) rfl (fun v40 lp40 hv40 => ?_)
    rw [Nat.zero_add, List.nil_append] at hv40
    refine J.assign rfl rfl ?_
    refine J.nil ?_
    refine JX.thenN (hK11 _ _ ?_)
    refine JC.ret ?_
    refine JX.ret1 rfl rfl (fun w hw => ?_)
    exact ⟨(v40, lp40), rfl, hv40, hw.drop (List.sublist_append_left _ _)⟩

end Go.Proofs.Ytbafhclandendaa
/-
  The document's Less, Ahead, Asks: contracts.
-/
namespace Go.Proofs.Ytbafhclandendaa
open Go.J Go.RowKit
set_option linter.unusedVariables false
set_option linter.unusedSimpArgs false
set_option maxRecDepth 8000
/-- where the best one of what was looked at stands -/
def AtI (cs : List CV) (n : IDV) (j : Nat) (a : Int) : Prop := (bestC n (cs.take j) = none ∧ a = -1) ∨ ∃ p y, a = ((p : Nat) : Int) ∧ cs[p]? = some y ∧ bestC n (cs.take j) = some y
theorem best_take {cs : List CV} {n : IDV} {j : Nat} {x : CV} (h : cs[j]? = some x) : bestC n (cs.take (j + 1)) = stepB n (bestC n (cs.take j)) x := by rw [take_get h, bestC_snoc]
theorem AtI.keep {cs : List CV} {n : IDV} {j : Nat} {a : Int} {x : CV} (h : AtI cs n j a) (hx : cs[j]? = some x) (hn : x.id ≠ n) : AtI cs n (j + 1) a := by
  have e : bestC n (cs.take (j + 1)) = bestC n (cs.take j) := (best_take hx).trans (if_neg hn)
  unfold AtI
  rw [e]
  exact h
theorem AtI.first {cs : List CV} {n : IDV} {j : Nat} {x : CV} (hb : bestC n (cs.take j) = none) (hx : cs[j]? = some x) (hn : x.id = n) : AtI cs n (j + 1) ((j : Nat) : Int) :=
  .inr ⟨j, x, rfl, hx, by rw [best_take hx, hb]; exact if_pos hn⟩
structure RaS where
  k : Nat
  v : Value
  lp : List (Nat × Obj)

end Go.Proofs.Ytbafhclandendaa
/-
  Candidates that are one; cut, plain, the example of layer 17: contracts.
-/
namespace Go.Proofs.Ytbafhclandendaa
open Go.J Go.RowKit
set_option linter.unusedVariables false
set_option linter.unusedSimpArgs false
set_option maxRecDepth 8000
def okC (x : CV) : Prop := okN x.leg ∧ okN x.n ∧ okN x.p.n
theorem cC_eq {x y : CV} : cC x = cC y ↔ x = y := by
  obtain ⟨i, l, n, p⟩ := x
  obtain ⟨i', l', n', p'⟩ := y
  show cI i ++ [.int .i64 l, .int .i64 n] ++ cP p = cI i' ++ [.int .i64 l', .int .i64 n'] ++ cP p' ↔ _
  rw [app_iff (by rfl), app_iff (by rfl), cI_eq, cP_eq]
  simp [and_assoc]
namespace Ty
theorem cPa : Try.prog.cellsOf 73 = 17 := by kernel_rfl
theorem cI6 : Try.prog.cellsOf 3 = 1 := by kernel_rfl
theorem cLL : Try.prog.cellsOf 2 = 1 := by kernel_rfl
theorem fkPa : fieldsK Try.prog 73 = some [(23, 0), (2, 16)] := by kernel_rfl
theorem litsP (p : PV) (hp : okN p.n) (d : Nat) : Try.prog.keyLits (d + 3) 73 (cP p) = some [(Go.J.lI p.who).flatten, [.int .i64 p.n]].flatten := by
  refine lits_struct (d := d + 2) fkPa (by rw [cPa]; rfl) ?_
  have h1 := litsI p.who d
  have h2 : Try.prog.keyLits (d + 2) 2 [.int .i64 p.n] = some [.int .i64 p.n] := lits_int (d := d + 1) u2 hp
  simp only [List.mapM_cons, List.mapM_nil, cID, cLL]
  rw [show ((cP p).drop 0).take 16 = cI p.who from rfl, show ((cP p).drop 16).take 1 = [.int .i64 p.n] from rfl, h1, h2]; rfl
theorem cCa : Try.prog.cellsOf 75 = 35 := by kernel_rfl
theorem fkCa : fieldsK Try.prog 75 = some [(23, 0), (3, 16), (3, 17), (73, 18)] := by kernel_rfl
theorem litsC (x : CV) (hx : okC x) (d : Nat) : Try.prog.keyLits (d + 4) 75 (cC x) = some [(Go.J.lI x.id).flatten, [.int .i64 x.leg], [.int .i64 x.n], [(Go.J.lI x.p.who).flatten, [.int .i64 x.p.n]].flatten].flatten := by
  refine lits_struct (d := d + 3) fkCa (by rw [cCa]; rfl) ?_
  have h1 := litsI x.id (d + 1)
  have h2 : Try.prog.keyLits (d + 3) 3 [.int .i64 x.leg] = some [.int .i64 x.leg] := lits_int (d := d + 2) u3 hx.1
  have h3 : Try.prog.keyLits (d + 3) 3 [.int .i64 x.n] = some [.int .i64 x.n] := lits_int (d := d + 2) u3 hx.2.1
  have h4 := litsP x.p hx.2.2 d
  simp only [List.mapM_cons, List.mapM_nil, cID, cI6, cPa]
  rw [show ((cC x).drop 0).take 16 = cI x.id from rfl, show ((cC x).drop 16).take 1 = [.int .i64 x.leg] from rfl, show ((cC x).drop 17).take 1 = [.int .i64 x.n] from rfl, show ((cC x).drop 18).take 17 = cP x.p from rfl, h1, h2, h3, h4]; rfl
theorem keyC (x : CV) (hx : okC x) : ∃ l, keyOf Try.prog 75 (.agg (cC x).toArray) = some l := key_of size_ (by kernel_rfl) (by kernel_rfl) (by rw [cCa]; rfl) (litsC x hx _)
theorem QC : EqL Try.prog 75 := EqL.of (m := 6) (by kernel_rfl) (by omega) (by kernel_rfl) (by kernel_rfl) (by kernel_rfl)
end Ty
theorem J.eqC {ops : Array Oper} {Q : Exit → Act → World → Prop} {n : Nat} {e : Env} {I : World → Prop} {rest : List Oper} {d t yt : Nat} {p : String} {af : Array Edge} {x y : Operand} {a b : CV} (hx : ev e x = some (.agg (cC a).toArray)) (hy : ev e y = some (.agg (cC b).toArray)) (ha : okC a) (hb : okC b) (hd : Nat.blt d n = true)
    (h : J Try.prog ops Q n rest ((d, .bool (decide (a = b))) :: e) I) : J Try.prog ops Q n (⟨some d, .binOp .eql 75 x y yt, t, p, af, none⟩ :: rest) e I := by
  obtain ⟨_, k1⟩ := Ty.keyC a ha
  obtain ⟨_, k2⟩ := Ty.keyC b hb
  refine J.eqA Ty.QC hx hy k1 k2 hd fun r hr => ?_
  rw [arr_inj, cC_eq] at hr
  rw [dec_of hr]; exact h
theorem row_cutC {w : World} {v : Value} {xs : List CV} (h : Row w v xs.length (fC xs)) (most : Nat) : Row w (cutV v (min xs.length most)) (xs.take most).length (fC (xs.take most)) := by
  obtain ⟨a, c, rfl, hc, h⟩ := _root_.id h
  have e : (xs.take most).length = min xs.length most := by rw [List.length_take]; omega
  have hfl := fC_len xs
  rw [e, fC_take]
  refine ⟨_, _, rfl, Nat.le_refl _, ?_⟩
  by_cases hm : min xs.length most = 0
  · left
    rcases Nat.eq_zero_or_pos most with h0 | h0
    · rw [h0]; simp
    · have : xs = [] := List.eq_nil_of_length_eq_zero (by omega)
      rw [this]; simp
  · rcases h with h | ⟨b, o, rfl, hcl⟩
    · left; rw [h, List.take_nil]
    · right
      refine ⟨b, o, by rw [if_neg hm]; simp [Addr.add], ?_⟩
      intro j hj
      rw [List.length_take] at hj
      rw [List.getElem?_take_of_lt (by omega)]
      exact hcl j (by omega)
def fx1 : CV := ⟨nI 7, 1, 0, ⟨zI, 3⟩⟩
def fx2 : CV := ⟨nI 7, 0, 2, zP⟩
def fx3 : CV := ⟨nI 20, 3, 1, zP⟩
def fxC : List CV := [fx1, fx2, fx3]
theorem fx_ask : askC (nI 5) [nI 9] fxC 1 = [fx2, fx3] := by unfold askC; rw [wantI_C]; decide +kernel
theorem fx_ok2 : okC fx2 := ⟨by decide +kernel, by decide +kernel, by decide +kernel⟩
theorem fx_ok3 : okC fx3 := ⟨by decide +kernel, by decide +kernel, by decide +kernel⟩
structure PlS where
  i : Nat
  v : Value
  lp : List (Nat × Obj)

theorem cut17_spec (v : Value) (xs : List IDV) (most : Nat) (w : World) (hr : Row w v xs.length (fI xs)) :
    Calls Try.prog 34 [v, .int .i64 ((most : Nat) : Int)].toArray w fun r w' => r = .returned (cutV v (min xs.length most)) ∧ Bel w w' := by
  obtain ⟨a, c, rfl, hc, _⟩ := _root_.id hr
  refine calls_of_J (args := [.slice a xs.length c, .int .i64 ((most : Nat) : Int)]) (e := [(0, .slice a xs.length c), (1, .int .i64 ((most : Nat) : Int))]) Try.func34 rfl rfl ⟨rfl, rfl, trivial⟩ (St.start w) ?_
  refine JC.seq (fun K0 hK0 => ?_)
  refine JC.region ?_
  refine J.assign rfl rfl ?_
  refine J.nil ?_
  refine JX.thenN (hK0 _ _ ?_)
  refine JC.seq (fun K1 hK1 => ?_)
  refine JC.region ?_
  refine J.move rfl rfl ?_
  refine J.move rfl rfl ?_
  refine J.lenS rfl Ty.u24 rfl rfl ?_
  refine J.move rfl rfl ?_
  refine J.min2 rfl rfl rfl ?_
  refine J.name 9 rfl (show _ = Value.int .i64 ((min xs.length most : Nat) : Int) by congr 1; omega) ?_
  refine J.move rfl rfl ?_
  refine J.lenS rfl Ty.u24 rfl rfl ?_
  refine J.move rfl rfl ?_
  refine J.min2 rfl rfl rfl ?_
  refine J.name 13 rfl (show _ = Value.int .i64 ((min xs.length most : Nat) : Int) by congr 1; omega) ?_
  refine J.sliceM Ty.el24 Ty.s23 rfl rfl rfl (by omega) rfl ?_
  refine J.assign rfl rfl ?_
  refine J.nil ?_
  refine JX.thenN (hK1 _ _ ?_)
  refine JC.ret ?_
  refine JX.ret1 rfl rfl (fun w hw => ?_)
  exact ⟨rfl, hw.below⟩

theorem cutC_spec (v : Value) (xs : List CV) (most : Nat) (w : World) (hr : Row w v xs.length (fC xs)) :
    Calls Try.prog 35 [v, .int .i64 ((most : Nat) : Int)].toArray w fun r w' => r = .returned (cutV v (min xs.length most)) ∧ Bel w w' := by
  obtain ⟨a, c, rfl, hc, _⟩ := _root_.id hr
  refine calls_of_J (args := [.slice a xs.length c, .int .i64 ((most : Nat) : Int)]) (e := [(0, .slice a xs.length c), (1, .int .i64 ((most : Nat) : Int))]) Try.func35 rfl rfl ⟨rfl, rfl, trivial⟩ (St.start w) ?_
  refine JC.seq (fun K0 hK0 => ?_)
  refine JC.region ?_
  refine J.assign rfl rfl ?_
  refine J.nil ?_
  refine JX.thenN (hK0 _ _ ?_)
  refine JC.seq (fun K1 hK1 => ?_)
  refine JC.region ?_
  refine J.move rfl rfl ?_
  refine J.move rfl rfl ?_
  refine J.lenS rfl Ty.u68 rfl rfl ?_
  refine J.move rfl rfl ?_
  refine J.min2 rfl rfl rfl ?_
  refine J.name 9 rfl (show _ = Value.int .i64 ((min xs.length most : Nat) : Int) by congr 1; omega) ?_
  refine J.move rfl rfl ?_
  refine J.lenS rfl Ty.u68 rfl rfl ?_
  refine J.move rfl rfl ?_
  refine J.min2 rfl rfl rfl ?_
  refine J.name 13 rfl (show _ = Value.int .i64 ((min xs.length most : Nat) : Int) by congr 1; omega) ?_
  refine J.sliceM Ty.el68 Ty.s75 rfl rfl rfl (by omega) rfl ?_
  refine J.assign rfl rfl ?_
  refine J.nil ?_
  refine JX.thenN (hK1 _ _ ?_)
  refine JC.ret ?_
  refine JX.ret1 rfl rfl (fun w hw => ?_)
  exact ⟨rfl, hw.below⟩

theorem n17_spec (k : UInt8) (w : World) :
    Calls Try.prog 59 [u8 k].toArray w fun r w' => r = .returned (.agg (cI (nI k)).toArray) ∧ Bel w w' := by
  refine calls_of_J (args := [u8 k]) (e := [(0, u8 k)]) Try.func59 rfl rfl ⟨rfl, trivial⟩ (St.start w) ?_
  refine JC.seq (fun K0 hK0 => ?_)
  refine JC.region ?_
  refine J.alloc Ty.zID rfl rfl (fun b2 => ?_)
  refine J.nil ?_
  refine JX.thenN (hK0 _ _ ?_)
  refine JC.seq (fun K1 hK1 => ?_)
  refine JC.region ?_
  refine J.move rfl rfl ?_
  refine J.buildA (cs := cI (nI k)) Ty.ar23 Ty.s5 Ty.z23 rfl (by kernel_rfl) rfl ?_
  refine J.storeW Ty.s23 rfl rfl rfl rfl rfl (by simp [Value.oneCell']) (by repeat first | exact .here | apply Up.there) ?_
  refine J.nil ?_
  refine JX.thenN (hK1 _ _ ?_)
  refine JC.ret ?_
  refine JX.retC rfl rfl Ty.a23 Ty.s23 (vs := cI (nI k)) rfl (fun w1 hw => Cells.of_block (hw.own _ (.head _)) rfl) (fun w1 hw => ?_)
  exact ⟨rfl, (hw.drop (List.nil_sublist _)).below⟩

set_option maxHeartbeats 1000000 in
theorem fixed17_spec (w : World) :
    Calls Try.prog 39 [].toArray w fun r w' => r = .returned (.bool true) ∧ Bel w w' := by
  refine calls_of_J (args := []) (e := []) Try.func39 rfl rfl trivial (St.start w) ?_
  refine JC.seq (fun K0 hK0 => ?_)
  refine JC.region ?_
  refine J.assign rfl rfl ?_
  refine J.nil ?_
  refine JX.thenN (hK0 _ _ ?_)
  refine JC.seq (fun K1 hK1 => ?_)
  refine JC.region ?_
  refine J.callB (v := .agg (cI (nI 5)).toArray) (fun w1 w2 hw hb => hw.step hb) Ty.bd59 rfl rfl (fun w1 hw => n17_spec 5 w1) ?_
  refine J.callB (v := .agg (cI (nI 9)).toArray) (fun w1 w2 hw hb => hw.step hb) Ty.bd59 rfl rfl (fun w1 hw => n17_spec 9 w1) ?_
  refine J.buildSl (cs := cI (nI 9)) Ty.el24 Ty.s23 Ty.zID rfl rfl rfl rfl (by kernel_rfl) rfl rfl (fun b4 => ?_)
  refine J.callB (v := .agg (cI (nI 7)).toArray) (fun w1 w2 hw hb => hw.step hb) Ty.bd59 rfl rfl (fun w1 hw => n17_spec 7 w1) ?_
  refine J.buildS (cs := cP ⟨zI, 3⟩) Ty.pl73 Ty.z73 rfl (by kernel_rfl) rfl ?_
  refine J.buildS (cs := cC fx1) Ty.pl75 zCan rfl (by kernel_rfl) rfl ?_
  refine J.callB (v := .agg (cI (nI 7)).toArray) (fun w1 w2 hw hb => hw.step hb) Ty.bd59 rfl rfl (fun w1 hw => n17_spec 7 w1) ?_
  refine J.buildS (cs := cC fx2) Ty.pl75 zCan rfl (by kernel_rfl) rfl ?_
  refine J.callB (v := .agg (cI (nI 20)).toArray) (fun w1 w2 hw hb => hw.step hb) Ty.bd59 rfl rfl (fun w1 hw => n17_spec 20 w1) ?_
  refine J.buildS (cs := cC fx3) Ty.pl75 zCan rfl (by kernel_rfl) rfl ?_
  refine J.buildSl (cs := fC fxC) Ty.el68 Ty.s75 zCan rfl rfl rfl rfl (by kernel_rfl) rfl rfl (fun b12 => ?_)
  refine J.perm ([] ++ ((b12, cb (fC fxC) 75) :: (b4, cb (cI (nI 9)) 23) :: [])) (.refl _) ?_
  refine J.callS (α := Value × List (Nat × Obj)) (V := (·.1)) (Pr := fun x => Vec 75 35 x.1 (askC (nI 5) [nI 9] fxC 1).length (fC (askC (nI 5) [nI 9] fxC 1)) x.2) (L := (·.2)) (l1 := []) Ty.bd37 rfl rfl (fun w1 hw => seekAsks_spec (nI 5) _ _ [nI 9] fxC 1 w1 (Row.own (cs := cI (nI 9)) (tb := 23) (fr := (0, 0)) hw (.tail _ (.head _)) rfl (Nat.le_refl _)) (Row.own (cs := fC fxC) (tb := 75) (fr := (0, 0)) hw (.head _) rfl (Nat.le_refl _)) (by decide) (by decide)) (fun x hvq => ?_)
  obtain ⟨vq, lq⟩ := x
  simp only at hvq ⊢
  rw [fx_ask] at hvq
  obtain ⟨bq, cq, sq, rfl, rfl, hsq, hcq⟩ : ∃ b c sp, vq = .slice (some ⟨b, 0, none⟩) 2 c ∧ lq = [(b, cb (fC [fx2, fx3] ++ sp) 75)] ∧ (fC [fx2, fx3] ++ sp).length = c * 35 ∧ 2 ≤ c := by
    rcases hvq.2 with ⟨_, h, _⟩ | h
    · cases h
    · exact h
  refine J.assign rfl rfl ?_
  refine J.nil ?_
  refine JX.thenN (hK1 _ _ ?_)
  refine JC.seq (fun K2 hK2 => ?_)
  apply JC.drawX (α := Nat × Unit) 23 (fun x => match x with | ⟨xu, uu⟩ => [.slice (some ⟨bq, 0, none⟩) 2 cq, .int .i64 2, .bool true, .bool true, .slice (some ⟨bq, 0, none⟩) 2 cq, .pointer (some ⟨bq, 0 + (0 : Int).toNat * 35, none⟩), .agg (cC fx2).toArray, .agg (cI (nI 7)).toArray, .agg (cC fx2).toArray, .bool true, .bool true, .bool true, .slice (some ⟨bq, 0, none⟩) 2 cq, .pointer (some ⟨bq, 0 + (1 : Int).toNat * 35, none⟩), .agg (cC fx3).toArray, .agg (cI (nI 20)).toArray, .agg (cC fx3).toArray, .bool true, .bool true, .bool true, .bool true, .bool true, .bool true]) (fun m x => match x with | ⟨xu, uu⟩ => fun w1 => (True) ∧ St w [] ((bq, cb (fC [fx2, fx3] ++ sq) 75) :: (b12, cb (fC fxC) 75) :: (b4, cb (cI (nI 9)) 23) :: []) w1) Ty.mixed rfl rfl rfl (by kernel_rfl) rfl rfl ?hinit ?hstep ?htail
  case hinit => exact fun w1 hw => ⟨(0, ()), trivial, hw.drew⟩
  case hstep =>
    refine ⟨fun m x hm hp => ?_, fun m x hm hp => ?_, fun m x hm hp => ?_, fun m x hm hp => ?_, fun m x hm hp => ?_, fun m x hm hp => ?_, fun m x hm hp => ?_, fun m x hm hp => ?_, fun m x hm hp => ?_, fun m x hm hp => ?_, fun m x hm hp => ?_, fun m x hm hp => ?_, fun m x hm hp => ?_, fun m x hm hp => ?_, fun m x hm hp => ?_, fun m x hm hp => ?_, fun m x hm hp => ?_, fun m x hm hp => ?_, fun m x hm hp => ?_, fun m x hm hp => ?_, fun m x hm hp => ?_, fun m x hm hp => ?_, fun m x hm hp => ?_, trivial⟩
    · skip
      obtain ⟨xu, uu⟩ := x
      show J _ _ _ _ _ (_) _
      refine J.pr (fun hF => ?_)
      refine J.move rfl rfl ?_
      exact J.finX rfl (fun _ hw => ⟨⟨xu, uu⟩, rfl, fun _ _ _ => rfl, hF, hw⟩)
    · skip
      obtain ⟨xu, uu⟩ := x
      show J _ _ _ _ _ ((14, .slice (some ⟨bq, 0, none⟩) 2 cq) :: _) _
      refine J.pr (fun hF => ?_)
      refine J.lenS rfl Ty.u68 rfl rfl ?_
      exact J.finX rfl (fun _ hw => ⟨⟨xu, uu⟩, rfl, fun _ _ _ => rfl, hF, hw⟩)
    · skip
      obtain ⟨xu, uu⟩ := x
      show J _ _ _ _ _ ((15, .int .i64 2) :: _) _
      refine J.pr (fun hF => ?_)
      refine J.bin rfl rfl rfl rfl ?_
      exact J.finX rfl (fun _ hw => ⟨⟨xu, uu⟩, rfl, fun _ _ _ => rfl, hF, hw⟩)
    · skip
      obtain ⟨xu, uu⟩ := x
      show J _ _ _ _ _ ((16, .bool true) :: _) _
      refine J.pr (fun hF => ?_)
      refine J.move rfl rfl ?_
      exact J.finX rfl (fun _ hw => ⟨⟨xu, uu⟩, rfl, fun _ _ _ => rfl, hF, hw⟩)
    · skip
      obtain ⟨xu, uu⟩ := x
      show J _ _ _ _ _ ((17, .bool true) :: _) _
      refine J.pr (fun hF => ?_)
      first | refine J.skip rfl rfl rfl rfl rfl ?_ | refine J.skipU rfl rfl rfl rfl ?_ | (refine J.unguard rfl rfl rfl ?_; refine J.move rfl rfl ?_)
      exact J.finX rfl (fun _ hw => ⟨⟨xu, uu⟩, rfl, fun _ _ _ => rfl, hF, hw⟩)
    · skip
      obtain ⟨xu, uu⟩ := x
      show J _ _ _ _ _ ((17, .bool true) :: (18, .slice (some ⟨bq, 0, none⟩) 2 cq) :: _) _
      refine J.pr (fun hF => ?_)
      refine J.unguard rfl rfl rfl ?_
      refine J.indexAddrS Ty.el68 Ty.s75 rfl rfl (by omega) (by omega) rfl ?_
      exact J.finX rfl (fun _ hw => ⟨⟨xu, uu⟩, rfl, fun _ _ _ => rfl, hF, hw⟩)
    · skip
      obtain ⟨xu, uu⟩ := x
      show J _ _ _ _ _ ((17, .bool true) :: (19, .pointer (some ⟨bq, 0 + (0 : Int).toNat * 35, none⟩)) :: _) _
      refine J.pr (fun hF => ?_)
      refine J.unguard rfl rfl rfl ?_
      refine J.loadA (vs := cC fx2) Ty.a75 Ty.s75 rfl rfl (fun w1 hw => rowG_at (c := cC) (sz := 35) (i := 0) (fun _ => rfl) (Row.own (cs := fC [fx2, fx3] ++ sq) (tb := 75) (fr := (0, 0)) hw (.head _) rfl hcq : Row w1 (.slice (some ⟨bq, 0, none⟩) 2 cq) 2 (fC [fx2, fx3])) rfl rfl) rfl ?_
      exact J.finX rfl (fun _ hw => ⟨⟨xu, uu⟩, rfl, fun _ _ _ => rfl, hF, hw⟩)
    · skip
      obtain ⟨xu, uu⟩ := x
      show J _ _ _ _ _ ((17, .bool true) :: (17, .bool true) :: _) _
      refine J.pr (fun hF => ?_)
      refine J.unguard rfl rfl rfl ?_
      refine J.callB (v := .agg (cI (nI 7)).toArray) (fun w1 w2 hw hb => hw.step hb) Ty.bd59 rfl rfl (fun w1 hw => n17_spec 7 w1) ?_
      exact J.finX rfl (fun _ hw => ⟨⟨xu, uu⟩, rfl, fun _ _ _ => rfl, hF, hw⟩)
    · skip
      obtain ⟨xu, uu⟩ := x
      show J _ _ _ _ _ ((17, .bool true) :: (21, .agg (cI (nI 7)).toArray) :: _) _
      refine J.pr (fun hF => ?_)
      refine J.unguard rfl rfl rfl ?_
      refine J.buildS (cs := cC fx2) Ty.pl75 zCan rfl (by kernel_rfl) rfl ?_
      exact J.finX rfl (fun _ hw => ⟨⟨xu, uu⟩, rfl, fun _ _ _ => rfl, hF, hw⟩)
    · skip
      obtain ⟨xu, uu⟩ := x
      show J _ _ _ _ _ ((17, .bool true) :: (22, .agg (cC fx2).toArray) :: (20, .agg (cC fx2).toArray) :: _) _
      refine J.pr (fun hF => ?_)
      refine J.unguard rfl rfl rfl ?_
      refine J.eqC rfl rfl fx_ok2 fx_ok2 rfl ?_
      refine J.name 23 rfl (show _ = Value.bool true by simp) ?_
      exact J.finX rfl (fun _ hw => ⟨⟨xu, uu⟩, rfl, fun _ _ _ => rfl, hF, hw⟩)
    · skip
      obtain ⟨xu, uu⟩ := x
      show J _ _ _ _ _ ((23, .bool true) :: (17, .bool true) :: _) _
      refine J.pr (fun hF => ?_)
      (first | refine J.pickT rfl rfl rfl ?_ | refine J.pickF rfl rfl rfl ?_)
      exact J.finX rfl (fun _ hw => ⟨⟨xu, uu⟩, rfl, fun _ _ _ => rfl, hF, hw⟩)
    · skip
      obtain ⟨xu, uu⟩ := x
      show J _ _ _ _ _ ((21, .agg (cI (nI 7)).toArray) :: (24, .bool true) :: _) _
      refine J.pr (fun hF => ?_)
      refine J.move rfl rfl ?_
      exact J.finX rfl (fun _ hw => ⟨⟨xu, uu⟩, rfl, fun _ _ _ => rfl, hF, hw⟩)
    · skip
      obtain ⟨xu, uu⟩ := x
      show J _ _ _ _ _ ((25, .bool true) :: _) _
      refine J.pr (fun hF => ?_)
      first | refine J.skip rfl rfl rfl rfl rfl ?_ | refine J.skipU rfl rfl rfl rfl ?_ | (refine J.unguard rfl rfl rfl ?_; refine J.move rfl rfl ?_)
      exact J.finX rfl (fun _ hw => ⟨⟨xu, uu⟩, rfl, fun _ _ _ => rfl, hF, hw⟩)
    · skip
      obtain ⟨xu, uu⟩ := x
      show J _ _ _ _ _ ((25, .bool true) :: (26, .slice (some ⟨bq, 0, none⟩) 2 cq) :: _) _
      refine J.pr (fun hF => ?_)
      refine J.unguard rfl rfl rfl ?_
      refine J.indexAddrS Ty.el68 Ty.s75 rfl rfl (by omega) (by omega) rfl ?_
      exact J.finX rfl (fun _ hw => ⟨⟨xu, uu⟩, rfl, fun _ _ _ => rfl, hF, hw⟩)
    · skip
      obtain ⟨xu, uu⟩ := x
      show J _ _ _ _ _ ((25, .bool true) :: (27, .pointer (some ⟨bq, 0 + (1 : Int).toNat * 35, none⟩)) :: _) _
      refine J.pr (fun hF => ?_)
      refine J.unguard rfl rfl rfl ?_
      refine J.loadA (vs := cC fx3) Ty.a75 Ty.s75 rfl rfl (fun w1 hw => rowG_at (c := cC) (sz := 35) (i := 1) (fun _ => rfl) (Row.own (cs := fC [fx2, fx3] ++ sq) (tb := 75) (fr := (0, 0)) hw (.head _) rfl hcq : Row w1 (.slice (some ⟨bq, 0, none⟩) 2 cq) 2 (fC [fx2, fx3])) rfl rfl) rfl ?_
      exact J.finX rfl (fun _ hw => ⟨⟨xu, uu⟩, rfl, fun _ _ _ => rfl, hF, hw⟩)
    · skip
      obtain ⟨xu, uu⟩ := x
      show J _ _ _ _ _ ((25, .bool true) :: (25, .bool true) :: _) _
      refine J.pr (fun hF => ?_)
      refine J.unguard rfl rfl rfl ?_
      refine J.callB (v := .agg (cI (nI 20)).toArray) (fun w1 w2 hw hb => hw.step hb) Ty.bd59 rfl rfl (fun w1 hw => n17_spec 20 w1) ?_
      exact J.finX rfl (fun _ hw => ⟨⟨xu, uu⟩, rfl, fun _ _ _ => rfl, hF, hw⟩)
    · skip
      obtain ⟨xu, uu⟩ := x
      show J _ _ _ _ _ ((25, .bool true) :: (29, .agg (cI (nI 20)).toArray) :: _) _
      refine J.pr (fun hF => ?_)
      refine J.unguard rfl rfl rfl ?_
      refine J.buildS (cs := cC fx3) Ty.pl75 zCan rfl (by kernel_rfl) rfl ?_
      exact J.finX rfl (fun _ hw => ⟨⟨xu, uu⟩, rfl, fun _ _ _ => rfl, hF, hw⟩)
    · skip
      obtain ⟨xu, uu⟩ := x
      show J _ _ _ _ _ ((25, .bool true) :: (30, .agg (cC fx3).toArray) :: (28, .agg (cC fx3).toArray) :: _) _
      refine J.pr (fun hF => ?_)
      refine J.unguard rfl rfl rfl ?_
      refine J.eqC rfl rfl fx_ok3 fx_ok3 rfl ?_
      refine J.name 31 rfl (show _ = Value.bool true by simp) ?_
      exact J.finX rfl (fun _ hw => ⟨⟨xu, uu⟩, rfl, fun _ _ _ => rfl, hF, hw⟩)
    · skip
      obtain ⟨xu, uu⟩ := x
      show J _ _ _ _ _ ((31, .bool true) :: (25, .bool true) :: _) _
      refine J.pr (fun hF => ?_)
      (first | refine J.pickT rfl rfl rfl ?_ | refine J.pickF rfl rfl rfl ?_)
      exact J.finX rfl (fun _ hw => ⟨⟨xu, uu⟩, rfl, fun _ _ _ => rfl, hF, hw⟩)
    · skip
      obtain ⟨xu, uu⟩ := x
      show J _ _ _ _ _ ((29, .agg (cI (nI 20)).toArray) :: (32, .bool true) :: _) _
      refine J.pr (fun hF => ?_)
      refine J.move rfl rfl ?_
      exact J.finX rfl (fun _ hw => ⟨⟨xu, uu⟩, rfl, fun _ _ _ => rfl, hF, hw⟩)
    · skip
      obtain ⟨xu, uu⟩ := x
      show J _ _ _ _ _ ((33, .bool true) :: _) _
      refine J.pr (fun hF => ?_)
      (first | refine J.pickT rfl rfl rfl ?_ | refine J.pickF rfl rfl rfl ?_)
      exact J.finX rfl (fun _ hw => ⟨⟨xu, uu⟩, rfl, fun _ _ _ => rfl, hF, hw⟩)
    · skip
      obtain ⟨xu, uu⟩ := x
      show J _ _ _ _ _ ((33, .bool true) :: (34, .bool true) :: _) _
      refine J.pr (fun hF => ?_)
      refine J.move rfl rfl ?_
      exact J.finX rfl (fun _ hw => ⟨⟨xu, uu⟩, rfl, fun _ _ _ => rfl, hF, hw⟩)
    · skip
      obtain ⟨xu, uu⟩ := x
      show J _ _ _ _ _ ((35, .bool true) :: _) _
      refine J.pr (fun hF => ?_)
      (first | refine J.pickT rfl rfl rfl ?_ | refine J.pickF rfl rfl rfl ?_)
      exact J.finX rfl (fun _ hw => ⟨⟨xu, uu⟩, rfl, fun _ _ _ => rfl, hF, hw⟩)
  case htail =>
    intro x
    obtain ⟨xu, uu⟩ := x
    show J _ _ _ _ _ ((36, .bool true) :: (35, .bool true) :: (34, .bool true) :: (33, .bool true) :: (32, .bool true) :: (31, .bool true) :: (30, .agg (cC fx3).toArray) :: (29, .agg (cI (nI 20)).toArray) :: (28, .agg (cC fx3).toArray) :: (27, .pointer (some ⟨bq, 0 + (1 : Int).toNat * 35, none⟩)) :: (26, .slice (some ⟨bq, 0, none⟩) 2 cq) :: (25, .bool true) :: (24, .bool true) :: (23, .bool true) :: (22, .agg (cC fx2).toArray) :: (21, .agg (cI (nI 7)).toArray) :: (20, .agg (cC fx2).toArray) :: (19, .pointer (some ⟨bq, 0 + (0 : Int).toNat * 35, none⟩)) :: (18, .slice (some ⟨bq, 0, none⟩) 2 cq) :: (17, .bool true) :: (16, .bool true) :: (15, .int .i64 2) :: (14, .slice (some ⟨bq, 0, none⟩) 2 cq) :: _) (fun w1 => (True) ∧ St w [] ((bq, cb (fC [fx2, fx3] ++ sq) 75) :: (b12, cb (fC fxC) 75) :: (b4, cb (cI (nI 9)) 23) :: []) w1)
    refine J.pr (fun hF => ?_)
    refine J.assign rfl rfl ?_
    refine J.nil ?_
    refine JX.thenN (hK2 _ _ ?_)
    refine JC.ret ?_
    refine JX.ret1 rfl rfl (fun w hw => ?_)
    exact ⟨rfl, (hw.drop (List.nil_sublist _)).below⟩

end Go.Proofs.Ytbafhclandendaa
/-
  What comes in for the laws of layer 17; SeekAsks: the walk.
-/
namespace Go.Proofs.Ytbafhclandendaa
open Go.J Go.RowKit
set_option linter.unusedVariables false
set_option linter.unusedSimpArgs false
set_option maxRecDepth 8000
def RCx : World → List Value → CV → Prop := fun W cs x => cs = cC x ∧ okC x
def RPx : World → List Value → PV → Prop := fun W cs x => cs = cP x ∧ okN x.n
structure KnV where
  me : IDV
  f : Sl IDV
  c : Sl CV
  half : Int
def RKn : World → List Value → KnV → Prop := fun W cs x => cs = cI x.me ++ [x.f.v, x.c.v, .int .i64 x.half] ∧ RSl 16 16 RId W [x.f.v] x.f ∧ RSl 35 56 RCx W [x.c.v] x.c
theorem fsPx : fieldsT Try.prog 73 = some [(23, 0, 16), (2, 16, 1)] := by kernel_rfl
theorem fsCx : fieldsT Try.prog 75 = some [(23, 0, 16), (3, 16, 1), (3, 17, 1), (73, 18, 17)] := by kernel_rfl
theorem fsKn : fieldsT Try.prog 70 = some [(23, 0, 16), (24, 16, 1), (68, 17, 1), (3, 18, 1)] := by kernel_rfl
theorem split2s {cs a b : List Value} {k m : Nat} (h1 : (cs.drop 0).take k = a) (h2 : (cs.drop k).take m = b) (hl : cs.length = k + m) : cs = a ++ b := by
  rw [List.drop_zero] at h1
  have h3 : (cs.drop k).take m = cs.drop k := List.take_of_length_le (by rw [List.length_drop]; omega)
  rw [← h1, ← h2, h3, List.take_append_drop]
theorem dec_path : Decodes Try.prog 73 RPx := by
  intro H enc w fuel cs x h hn
  have hl := dec_len Ty.a73 Ty.s73 h
  obtain ⟨a, ha⟩ := dec_field fsPx h hn 0 _ rfl dec_id
  obtain ⟨n, hi, wi⟩ := dec_field fsPx h hn 1 _ rfl (dec_int Ty.u2)
  exact ⟨⟨a, n⟩, split2s (k := 16) (m := 1) ha hi hl, wi⟩
theorem dec_cand : Decodes Try.prog 75 RCx := by
  intro H enc w fuel cs x h hn
  have hl := dec_len Ty.a75 Ty.s75 h
  obtain ⟨a, ha⟩ := dec_field fsCx h hn 0 _ rfl dec_id
  obtain ⟨l, hil, wl⟩ := dec_field fsCx h hn 1 _ rfl (dec_int Ty.u3)
  obtain ⟨n, hi, wn⟩ := dec_field fsCx h hn 2 _ rfl (dec_int Ty.u3)
  obtain ⟨p, hp, wp⟩ := dec_field fsCx h hn 3 _ rfl dec_path
  have hd : ∀ (k j : Nat), (cs.drop k).drop j = cs.drop (k + j) := fun k j => by rw [List.drop_drop]
  have q2 : cs.drop 17 = [Value.int .i64 n] ++ cP p := split2s (k := 1) (m := 17) (by simpa using hi) (by rw [hd]; exact hp) (by simp; omega)
  have q1 : cs.drop 16 = [Value.int .i64 l] ++ cs.drop 17 := split2s (k := 1) (m := 18) (by simpa using hil) (by rw [hd]; exact List.take_of_length_le (by simp; omega)) (by simp; omega)
  have q0 : cs = cI a ++ cs.drop 16 := split2s (k := 16) (m := 19) ha (List.take_of_length_le (by simp; omega)) hl
  refine ⟨⟨a, l, n, p⟩, ?_, wl, wn, wp⟩
  show cs = cI a ++ [Value.int .i64 l, Value.int .i64 n] ++ cP p
  rw [q0, q1, q2]; rfl
theorem dec_known : Decodes Try.prog 70 RKn := by
  intro H enc w fuel cs x h hn
  have hl := dec_len Ty.a70 Ty.s70 h
  obtain ⟨a, ha⟩ := dec_field fsKn h hn 0 _ rfl dec_id
  obtain ⟨s, hs⟩ := dec_field fsKn h hn 1 _ rfl (dec_slice Ty.el24 Ty.s23 Ty.b23 (by omega) dec_id)
  obtain ⟨t, ht⟩ := dec_field fsKn h hn 2 _ rfl (dec_slice Ty.el68 Ty.s75 Ty.b75 (by omega) dec_cand)
  obtain ⟨k, hk, _⟩ := dec_field fsKn h hn 3 _ rfl (dec_int Ty.u3)
  have hd : ∀ (k j : Nat), (cs.drop k).drop j = cs.drop (k + j) := fun k j => by rw [List.drop_drop]
  have e1 : (cs.drop 16).take 1 = [s.v] := hs.1
  have e2 : (cs.drop 17).take 1 = [t.v] := ht.1
  have q2 : cs.drop 17 = [t.v] ++ [Value.int .i64 k] := split2s (k := 1) (m := 1) (by simpa using e2) (by rw [hd]; exact hk) (by simp; omega)
  have q1 : cs.drop 16 = [s.v] ++ cs.drop 17 := split2s (k := 1) (m := 2) (by simpa using e1) (by rw [hd]; exact List.take_of_length_le (by simp; omega)) (by simp; omega)
  have q0 : cs = cI a ++ cs.drop 16 := split2s (k := 16) (m := 3) ha (List.take_of_length_le (by simp; omega)) hl
  refine ⟨⟨a, s, t, k⟩, ?_, ?_, ?_⟩
  · show cs = cI a ++ [s.v, t.v, Value.int .i64 k]
    rw [q0, q1, q2]; rfl
  · have := hs; rw [show ((cs.drop (_ : Nat)).take _) = [s.v] from e1] at this; exact this
  · have := ht; rw [show ((cs.drop (_ : Nat)).take _) = [t.v] from e2] at this; exact this
theorem RKn.rowF {W : World} {cs : List Value} {x : KnV} (h : RKn W cs x) : Row W x.f.v x.f.xs.length (fI x.f.xs) := rslG (c := cI) (sz := 16) (fun _ => rfl) (by omega) (fun _ _ _ h => h) h.2.1
theorem RKn.rowC {W : World} {cs : List Value} {x : KnV} (h : RKn W cs x) : Row W x.c.v x.c.xs.length (fC x.c.xs) := rslG (c := cC) (sz := 35) (fun _ => rfl) (by omega) (fun _ _ _ h => h.1) h.2.2
theorem RKn.ok {W : World} {cs : List Value} {x : KnV} (h : RKn W cs x) : ∀ y, y ∈ x.c.xs → okC y := rslG_all (fun _ _ _ h => h.2) h.2.2
theorem vecG_pos {t k : Nat} {v : Value} {xs : List Value} {lp : List (Nat × Obj)} (h : Vec t 35 v k xs lp) (hp : 0 < k) : ∃ b c sp, v = .slice (some ⟨b, 0, none⟩) k c ∧ lp = [(b, cb (xs ++ sp) t)] ∧ (xs ++ sp).length = c * 35 ∧ k ≤ c := by
  rcases h.2 with ⟨_, h1, _⟩ | h1
  · omega
  · exact h1
theorem askC_mem {self : IDV} {F : List IDV} {cs : List CV} {half : Int} {x : CV} (h : x ∈ askC self F cs half) : x ∈ cs ∧ x.id ∈ wantI self (F ++ cs.map (·.id)) half ∧ x.id ∉ F := by
  unfold askC askL at h
  obtain ⟨n, hn, he⟩ := List.mem_filterMap.1 h
  by_cases hF : n ∈ F
  · rw [if_pos hF] at he; cases he
  · rw [if_neg hF] at he
    have h0 := (bestC_spec n cs).1 x he
    rw [h0.id]
    exact ⟨h0.mem, hn, hF⟩

end Go.Proofs.Ytbafhclandendaa
/-
  Plain laws of whom one asks for; SeekOnce: the walk.
-/
namespace Go.Proofs.Ytbafhclandendaa
open Go.J Go.RowKit
set_option linter.unusedVariables false
set_option linter.unusedSimpArgs false
set_option maxRecDepth 8000
theorem askL_ids {W F : List IDV} {cs : List CV} (hc : ∀ n, n ∈ W → n ∉ F → ∃ x, x ∈ cs ∧ x.id = n) : (askL W F cs).map (·.id) = W.filter (fun n => decide (n ∉ F)) := by
  unfold askL
  rw [List.map_filterMap]
  rw [← List.filterMap_eq_filter]
  refine fm_congr fun n hn => ?_
  by_cases hF : n ∈ F
  · simp [hF, Option.guard]
  · cases hb : bestC n cs with
    | none =>
      obtain ⟨x, hx, hxn⟩ := hc n hn hF
      exact absurd hxn ((bestC_spec n cs).2 hb x hx)
    | some y => simp [hF, Option.guard, ((bestC_spec n cs).1 y hb).id]
theorem askC_ids (self : IDV) (F : List IDV) (cs : List CV) (half : Int) : (askC self F cs half).map (·.id) = (wantI self (F ++ cs.map (·.id)) half).filter (fun n => decide (n ∉ F)) := askL_ids want_cand
theorem want_same {self : IDV} {xs ys : List IDV} {half : Int} (h : ∀ z, z ∈ xs ↔ z ∈ ys) : wantI self xs half = wantI self ys half := by
  have e : sortI xs self = sortI ys self := sortI_of (sortI_asc xs self) (fun z => by rw [sortI_mem, h])
  unfold wantI
  rw [e]
end Go.Proofs.Ytbafhclandendaa
/-
  SeekDone: whom one asked for is known then, and nobody is asked for again: the walk.
-/
namespace Go.Proofs.Ytbafhclandendaa
open Go.J Go.RowKit
set_option linter.unusedVariables false
set_option linter.unusedSimpArgs false
set_option maxRecDepth 8000
/-- the friends, with all that were asked for -/
noncomputable def doneG (self : IDV) (F : List IDV) (cs : List CV) (half : Int) : List IDV := F ++ (askC self F cs half).map (·.id)
theorem done_mem {self n : IDV} {F : List IDV} {cs : List CV} {half : Int} (h : n ∈ wantI self (F ++ cs.map (·.id)) half) : n ∈ F ++ (askC self F cs half).map (·.id) := by
  rw [askC_ids]
  by_cases hF : n ∈ F
  · exact List.mem_append_left _ hF
  · exact List.mem_append_right _ (List.mem_filter.2 ⟨h, by simpa using hF⟩)
theorem done_nil (self : IDV) (F : List IDV) (cs : List CV) (half : Int) : askC self (F ++ (askC self F cs half).map (·.id)) cs half = [] := by
  have h1 := askC_ids self (F ++ (askC self F cs half).map (·.id)) cs half
  rw [want_same (ys := F ++ cs.map (·.id)) (fun z => by
    simp only [List.mem_append]
    constructor
    · rintro ((h | h) | h)
      · exact .inl h
      · obtain ⟨x, hx, rfl⟩ := List.mem_map.1 h
        exact .inr (List.mem_map.2 ⟨x, (askC_mem hx).1, rfl⟩)
      · exact .inr h
    · rintro (h | h)
      · exact .inl (.inl h)
      · exact .inr h), List.filter_eq_nil_iff.2 (fun n hn h => (of_decide_eq_true h) (done_mem hn))] at h1
  exact List.map_eq_nil_iff.1 h1
theorem snoc_ids {F : List IDV} {L : List CV} {i : Nat} {x : CV} (h : L[i]? = some x) : F ++ (L.take (i + 1)).map (·.id) = (F ++ (L.take i).map (·.id)) ++ [x.id] := by
  rw [take_get h, List.map_append, List.append_assoc]; rfl

set_option maxHeartbeats 2000000 in
theorem seekDoneL_spec (pc : List Value) (self : IDV) (F0v : Value) (F0 : List IDV) (C0v : Value) (C0 : List CV) (half : Int) (w : World) (hpc : pc = cI self ++ [F0v, C0v, .int .i64 half]) (hrF0 : Row w F0v F0.length (fI F0)) (hrC0 : Row w C0v C0.length (fC C0)) (hok0 : ∀ x, x ∈ C0 → okC x) :
    Calls Try.prog 11 [.agg pc.toArray].toArray w fun r w' => r = .returned (.bool true) ∧ Bel w w' := by
  obtain ⟨af, cf, rfl, hcf, _⟩ := _root_.id hrF0
  obtain ⟨ac, cc, rfl, hcc, _⟩ := _root_.id hrC0
  obtain ⟨fv, hfv⟩ : ∃ v, cutV (.slice af F0.length cf) (min F0.length 30) = v := ⟨_, rfl⟩
  obtain ⟨F, hF0⟩ : ∃ l, F0.take 30 = l := ⟨_, rfl⟩
  have hrF := row_cut hrF0 30
  rw [hfv, hF0] at hrF
  have hlF : F.length ≤ 30 := by rw [← hF0, List.length_take]; omega
  obtain ⟨a1, c1, rfl, hc1, _⟩ := _root_.id hrF
  obtain ⟨cv, hcv⟩ : ∃ v, cutV (.slice ac C0.length cc) (min C0.length 40) = v := ⟨_, rfl⟩
  obtain ⟨cs, hC0⟩ : ∃ l, C0.take 40 = l := ⟨_, rfl⟩
  have hrC := row_cutC hrC0 40
  rw [hcv, hC0] at hrC
  have hlC : cs.length ≤ 40 := by rw [← hC0, List.length_take]; omega
  have hok : ∀ x, x ∈ cs → okC x := fun x hx => hok0 x (List.mem_of_mem_take (by rw [hC0]; exact hx))
  obtain ⟨a2, c2, rfl, hc2, _⟩ := _root_.id hrC
  refine calls_of_J (args := [.agg pc.toArray]) (e := [(0, .agg pc.toArray)]) Try.func11 rfl rfl ⟨rfl, trivial⟩ (St.start w) ?_
  refine JC.seq (fun K0 hK0 => ?_)
  refine JC.region ?_
  refine J.box rfl rfl rfl (fun b1 => ?_)
  refine J.assign rfl rfl ?_
  refine J.nil ?_
  refine JX.thenN (hK0 _ _ ?_)
  refine JC.seq (fun K1 hK1 => ?_)
  apply JC.drawX (α := Nat × Unit) 14 (fun x => match x with | ⟨x3, uu⟩ => [.pointer (some ⟨b1, 0 + 0, none⟩), .agg (cI self).toArray, .pointer (some ⟨b1, 0 + 16, none⟩), .slice af F0.length cf, .slice a1 F.length c1, .pointer (some ⟨b1, 0 + 17, none⟩), .slice ac C0.length cc, .slice a2 cs.length c2, .pointer (some ⟨b1, 0 + 18, none⟩), .int .i64 half, .pointer (some ⟨x3, 0, none⟩), undef, .slice a1 F.length c1, .slice a2 cs.length c2]) (fun m x => match x with | ⟨x3, uu⟩ => fun w1 => ((m 11 = true → m 10 = true)) ∧ St w [] ((bif m 10 then [(x3, cb (cI (bif m 11 then self else zI)) 23)] else []) ++ ((b1, cb pc 70) :: [])) w1) Ty.mixed rfl rfl rfl (by kernel_rfl) rfl rfl ?hinit ?hstep ?htail
  case hinit => exact fun w1 hw => ⟨(0, ()), fun h => (by cases h), hw.drew⟩
  case hstep =>
    refine ⟨fun m x hm hp => ?_, fun m x hm hp => ?_, fun m x hm hp => ?_, fun m x hm hp => ?_, fun m x hm hp => ?_, fun m x hm hp => ?_, fun m x hm hp => ?_, fun m x hm hp => ?_, fun m x hm hp => ?_, fun m x hm hp => ?_, fun m x hm hp => ?_, fun m x hm hp => ?_, fun m x hm hp => ?_, fun m x hm hp => ?_, trivial⟩
    · skip
      obtain ⟨x3, uu⟩ := x
      show J _ _ _ _ _ (_) _
      refine J.pr (fun hF => ?_)
      refine J.fieldAddr Ty.fd70_0 rfl rfl ?_
      exact J.finX rfl (fun _ hw => ⟨⟨x3, uu⟩, rfl, fun _ _ _ => rfl, hF, hw⟩)
    · skip
      obtain ⟨x3, uu⟩ := x
      show J _ _ _ _ _ ((16, .pointer (some ⟨b1, 0 + 0, none⟩)) :: _) _
      refine J.pr (fun hF => ?_)
      refine J.loadA (vs := cI self) Ty.a23 Ty.s23 rfl rfl (fun w1 hw => Cells.of_block (hw.own ((b1, cb pc 70)) (by repeat first | exact .head _ | apply List.Mem.tail | apply List.mem_append_right)) (by rw [hpc]; rfl)) rfl ?_
      exact J.finX rfl (fun _ hw => ⟨⟨x3, uu⟩, rfl, fun _ _ _ => rfl, hF, hw⟩)
    · skip
      obtain ⟨x3, uu⟩ := x
      show J _ _ _ _ _ (_) _
      refine J.pr (fun hF => ?_)
      refine J.fieldAddr Ty.fd70_1 rfl rfl ?_
      exact J.finX rfl (fun _ hw => ⟨⟨x3, uu⟩, rfl, fun _ _ _ => rfl, hF, hw⟩)
    · skip
      obtain ⟨x3, uu⟩ := x
      show J _ _ _ _ _ ((18, .pointer (some ⟨b1, 0 + 16, none⟩)) :: _) _
      refine J.pr (fun hF => ?_)
      refine J.load1 (v := .slice af F0.length cf) Ty.a24 rfl (fun w1 hw => by rw [cell_of (hw.own ((b1, cb pc 70)) (by repeat first | exact .head _ | apply List.Mem.tail | apply List.mem_append_right)), hpc]; rfl) rfl ?_
      exact J.finX rfl (fun _ hw => ⟨⟨x3, uu⟩, rfl, fun _ _ _ => rfl, hF, hw⟩)
    · skip
      obtain ⟨x3, uu⟩ := x
      show J _ _ _ _ _ ((19, .slice af F0.length cf) :: _) _
      refine J.pr (fun hF => ?_)
      refine J.callB (v := .slice a1 F.length c1) (fun w1 w2 hw hb => hw.step hb) Ty.bd34 rfl rfl (fun w1 hw => by have h9 := cut17_spec _ F0 30 w1 (hrF0.below (hw.drop (List.nil_sublist _)).below); rw [hfv] at h9; exact h9) ?_
      exact J.finX rfl (fun _ hw => ⟨⟨x3, uu⟩, rfl, fun _ _ _ => rfl, hF, hw⟩)
    · skip
      obtain ⟨x3, uu⟩ := x
      show J _ _ _ _ _ (_) _
      refine J.pr (fun hF => ?_)
      refine J.fieldAddr Ty.fd70_2 rfl rfl ?_
      exact J.finX rfl (fun _ hw => ⟨⟨x3, uu⟩, rfl, fun _ _ _ => rfl, hF, hw⟩)
    · skip
      obtain ⟨x3, uu⟩ := x
      show J _ _ _ _ _ ((21, .pointer (some ⟨b1, 0 + 17, none⟩)) :: _) _
      refine J.pr (fun hF => ?_)
      refine J.load1 (v := .slice ac C0.length cc) Ty.a68 rfl (fun w1 hw => by rw [cell_of (hw.own ((b1, cb pc 70)) (by repeat first | exact .head _ | apply List.Mem.tail | apply List.mem_append_right)), hpc]; rfl) rfl ?_
      exact J.finX rfl (fun _ hw => ⟨⟨x3, uu⟩, rfl, fun _ _ _ => rfl, hF, hw⟩)
    · skip
      obtain ⟨x3, uu⟩ := x
      show J _ _ _ _ _ ((20, .slice a1 F.length c1) :: (22, .slice ac C0.length cc) :: _) _
      refine J.pr (fun hF => ?_)
      refine J.callB (v := .slice a2 cs.length c2) (fun w1 w2 hw hb => hw.step hb) Ty.bd35 rfl rfl (fun w1 hw => by have h9 := cutC_spec _ C0 40 w1 (hrC0.below (hw.drop (List.nil_sublist _)).below); rw [hcv] at h9; exact h9) ?_
      exact J.finX rfl (fun _ hw => ⟨⟨x3, uu⟩, rfl, fun _ _ _ => rfl, hF, hw⟩)
    · skip
      obtain ⟨x3, uu⟩ := x
      show J _ _ _ _ _ (_) _
      refine J.pr (fun hF => ?_)
      refine J.fieldAddr Ty.fd70_3 rfl rfl ?_
      exact J.finX rfl (fun _ hw => ⟨⟨x3, uu⟩, rfl, fun _ _ _ => rfl, hF, hw⟩)
    · skip
      obtain ⟨x3, uu⟩ := x
      show J _ _ _ _ _ ((24, .pointer (some ⟨b1, 0 + 18, none⟩)) :: _) _
      refine J.pr (fun hF => ?_)
      refine J.load1 (v := .int .i64 half) Ty.a3 rfl (fun w1 hw => by rw [cell_of (hw.own ((b1, cb pc 70)) (by repeat first | exact .head _ | apply List.Mem.tail | apply List.mem_append_right)), hpc]; rfl) rfl ?_
      exact J.finX rfl (fun _ hw => ⟨⟨x3, uu⟩, rfl, fun _ _ _ => rfl, hF, hw⟩)
    · skip
      obtain ⟨x3, uu⟩ := x
      show J _ _ _ _ _ (_) _
      refine J.pr (fun hF => ?_)
      have h11 : m 11 = false := by cases h : m 11 with
        | false => rfl
        | true => rw [hF h] at hm; cases hm
      refine J.alloc Ty.zID rfl rfl (fun b3 => ?_)
      refine J.nil (JX.finB rfl (fun w1 hw => ⟨⟨⟨b3, uu⟩, rfl, fun j h1 h2 => ?_, ?_⟩, trivial⟩))
      · match j, h1 with
        | 0, _ => (first | rfl | trivial)
        | 1, _ => (first | rfl | trivial)
        | 2, _ => (first | rfl | trivial)
        | 3, _ => (first | rfl | trivial)
        | 4, _ => (first | rfl | trivial)
        | 5, _ => (first | rfl | trivial)
        | 6, _ => (first | rfl | trivial)
        | 7, _ => (first | rfl | trivial)
        | 8, _ => (first | rfl | trivial)
        | 9, _ => (first | rfl | trivial)
        | 10, _ => exact absurd (h2.symm.trans hm) (by decide)
        | 11, _ => (first | rfl | trivial)
        | 12, _ => (first | rfl | trivial)
        | 13, _ => (first | rfl | trivial)
        | j + 14, h1 => omega
      show ((m 11 = true → true = true)) ∧ St w [] ((bif true then [(b3, cb (cI (bif m 11 then self else zI)) 23)] else []) ++ ((b1, cb pc 70) :: [])) w1
      simp only [hm, h11, cond_true, cond_false] at hw ⊢
      exact ⟨fun _ => (by first | trivial | rfl), hw⟩
    · skip
      obtain ⟨x3, uu⟩ := x
      show J _ _ _ _ _ ((3, .pointer (some ⟨x3, 0, none⟩)) :: (17, .agg (cI self).toArray) :: (16, .pointer (some ⟨b1, 0 + 0, none⟩)) :: (23, .slice a2 cs.length c2) :: (17, .agg (cI self).toArray) :: (3, .pointer (some ⟨x3, 0, none⟩)) :: _) _
      have hp10 : m 10 = true := predsT hp (by kernel_rfl)
      have hp10 : m 10 = true := predsT hp (by kernel_rfl)
      refine J.pr (fun hF => ?_)
      refine J.conseq (I' := St w [] ((x3, cb (cI zI) 23) :: (b1, cb pc 70) :: [])) ?_ (fun w1 hw => by simp only [hm, hp10, cond_true, cond_false] at hw; exact hw)
      refine J.storeW (cs := cI zI) (vs := cI self) Ty.s23 rfl rfl rfl rfl rfl (one_cI _) .here ?_
      refine J.nil (JX.finN undef (fun w1 hw => ⟨⟨x3, uu⟩, rfl, fun j h1 h2 => ?_, ?_⟩))
      · match j, h1 with
        | 0, _ => (first | rfl | trivial)
        | 1, _ => (first | rfl | trivial)
        | 2, _ => (first | rfl | trivial)
        | 3, _ => (first | rfl | trivial)
        | 4, _ => (first | rfl | trivial)
        | 5, _ => (first | rfl | trivial)
        | 6, _ => (first | rfl | trivial)
        | 7, _ => (first | rfl | trivial)
        | 8, _ => (first | rfl | trivial)
        | 9, _ => (first | rfl | trivial)
        | 10, _ => (first | rfl | trivial)
        | 11, _ => (first | rfl | trivial)
        | 12, _ => (first | rfl | trivial)
        | 13, _ => (first | rfl | trivial)
        | j + 14, h1 => omega
      show ((true = true → m 10 = true)) ∧ St w [] ((bif m 10 then [(x3, cb (cI (bif true then self else zI)) 23)] else []) ++ ((b1, cb pc 70) :: [])) w1
      simp only [hm, hp10, cond_true, cond_false] at hw ⊢
      exact ⟨fun _ => (by first | trivial | rfl), hw⟩
    · skip
      obtain ⟨x3, uu⟩ := x
      show J _ _ _ _ _ ((3, .pointer (some ⟨x3, 0, none⟩)) :: (20, .slice a1 F.length c1) :: (19, .slice af F0.length cf) :: (18, .pointer (some ⟨b1, 0 + 16, none⟩)) :: (17, .agg (cI self).toArray) :: (16, .pointer (some ⟨b1, 0 + 0, none⟩)) :: (20, .slice a1 F.length c1) :: _) _
      have hp11 : m 11 = true := predsT hp (by kernel_rfl)
      have hp10 : m 10 = true := predsT hp (by kernel_rfl)
      have hp11 : m 11 = true := predsT hp (by kernel_rfl)
      refine J.pr (fun hF => ?_)
      refine J.assign rfl rfl ?_
      exact J.finX rfl (fun _ hw => ⟨⟨x3, uu⟩, rfl, fun _ _ _ => rfl, hF, hw⟩)
    · skip
      obtain ⟨x3, uu⟩ := x
      show J _ _ _ _ _ ((4, .slice a1 F.length c1) :: (3, .pointer (some ⟨x3, 0, none⟩)) :: (23, .slice a2 cs.length c2) :: (22, .slice ac C0.length cc) :: (21, .pointer (some ⟨b1, 0 + 17, none⟩)) :: (20, .slice a1 F.length c1) :: (19, .slice af F0.length cf) :: (18, .pointer (some ⟨b1, 0 + 16, none⟩)) :: (17, .agg (cI self).toArray) :: (16, .pointer (some ⟨b1, 0 + 0, none⟩)) :: (4, .slice a1 F.length c1) :: (23, .slice a2 cs.length c2) :: _) _
      have hp10 : m 10 = true := predsT hp (by kernel_rfl)
      have hp11 : m 11 = true := predsT hp (by kernel_rfl)
      refine J.pr (fun hF => ?_)
      refine J.assign rfl rfl ?_
      exact J.finX rfl (fun _ hw => ⟨⟨x3, uu⟩, rfl, fun _ _ _ => rfl, hF, hw⟩)
  case htail =>
    intro x
    obtain ⟨x3, uu⟩ := x
    show J _ _ _ _ _ ((5, .slice a2 cs.length c2) :: (4, .slice a1 F.length c1) :: (3, .pointer (some ⟨x3, 0, none⟩)) :: (25, .int .i64 half) :: (24, .pointer (some ⟨b1, 0 + 18, none⟩)) :: (23, .slice a2 cs.length c2) :: (22, .slice ac C0.length cc) :: (21, .pointer (some ⟨b1, 0 + 17, none⟩)) :: (20, .slice a1 F.length c1) :: (19, .slice af F0.length cf) :: (18, .pointer (some ⟨b1, 0 + 16, none⟩)) :: (17, .agg (cI self).toArray) :: (16, .pointer (some ⟨b1, 0 + 0, none⟩)) :: _) (fun w1 => ((true = true → true = true)) ∧ St w [] ((bif true then [(x3, cb (cI (bif true then self else zI)) 23)] else []) ++ ((b1, cb pc 70) :: [])) w1)
    refine J.pr (fun hF => ?_)
    refine J.conseq (I' := St w [] ((x3, cb (cI self) 23) :: (b1, cb pc 70) :: [])) ?_ (fun w1 hw => by simp only [cond_true] at hw; exact hw)
    refine J.assign rfl rfl ?_
    refine J.nil ?_
    refine JX.thenN (hK1 _ _ ?_)
    refine JC.seq (fun K2 hK2 => ?_)
    refine JC.region ?_
    refine J.move rfl rfl ?_
    refine J.perm ([] ++ ((x3, cb (cI self) 23) :: (b1, cb pc 70) :: [])) (.refl _) ?_
    refine J.callS (α := Value × List (Nat × Obj)) (V := (·.1)) (Pr := fun x => Vec 23 16 x.1 (F).length (fI (F)) x.2) (L := (·.2)) (l1 := []) Ty.bd14 rfl rfl (fun w1 hw => copy_spec _ F w1 (hrF.below (hw.drop (List.nil_sublist _)).below) (by omega)) (fun x hvc => ?_)
    obtain ⟨vc, lc⟩ := x
    simp only at hvc ⊢
    refine J.assign rfl rfl ?_
    refine J.nil ?_
    refine JX.thenN (hK2 _ _ ?_)
    refine JC.seq (fun K3 hK3 => ?_)
    refine JC.seq (fun K4 hK4 => ?_)
    refine JC.region ?_
    refine J.move rfl rfl ?_
    refine J.lenS rfl Ty.u68 rfl rfl ?_
    refine J.move rfl rfl ?_
    refine J.nil ?_
    refine JX.thenN (hK4 _ _ ?_)
    refine JC.block ?_
    refine JC.conseq (JC.cov (f := (fun st => [(3, .pointer (some ⟨x3, 0, none⟩)), (4, .slice a1 F.length c1), (5, .slice a2 cs.length c2), (6, .int .i64 half), (7, st.v), (28, .slice a2 cs.length c2), (29, .int .i64 ((cs.length : Nat) : Int)), (30, .int .i64 ((st.i : Nat) : Int))]) (⟨0, vc, lc⟩ : AkS)) ⟨rfl, rfl, rfl, rfl, rfl, rfl, rfl, rfl, trivial⟩ (JC.loop (α := AkS) (fun st => [(3, .pointer (some ⟨x3, 0, none⟩)), (4, .slice a1 F.length c1), (5, .slice a2 cs.length c2), (6, .int .i64 half), (7, st.v), (28, .slice a2 cs.length c2), (29, .int .i64 ((cs.length : Nat) : Int)), (30, .int .i64 ((st.i : Nat) : Int))]) (fun st w' => (st.i ≤ cs.length ∧ Vec 23 16 st.v ((F ++ (cs.take st.i).map (·.id))).length (fI ((F ++ (cs.take st.i).map (·.id)))) st.lp) ∧ St w [] ((x3, cb (cI self) 23) :: (b1, cb pc 70) :: st.lp) w') (fun st => cs.length - st.i) (⟨0, vc, lc⟩ : AkS) (fun st => ?_))) (fun w hw => ⟨⟨Nat.zero_le _, by simpa using hvc⟩, hw.perm (by (refine perm_cnt (fun _ => ?_)); simp only [cntB_append, cntB_cons, cntB_nil, Nat.add_zero, Nat.zero_add]; try ac_rfl)⟩)
    obtain ⟨i, v10, l10⟩ := st
    refine JC.pr (fun hI => ?_)
    obtain ⟨hi, hv10⟩ := hI
    try simp only at hi hv10 ⊢
    refine JC.seq (fun K5 hK5 => ?_)
    refine JC.region ?_
    refine J.bin rfl rfl rfl rfl ?_
    refine J.nil ?_
    refine JX.thenN (hK5 _ _ ?_)
    refine JC.seq (fun K6 hK6 => ?_)
    refine JC.cond rfl (fun h0 => ?_) (fun h0 => ?_)
    · skip
      have hlt : i < cs.length := by simp at h0; omega
      obtain ⟨xe, hxe⟩ : ∃ x, cs[i]? = some x := ⟨_, List.getElem?_eq_getElem hlt⟩
      obtain ⟨ba, oa, ca, hva, hca, hcel⟩ := hrC.some (by rw [fC_len]; omega)
      simp only [Value.slice.injEq] at hva
      obtain ⟨rfl, -, rfl⟩ := hva
      refine JC.skip ?_
      refine JX.thenN (hK6 _ _ ?_)
      refine JC.seq (fun K7 hK7 => ?_)
      refine JC.block ?_
      refine JC.seq (fun K8 hK8 => ?_)
      refine JC.region ?_
      refine J.indexAddrS Ty.el68 Ty.s75 rfl rfl (by omega) (by omega) rfl ?_
      refine J.loadA (vs := cC xe) Ty.a75 Ty.s75 rfl rfl (fun w1 hw => rowG_at (c := cC) (sz := 35) (fun _ => rfl) (hrC.below (hw.drop (List.nil_sublist _)).below) hxe (by rw [Int.toNat_natCast])) rfl ?_
      refine J.alloc zCan rfl rfl (fun b9 => ?_)
      refine J.storeW Ty.s75 rfl rfl rfl rfl rfl (by simp [Value.oneCell']) (by repeat first | exact .here | apply Up.there) ?_
      refine J.nil ?_
      refine JX.thenN (hK8 _ _ ?_)
      refine JC.region ?_
      refine J.move rfl rfl ?_
      refine J.fieldAddr Ty.fd75_0 rfl rfl ?_
      refine J.loadA (vs := cI xe.id) Ty.a23 Ty.s23 rfl rfl (fun w1 hw => Cells.of_block (hw.own ((b9, cb (cC xe) 75)) (by repeat first | exact .head _ | apply List.Mem.tail | apply List.mem_append_right)) rfl) rfl ?_
      refine J.buildSl (cs := cI xe.id) Ty.el24 Ty.s23 Ty.zID rfl rfl rfl rfl (by kernel_rfl) rfl rfl (fun b37 => ?_)
      refine J.perm (l10 ++ ((b37, cb (cI xe.id) 23) :: (b9, cb (cC xe) 75) :: ((x3, cb (cI self) 23) :: (b1, cb pc 70) :: []))) (by (refine perm_cnt (fun _ => ?_)); simp only [cntB_append, cntB_cons, cntB_nil, Nat.add_zero, Nat.zero_add]; try ac_rfl) ?_
      refine J.append (lp := l10) (xs := fI ((F ++ (cs.take i).map (·.id)))) (ys := cI xe.id) (k := ((F ++ (cs.take i).map (·.id))).length) (m := 1) Ty.el24 Ty.s23 Ty.b23 Ty.zID rfl (.inl ⟨23, Ty.u24⟩) rfl rfl hv10 (fun w1 hw => .inl (Row.own (cs := cI xe.id) (tb := 23) (fr := (0, 0)) hw (List.mem_append_right _ (.head _)) (List.take_of_length_le (Nat.le_refl _)) (Nat.le_refl _))) rfl (one_cI _) (by simp only [List.length_append, List.length_map, List.length_take]; omega) (by simp only [List.length_append, List.length_map, List.length_take]; omega) rfl (fun v13 l13 hv13 => ?_)
      rw [← fI_snoc, ← ids_snoc hxe, show (F ++ (cs.take i).map (·.id)).length + 1 = (F ++ (cs.take (i + 1)).map (·.id)).length by rw [ids_snoc hxe]; exact (List.length_append (bs := [xe.id])).symm] at hv13
      refine J.assign rfl rfl ?_
      refine J.nil ?_
      refine JX.blockN ?_
      refine JX.thenN (hK7 _ _ ?_)
      refine JC.region ?_
      (first | refine J.addN rfl rfl (by omega) (by omega) rfl ?_ | refine J.bin rfl rfl rfl rfl ?_)
      refine J.move rfl rfl ?_
      refine J.nil ?_
      refine JX.thenN ?_
      refine JX.again (⟨i + 1, v13, l13⟩ : AkS) ?_ ?_ ?_
      · simp only; omega
      · exact ⟨rfl, rfl, rfl, rfl, rfl, rfl, rfl, rfl, trivial⟩
      · exact fun w1 hw => ⟨⟨hlt, hv13⟩, (hw.perm (by (refine perm_cnt (fun _ => ?_)); simp only [cntB_append, cntB_cons, cntB_nil, Nat.add_zero, Nat.zero_add]; try ac_rfl : List.Perm _ ((b37, cb (cI xe.id) 23) :: (b9, cb (cC xe) 75) :: ((x3, cb (cI self) 23) :: (b1, cb pc 70) :: l13)))).drop (List.Sublist.cons _ (List.Sublist.cons _ (List.Sublist.refl _)))⟩
    · skip
      have hge : i = cs.length := by simp at h0; omega
      rw [hge, List.take_of_length_le (Nat.le_refl _)] at hv10
      refine JC.exit ?_
      refine JX.thenE ?_
      refine JX.thenE ?_
      refine JX.blockE ?_
      refine JX.thenN (hK3 _ _ ?_)
      refine JC.seq (fun K9 hK9 => ?_)
      refine JC.region ?_
      refine J.loadA (vs := cI self) Ty.a23 Ty.s23 rfl rfl (fun w1 hw => Cells.of_block (hw.own ((x3, cb (cI self) 23)) (by repeat first | exact .head _ | apply List.Mem.tail | apply List.mem_append_right)) rfl) rfl ?_
      refine J.move rfl rfl ?_
      refine J.move rfl rfl ?_
      refine J.move rfl rfl ?_
      refine J.perm ([] ++ ((x3, cb (cI self) 23) :: (b1, cb pc 70) :: l10)) (.refl _) ?_
      refine J.callS (α := Value × List (Nat × Obj)) (V := (·.1)) (Pr := fun x => Vec 75 35 x.1 (askC self F cs half).length (fC (askC self F cs half)) x.2) (L := (·.2)) (l1 := []) Ty.bd37 rfl rfl (fun w1 hw => seekAsks_spec self _ _ F cs half w1 (hrF.below (hw.drop (List.nil_sublist _)).below) (hrC.below (hw.drop (List.nil_sublist _)).below) (by omega) (by omega)) (fun x hva => ?_)
      obtain ⟨va, la⟩ := x
      simp only at hva ⊢
      have hal := askC_le self F cs half
      obtain ⟨aa, ca0, rfl, hca0⟩ := hva.form
      refine J.assign rfl rfl ?_
      refine J.nil ?_
      refine JX.thenN (hK9 _ _ ?_)
      refine JC.seq (fun K10 hK10 => ?_)
      refine JC.region ?_
      refine J.move rfl rfl ?_
      refine J.perm ([] ++ (la ++ ((x3, cb (cI self) 23) :: (b1, cb pc 70) :: l10))) (.refl _) ?_
      refine J.callS (α := Value × List (Nat × Obj)) (V := (·.1)) (Pr := fun x => Vec 23 16 x.1 (F).length (fI (F)) x.2) (L := (·.2)) (l1 := []) Ty.bd14 rfl rfl (fun w1 hw => copy_spec _ F w1 (hrF.below (hw.drop (List.nil_sublist _)).below) (by omega)) (fun x hvd => ?_)
      obtain ⟨vd, ld⟩ := x
      simp only at hvd ⊢
      refine J.assign rfl rfl ?_
      refine J.nil ?_
      refine JX.thenN (hK10 _ _ ?_)
      refine JC.seq (fun K11 hK11 => ?_)
      refine JC.seq (fun K12 hK12 => ?_)
      refine JC.region ?_
      refine J.move rfl rfl ?_
      refine J.lenS rfl Ty.u68 rfl rfl ?_
      refine J.move rfl rfl ?_
      refine J.nil ?_
      refine JX.thenN (hK12 _ _ ?_)
      refine JC.block ?_
      refine JC.conseq (JC.cov (f := (fun st => [(3, .pointer (some ⟨x3, 0, none⟩)), (5, .slice a2 cs.length c2), (6, .int .i64 half), (7, v10), (11, st.v), (47, .slice aa (askC self F cs half).length ca0), (48, .int .i64 (((askC self F cs half).length : Nat) : Int)), (49, .int .i64 ((st.i : Nat) : Int))]) (⟨0, vd, ld⟩ : AkS)) ⟨rfl, rfl, rfl, rfl, rfl, rfl, rfl, rfl, trivial⟩ (JC.loop (α := AkS) (fun st => [(3, .pointer (some ⟨x3, 0, none⟩)), (5, .slice a2 cs.length c2), (6, .int .i64 half), (7, v10), (11, st.v), (47, .slice aa (askC self F cs half).length ca0), (48, .int .i64 (((askC self F cs half).length : Nat) : Int)), (49, .int .i64 ((st.i : Nat) : Int))]) (fun st w' => (st.i ≤ (askC self F cs half).length ∧ Vec 23 16 st.v ((F ++ ((askC self F cs half).take st.i).map (·.id))).length (fI ((F ++ ((askC self F cs half).take st.i).map (·.id)))) st.lp) ∧ St w [] (la ++ (st.lp ++ ((x3, cb (cI self) 23) :: (b1, cb pc 70) :: l10))) w') (fun st => (askC self F cs half).length - st.i) (⟨0, vd, ld⟩ : AkS) (fun st => ?_))) (fun w hw => ⟨⟨Nat.zero_le _, by simpa using hvd⟩, hw.perm (by (refine perm_cnt (fun _ => ?_)); simp only [cntB_append, cntB_cons, cntB_nil, Nat.add_zero, Nat.zero_add]; try ac_rfl)⟩)
      obtain ⟨k, v11, l11⟩ := st
      refine JC.pr (fun hI => ?_)
      obtain ⟨hk, hv11⟩ := hI
      try simp only at hk hv11 ⊢
      refine JC.seq (fun K13 hK13 => ?_)
      refine JC.region ?_
      refine J.bin rfl rfl rfl rfl ?_
      refine J.nil ?_
      refine JX.thenN (hK13 _ _ ?_)
      refine JC.seq (fun K14 hK14 => ?_)
      refine JC.cond rfl (fun h1 => ?_) (fun h1 => ?_)
      · skip
        have hlt : k < (askC self F cs half).length := by simp at h1; omega
        obtain ⟨xk, hxk⟩ : ∃ x, (askC self F cs half)[k]? = some x := ⟨_, List.getElem?_eq_getElem hlt⟩
        obtain ⟨qa, ca, sa, e9, rfl, hsa, hca⟩ := vecG_pos hva (by omega)
        simp only [Value.slice.injEq] at e9
        obtain ⟨rfl, -, rfl⟩ := e9
        refine JC.skip ?_
        refine JX.thenN (hK14 _ _ ?_)
        refine JC.seq (fun K15 hK15 => ?_)
        refine JC.block ?_
        refine JC.seq (fun K16 hK16 => ?_)
        refine JC.region ?_
        refine J.indexAddrS Ty.el68 Ty.s75 rfl rfl (by omega) (by omega) rfl ?_
        refine J.loadA (vs := cC xk) Ty.a75 Ty.s75 rfl rfl (fun w1 hw => rowG_at (c := cC) (sz := 35) (fun _ => rfl) (Row.own (o := 0) (cs := fC (askC self F cs half) ++ sa) (tb := 75) (fr := (0, 0)) hw (.head _) (by rw [List.drop_zero, List.take_left]) hca) hxk (by simp)) rfl ?_
        refine J.alloc zCan rfl rfl (fun b13 => ?_)
        refine J.storeW Ty.s75 rfl rfl rfl rfl rfl (by simp [Value.oneCell']) (by repeat first | exact .here | apply Up.there) ?_
        refine J.nil ?_
        refine JX.thenN (hK16 _ _ ?_)
        refine JC.region ?_
        refine J.move rfl rfl ?_
        refine J.fieldAddr Ty.fd75_0 rfl rfl ?_
        refine J.loadA (vs := cI xk.id) Ty.a23 Ty.s23 rfl rfl (fun w1 hw => Cells.of_block (hw.own ((b13, cb (cC xk) 75)) (by repeat first | exact .head _ | apply List.Mem.tail | apply List.mem_append_right)) rfl) rfl ?_
        refine J.buildSl (cs := cI xk.id) Ty.el24 Ty.s23 Ty.zID rfl rfl rfl rfl (by kernel_rfl) rfl rfl (fun b56 => ?_)
        refine J.perm (l11 ++ ((b56, cb (cI xk.id) 23) :: (b13, cb (cC xk) 75) :: ([(qa, cb (fC (askC self F cs half) ++ sa) 75)] ++ ((x3, cb (cI self) 23) :: (b1, cb pc 70) :: l10)))) (by (refine perm_cnt (fun _ => ?_)); simp only [cntB_append, cntB_cons, cntB_nil, Nat.add_zero, Nat.zero_add]; try ac_rfl) ?_
        refine J.append (lp := l11) (xs := fI ((F ++ ((askC self F cs half).take k).map (·.id)))) (ys := cI xk.id) (k := ((F ++ ((askC self F cs half).take k).map (·.id))).length) (m := 1) Ty.el24 Ty.s23 Ty.b23 Ty.zID rfl (.inl ⟨23, Ty.u24⟩) rfl rfl hv11 (fun w1 hw => .inl (Row.own (cs := cI xk.id) (tb := 23) (fr := (0, 0)) hw (List.mem_append_right _ (.head _)) (List.take_of_length_le (Nat.le_refl _)) (Nat.le_refl _))) rfl (one_cI _) (by simp only [List.length_append, List.length_map, List.length_take]; omega) (by simp only [List.length_append, List.length_map, List.length_take]; omega) rfl (fun v14 l14 hv14 => ?_)
        rw [← fI_snoc, ← snoc_ids hxk, show (F ++ ((askC self F cs half).take k).map (·.id)).length + 1 = (F ++ ((askC self F cs half).take (k + 1)).map (·.id)).length by rw [snoc_ids hxk]; exact (List.length_append (bs := [xk.id])).symm] at hv14
        refine J.assign rfl rfl ?_
        refine J.nil ?_
        refine JX.blockN ?_
        refine JX.thenN (hK15 _ _ ?_)
        refine JC.region ?_
        (first | refine J.addN rfl rfl (by omega) (by omega) rfl ?_ | refine J.bin rfl rfl rfl rfl ?_)
        refine J.move rfl rfl ?_
        refine J.nil ?_
        refine JX.thenN ?_
        refine JX.again (⟨k + 1, v14, l14⟩ : AkS) ?_ ?_ ?_
        · simp only; omega
        · exact ⟨rfl, rfl, rfl, rfl, rfl, rfl, rfl, rfl, trivial⟩
        · exact fun w1 hw => ⟨⟨hlt, hv14⟩, (hw.perm (by (refine perm_cnt (fun _ => ?_)); simp only [cntB_append, cntB_cons, cntB_nil, Nat.add_zero, Nat.zero_add]; try ac_rfl : List.Perm _ ((b56, cb (cI xk.id) 23) :: (b13, cb (cC xk) 75) :: ([(qa, cb (fC (askC self F cs half) ++ sa) 75)] ++ (l14 ++ ((x3, cb (cI self) 23) :: (b1, cb pc 70) :: l10)))))).drop (List.Sublist.cons _ (List.Sublist.cons _ (List.Sublist.refl _)))⟩
      · skip
        have hge : k = (askC self F cs half).length := by simp at h1; omega
        rw [hge, List.take_of_length_le (Nat.le_refl _)] at hv11
        refine JC.exit ?_
        refine JX.thenE ?_
        refine JX.thenE ?_
        refine JX.blockE ?_
        refine JX.thenN (hK11 _ _ ?_)
        refine JC.seq (fun K17 hK17 => ?_)
        refine JC.seq (fun K18 hK18 => ?_)
        refine JC.region ?_
        refine J.loadA (vs := cI self) Ty.a23 Ty.s23 rfl rfl (fun w1 hw => Cells.of_block (hw.own ((x3, cb (cI self) 23)) (by repeat first | exact .head _ | apply List.Mem.tail | apply List.mem_append_right)) rfl) rfl ?_
        refine J.move rfl rfl ?_
        refine J.move rfl rfl ?_
        refine J.perm ([] ++ (la ++ (l11 ++ ((x3, cb (cI self) 23) :: (b1, cb pc 70) :: l10)))) (.refl _) ?_
        refine J.callS (α := Value × List (Nat × Obj)) (V := (·.1)) (Pr := fun x => Vec 23 16 x.1 ((wantI self (F ++ cs.map (·.id)) half)).length (fI ((wantI self (F ++ cs.map (·.id)) half))) x.2) (L := (·.2)) (l1 := []) Ty.bd21 rfl rfl (fun w1 hw => rwant_spec self v10 (F ++ cs.map (·.id)) half w1 (vec_rowM hv10 hw (fun q hq => by first | (simp [hq]; done) | (simp at hq; simp [hq]; done) | (simp at hq; subst hq; simp))) (by simp only [List.length_append, List.length_map]; omega)) (fun x hvw => ?_)
        obtain ⟨vw, lw⟩ := x
        simp only at hvw ⊢
        have hwl := wantI_le self (F ++ cs.map (·.id)) half
        rw [List.length_append, List.length_map] at hwl
        obtain ⟨al, cl, rfl, hcl⟩ := hvw.form
        refine J.lenS rfl Ty.u24 rfl rfl ?_
        refine J.move rfl rfl ?_
        refine J.nil ?_
        refine JX.thenN (hK18 _ _ ?_)
        refine JC.block ?_
        refine JC.conseq (JC.cov (f := (fun j => [(3, .pointer (some ⟨x3, 0, none⟩)), (5, .slice a2 cs.length c2), (6, .int .i64 half), (11, v11), (62, .slice al (wantI self (F ++ cs.map (·.id)) half).length cl), (63, .int .i64 (((wantI self (F ++ cs.map (·.id)) half).length : Nat) : Int)), (64, .int .i64 ((j : Nat) : Int))]) 0) ⟨rfl, rfl, rfl, rfl, rfl, rfl, rfl, trivial⟩ (JC.loop (α := Nat) (fun j => [(3, .pointer (some ⟨x3, 0, none⟩)), (5, .slice a2 cs.length c2), (6, .int .i64 half), (11, v11), (62, .slice al (wantI self (F ++ cs.map (·.id)) half).length cl), (63, .int .i64 (((wantI self (F ++ cs.map (·.id)) half).length : Nat) : Int)), (64, .int .i64 ((j : Nat) : Int))]) (fun j w' => (j ≤ (wantI self (F ++ cs.map (·.id)) half).length) ∧ St w [] (lw ++ (la ++ (l11 ++ ((x3, cb (cI self) 23) :: (b1, cb pc 70) :: l10)))) w') (fun j => (wantI self (F ++ cs.map (·.id)) half).length - j) 0 (fun j => ?_))) (fun w hw => ⟨Nat.zero_le _, hw⟩)
        refine JC.pr (fun hj => ?_)
        refine JC.seq (fun K19 hK19 => ?_)
        refine JC.region ?_
        refine J.bin rfl rfl rfl rfl ?_
        refine J.nil ?_
        refine JX.thenN (hK19 _ _ ?_)
        refine JC.seq (fun K20 hK20 => ?_)
        refine JC.cond rfl (fun h2 => ?_) (fun h2 => ?_)
        · skip
          have hjl : j < (wantI self (F ++ cs.map (·.id)) half).length := by simp at h2; omega
          obtain ⟨nj, hnj⟩ : ∃ x, (wantI self (F ++ cs.map (·.id)) half)[j]? = some x := ⟨_, List.getElem?_eq_getElem hjl⟩
          have hnG := done_mem (List.mem_of_getElem? hnj)
          obtain ⟨ql, sl, rfl, rfl, hsl, hcl2⟩ := vecI_pos hvw (by omega)
          refine JC.skip ?_
          refine JX.thenN (hK20 _ _ ?_)
          refine JC.seq (fun K21 hK21 => ?_)
          refine JC.block ?_
          refine JC.seq (fun K22 hK22 => ?_)
          refine JC.region ?_
          refine J.indexAddrS Ty.el24 Ty.s23 rfl rfl (by omega) (by omega) rfl ?_
          refine J.loadA (vs := cI nj) Ty.a23 Ty.s23 rfl rfl (fun w1 hw => rowF_at (o := 0) (vec_rowM hvw hw (fun q hq => by first | (simp [hq]; done) | (simp at hq; simp [hq]; done) | (simp at hq; subst hq; simp))) hnj (by simp)) rfl ?_
          refine J.alloc Ty.zID rfl rfl (fun b15 => ?_)
          refine J.storeW Ty.s23 rfl rfl rfl rfl rfl (by simp [Value.oneCell']) (by repeat first | exact .here | apply Up.there) ?_
          refine J.nil ?_
          refine JX.thenN (hK22 _ _ ?_)
          refine JC.seq (fun K23 hK23 => ?_)
          refine JC.region ?_
          refine J.move rfl rfl ?_
          refine J.loadA (vs := cI nj) Ty.a23 Ty.s23 rfl rfl (fun w1 hw => Cells.of_block (hw.own ((b15, cb (cI nj) 23)) (by repeat first | exact .head _ | apply List.Mem.tail | apply List.mem_append_right)) rfl) rfl ?_
          refine J.callB (v := .bool (decide (nj ∈ (F ++ (askC self F cs half).map (·.id))))) (fun w1 w2 hw hb => hw.step hb) Ty.bd40 rfl rfl (fun w1 hw => rhas_spec _ (F ++ (askC self F cs half).map (·.id)) nj w1 (vec_rowM hv11 hw (fun q hq => by first | (simp [hq]; done) | (simp at hq; simp [hq]; done) | (simp at hq; subst hq; simp))) (by simp only [List.length_append, List.length_map]; omega)) ?_
          refine J.name 70 rfl (show _ = Value.bool true from congrArg Value.bool (decide_eq_true hnG)) ?_
          refine J.not rfl rfl ?_
          refine J.nil ?_
          refine JX.thenN (hK23 _ _ ?_)
          first | refine JC.condF rfl ?_ | refine JC.cond rfl (fun h => by first | (exfalso; simp at h; omega) | (simp at h)) (fun _ => ?_)
          refine JC.skip ?_
          refine JX.blockN ?_
          refine JX.thenN (hK21 _ _ ?_)
          refine JC.region ?_
          (first | refine J.addN rfl rfl (by omega) (by omega) rfl ?_ | refine J.bin rfl rfl rfl rfl ?_)
          refine J.move rfl rfl ?_
          refine J.nil ?_
          refine JX.thenN ?_
          refine JX.again (j + 1) ?_ ?_ ?_
          · omega
          · exact ⟨rfl, rfl, rfl, rfl, rfl, rfl, rfl, trivial⟩
          · exact fun w1 hw => ⟨hjl, hw.drop (List.sublist_cons_self _ _)⟩
        · skip
          try simp only [decide_eq_true_eq, decide_eq_false_iff_not, beq_iff_eq, bne_iff_ne, bne_eq_false_iff_eq, ne_eq, beq_eq_false_iff_ne, Bool.not_eq_true, Bool.not_eq_false, Int.not_lt, Int.not_le] at h2
          refine JC.exit ?_
          refine JX.thenE ?_
          refine JX.thenE ?_
          refine JX.blockE ?_
          refine JX.thenN (hK17 _ _ ?_)
          refine JC.seq (fun K24 hK24 => ?_)
          refine JC.region ?_
          refine J.callB (v := .bool true) (fun w1 w2 hw hb => hw.step hb) Ty.bd39 rfl rfl (fun w1 hw => fixed17_spec w1) ?_
          refine J.move rfl rfl ?_
          refine J.unguard rfl rfl rfl ?_
          refine J.loadA (vs := cI self) Ty.a23 Ty.s23 rfl rfl (fun w1 hw => Cells.of_block (hw.own ((x3, cb (cI self) 23)) (by repeat first | exact .head _ | apply List.Mem.tail | apply List.mem_append_right)) rfl) rfl ?_
          first | refine J.skip rfl rfl rfl rfl rfl ?_ | refine J.skipU rfl rfl rfl rfl ?_ | (refine J.unguard rfl rfl rfl ?_; refine J.move rfl rfl ?_)
          first | refine J.skip rfl rfl rfl rfl rfl ?_ | refine J.skipU rfl rfl rfl rfl ?_ | (refine J.unguard rfl rfl rfl ?_; refine J.move rfl rfl ?_)
          first | refine J.skip rfl rfl rfl rfl rfl ?_ | refine J.skipU rfl rfl rfl rfl ?_ | (refine J.unguard rfl rfl rfl ?_; refine J.move rfl rfl ?_)
          refine J.unguard rfl rfl rfl ?_
          refine J.perm ([] ++ (lw ++ (la ++ (l11 ++ ((x3, cb (cI self) 23) :: (b1, cb pc 70) :: l10))))) (.refl _) ?_
          refine J.callS (α := Value × List (Nat × Obj)) (V := (·.1)) (Pr := fun x => Vec 75 35 x.1 (askC self (F ++ (askC self F cs half).map (·.id)) cs half).length (fC (askC self (F ++ (askC self F cs half).map (·.id)) cs half)) x.2) (L := (·.2)) (l1 := []) Ty.bd37 rfl rfl (fun w1 hw => seekAsks_spec self _ _ (F ++ (askC self F cs half).map (·.id)) cs half w1 (vec_rowM hv11 hw (fun q hq => by first | (simp [hq]; done) | (simp at hq; simp [hq]; done) | (simp at hq; subst hq; simp))) (hrC.below (hw.drop (List.nil_sublist _)).below) (by simp only [List.length_append, List.length_map]; omega) (by omega)) (fun x hve => ?_)
          obtain ⟨ve, le⟩ := x
          simp only at hve ⊢
          rw [done_nil] at hve
          obtain ⟨ae, ce, rfl, hce⟩ := hve.form
          first | refine J.skip rfl rfl rfl rfl rfl ?_ | refine J.skipU rfl rfl rfl rfl ?_ | (refine J.unguard rfl rfl rfl ?_; refine J.lenS rfl Ty.u68 rfl rfl ?_)
          refine J.unguard rfl rfl rfl ?_
          refine J.bin rfl rfl rfl rfl ?_
          refine J.name 81 rfl (show _ = Value.bool true by simp) ?_
          (first | refine J.pickT rfl rfl rfl ?_ | refine J.pickF rfl rfl rfl ?_)
          refine J.assign rfl rfl ?_
          refine J.nil ?_
          refine JX.thenN (hK24 _ _ ?_)
          refine JC.ret ?_
          refine JX.ret1 rfl rfl (fun w hw => ?_)
          exact ⟨rfl, (hw.drop (List.nil_sublist _)).below⟩

theorem seekDone_walk (w : World) (pc : List Value) (x : KnV) (hx : RKn w pc x) :
    Calls Try.prog 11 [.agg pc.toArray].toArray w fun r w' => r = .returned (.bool true) ∧ Bel w w' :=
  seekDoneL_spec pc x.me x.f.v x.f.xs x.c.v x.c.xs x.half w hx.1 hx.rowF hx.rowC hx.ok
end Go.Proofs.Ytbafhclandendaa
