/-
  slices.Compact at identities: contract.
-/
import Derived.Test.YtbafhclandendaaKg
namespace Go.Proofs.Ytbafhclandendaa
open Go.J Go.RowKit
set_option linter.unusedVariables false
set_option linter.unusedSimpArgs false
set_option maxRecDepth 4000
def stepI (acc : List IDV) (x : IDV) : List IDV := if acc.getLast? = some x then acc else acc ++ [x]
/-- without neighbours that are one -/
def dedI (xs : List IDV) : List IDV := xs.foldl stepI []
theorem dedI_take {xs : List IDV} {j : Nat} (h : j < xs.length) : dedI (xs.take (j + 1)) = stepI (dedI (xs.take j)) xs[j] := by
  rw [take_add_one h, dedI, List.foldl_append]; rfl
theorem stepI_last (acc : List IDV) (x : IDV) : (stepI acc x).getLast? = some x := by
  unfold stepI
  split
  · assumption
  · simp
theorem dedI_last {xs : List IDV} {j : Nat} (h : j < xs.length) : (dedI (xs.take (j + 1))).getLast? = some xs[j] := by
  rw [dedI_take h, stepI_last]
theorem dedI_same {xs : List IDV} {j : Nat} (h : j + 1 < xs.length) (he : xs[j + 1] = xs[j]) : dedI (xs.take (j + 1 + 1)) = dedI (xs.take (j + 1)) := by
  rw [dedI_take h, stepI, if_pos (by rw [dedI_last (by omega), he])]
theorem dedI_new {xs : List IDV} {j : Nat} (h : j + 1 < xs.length) (he : xs[j + 1] ≠ xs[j]) : dedI (xs.take (j + 1 + 1)) = dedI (xs.take (j + 1)) ++ [xs[j + 1]] := by
  rw [dedI_take h, stepI, if_neg (by rw [dedI_last (by omega)]; intro e; exact he (Option.some.inj e).symm)]
theorem dedI_one {xs : List IDV} (h : 0 < xs.length) : dedI (xs.take 1) = xs.take 1 := by
  rw [dedI_take h, take_add_one h]; rfl
theorem dedI_short {xs : List IDV} (h : xs.length < 2) : dedI xs = xs := by
  match xs, h with
  | [], _ => rfl
  | [x], _ => rfl
  | x :: y :: r, h => simp at h; omega
structure DK where
  k : Nat
  k2 : Nat
  zs : List IDV
structure CInv (xs : List IDV) (k0 : Nat) (s : DK) : Prop where
  h1 : 1 ≤ s.k2
  hn : k0 + s.k2 ≤ xs.length
  hl : s.zs.length = xs.length
  hk : s.k = (dedI (xs.take (k0 + s.k2))).length
  tk : s.zs.take s.k = dedI (xs.take (k0 + s.k2))
  le : s.k ≤ k0 + s.k2 - 1
  dr : s.zs.drop (k0 + s.k2 - 1) = xs.drop (k0 + s.k2 - 1)
theorem CInv.get {xs : List IDV} {k0 : Nat} {s : DK} (h : CInv xs k0 s) {i : Nat} (hi : k0 + s.k2 - 1 ≤ i) (hlt : i < xs.length) : s.zs[i]? = some xs[i] := by
  have e : (s.zs.drop (k0 + s.k2 - 1))[i - (k0 + s.k2 - 1)]? = (xs.drop (k0 + s.k2 - 1))[i - (k0 + s.k2 - 1)]? := by rw [h.dr]
  rw [List.getElem?_drop, List.getElem?_drop, show k0 + s.k2 - 1 + (i - (k0 + s.k2 - 1)) = i by omega, List.getElem?_eq_getElem hlt] at e
  exact e
theorem drop_next {a b : List IDV} {i : Nat} (h : a.drop i = b.drop i) : a.drop (i + 1) = b.drop (i + 1) := by
  rw [← List.drop_drop, ← List.drop_drop, h]
theorem CInv.skip {xs : List IDV} {k0 : Nat} {s : DK} (h : CInv xs k0 s) (hlt : k0 + s.k2 < xs.length) (he : xs[k0 + s.k2] = xs[k0 + s.k2 - 1]'(by omega)) : CInv xs k0 ⟨s.k, s.k2 + 1, s.zs⟩ := by
  obtain ⟨j, hj⟩ : ∃ j, k0 + s.k2 = j + 1 := ⟨k0 + s.k2 - 1, by have := h.h1; omega⟩
  have e : dedI (xs.take (k0 + (s.k2 + 1))) = dedI (xs.take (k0 + s.k2)) := by
    rw [show k0 + (s.k2 + 1) = j + 1 + 1 by omega, hj]
    have hlt' : j + 1 < xs.length := by omega
    refine dedI_same hlt' ?_
    simp only [hj] at he
    simpa using he
  have hle := h.le
  have hdr := h.dr
  refine ⟨by simp only; omega, by simp only; omega, h.hl, by simp only; rw [e]; exact h.hk, by simp only; rw [e]; exact h.tk, by simp only; omega, ?_⟩
  simp only
  rw [show k0 + (s.k2 + 1) - 1 = (k0 + s.k2 - 1) + 1 by have := h.h1; omega]
  exact drop_next hdr
theorem CInv.put {xs : List IDV} {k0 : Nat} {s : DK} (h : CInv xs k0 s) (hlt : k0 + s.k2 < xs.length) (he : xs[k0 + s.k2] ≠ xs[k0 + s.k2 - 1]'(by omega)) : CInv xs k0 ⟨s.k + 1, s.k2 + 1, s.zs.set s.k xs[k0 + s.k2]⟩ := by
  obtain ⟨j, hj⟩ : ∃ j, k0 + s.k2 = j + 1 := ⟨k0 + s.k2 - 1, by have := h.h1; omega⟩
  have e : dedI (xs.take (k0 + (s.k2 + 1))) = dedI (xs.take (k0 + s.k2)) ++ [xs[k0 + s.k2]] := by
    have hlt' : j + 1 < xs.length := by omega
    simp only [hj] at he ⊢
    rw [show k0 + (s.k2 + 1) = j + 1 + 1 by omega]
    exact dedI_new hlt' (by simpa using he)
  have hle := h.le
  have h1 := h.h1
  have hk := h.hk
  have hl := h.hl
  refine ⟨by simp only; omega, by simp only; omega, by simp only [List.length_set]; exact h.hl, by simp only; rw [e, List.length_append, List.length_singleton, ← hk], ?_, by simp only; omega, ?_⟩
  · simp only
    rw [e, take_add_one (by rw [List.length_set, hl]; omega), List.getElem_set_self, List.take_set_of_le (Nat.le_refl _), h.tk]
  · simp only
    rw [show k0 + (s.k2 + 1) - 1 = (k0 + s.k2 - 1) + 1 by omega, List.drop_set_of_lt (by omega)]
    exact drop_next h.dr
theorem CInv.start {xs : List IDV} {k0 : Nat} (h1 : 1 ≤ k0) (hlt : k0 < xs.length) (hp : dedI (xs.take k0) = xs.take k0) (he : xs[k0] = xs[k0 - 1]'(by omega)) : CInv xs k0 ⟨k0, 1, xs⟩ := by
  obtain ⟨j, rfl⟩ : ∃ j, k0 = j + 1 := ⟨k0 - 1, by omega⟩
  have e : dedI (xs.take (j + 1 + 1)) = xs.take (j + 1) := by
    rw [dedI_same hlt (by simpa using he), hp]
  have hl : (xs.take (j + 1)).length = j + 1 := by rw [List.length_take]; omega
  exact ⟨Nat.le_refl _, by simp only; omega, rfl, by simp only; rw [e, hl], by simp only; rw [e], by simp only; omega, rfl⟩

theorem compact_spec (q cap : Nat) (xs : List IDV) (sp : List Value) (w : World) (hw0 : Own w [(q, cb (fI xs ++ sp) 23)]) (hcap : xs.length ≤ cap) (hsz : (fI xs ++ sp).length = cap * 16) (hl : xs.length < 4611686018427387904) :
    Calls Try.prog 66 [.slice (some ⟨q, 0, none⟩) xs.length cap].toArray w fun r w' => ∃ sp' : List Value, r = .returned (.slice (some ⟨q, 0, none⟩) (dedI xs).length cap) ∧ (fI (dedI xs) ++ sp').length = cap * 16 ∧ St w [q] [(q, cb (fI (dedI xs) ++ sp') 23)] w' := by
  refine calls_of_J (args := [.slice (some ⟨q, 0, none⟩) xs.length cap]) (e := [(0, .slice (some ⟨q, 0, none⟩) xs.length cap)]) Try.func66 rfl rfl ⟨rfl, trivial⟩ (hw0.st) ?_
  refine JC.seq (fun K0 hK0 => ?_)
  refine JC.region ?_
  refine J.assign rfl rfl ?_
  refine J.nil ?_
  refine JX.thenN (hK0 _ _ ?_)
  refine JC.seq (fun K1 hK1 => ?_)
  refine JC.seq (fun K2 hK2 => ?_)
  refine JC.region ?_
  refine J.move rfl rfl ?_
  refine J.lenS rfl Ty.u24 rfl rfl ?_
  refine J.bin rfl rfl rfl rfl ?_
  refine J.nil ?_
  refine JX.thenN (hK2 _ _ ?_)
  refine JC.cond rfl (fun h0 => ?_) (fun h0 => ?_)
  · skip
    have hxs : dedI xs = xs := dedI_short (by simp at h0; omega)
    refine JC.seq (fun K3 hK3 => ?_)
    refine JC.region ?_
    refine J.move rfl rfl ?_
    refine J.assign rfl rfl ?_
    refine J.nil ?_
    refine JX.thenN (hK3 _ _ ?_)
    refine JC.ret ?_
    refine JX.thenR ?_
    refine JX.ret1 rfl rfl (fun w hw => ?_)
    first | exact ⟨sp, by rw [hxs], by rw [hxs]; exact hsz, by rw [hxs]; exact hw⟩ | exact ⟨sp2, rfl, by rw [hc2, List.length_append, hfz, hzl, ← fI_length xs, ← List.length_append]; exact hsz, hw⟩
  · skip
    have hn2 : 2 ≤ xs.length := by simp at h0; omega
    refine JC.skip ?_
    refine JX.thenN (hK1 _ _ ?_)
    refine JC.seq (fun K4 hK4 => ?_)
    refine JC.seq (fun K5 hK5 => ?_)
    refine JC.region ?_
    refine J.assign rfl rfl ?_
    refine J.nil ?_
    refine JX.thenN (hK5 _ _ ?_)
    refine JC.block ?_
    refine JC.conseq (JC.cov (f := (fun k => [(0, .slice (some ⟨q, 0, none⟩) xs.length cap), (3, .int .i64 ((k : Nat) : Int))]) 1) ⟨rfl, rfl, trivial⟩ (JC.loop (α := Nat) (fun k => [(0, .slice (some ⟨q, 0, none⟩) xs.length cap), (3, .int .i64 ((k : Nat) : Int))]) (fun k w' => (1 ≤ k ∧ k ≤ xs.length ∧ dedI (xs.take k) = xs.take k) ∧ St w [q] [(q, cb (fI xs ++ sp) 23)] w') (fun k => xs.length - k) 1 (fun k => ?_))) (fun w hw => ⟨⟨Nat.le_refl _, by omega, dedI_one (by omega)⟩, hw⟩)
    refine JC.pr (fun hx => ?_)
    obtain ⟨hk1, hkn, hpre⟩ := hx
    refine JC.seq (fun K6 hK6 => ?_)
    refine JC.seq (fun K7 hK7 => ?_)
    refine JC.region ?_
    refine J.move rfl rfl ?_
    refine J.move rfl rfl ?_
    refine J.lenS rfl Ty.u24 rfl rfl ?_
    refine J.bin rfl rfl rfl rfl ?_
    refine J.nil ?_
    refine JX.thenN (hK7 _ _ ?_)
    refine JC.cond rfl (fun h1 => ?_) (fun h1 => ?_)
    · skip
      have hlt : k < xs.length := by simp at h1; omega
      refine JC.skip ?_
      refine JX.thenN (hK6 _ _ ?_)
      refine JC.seq (fun K8 hK8 => ?_)
      refine JC.block ?_
      refine JC.seq (fun K9 hK9 => ?_)
      apply JC.drawL 10 [Eqv (.slice (some ⟨q, 0, none⟩) xs.length cap), Eqv (.int .i64 ((k : Nat) : Int)), Eqv (.pointer (some ⟨q, 0 + (k : Int).toNat * 16, none⟩)), Eqv (.agg (cI xs[k]).toArray), Eqv (.slice (some ⟨q, 0, none⟩) xs.length cap), Eqv (.int .i64 ((k : Nat) : Int)), Eqv (.int .i64 ((k : Int) - 1)), Eqv (.pointer (some ⟨q, 0 + ((k : Int) - 1).toNat * 16, none⟩)), Eqv (.agg (cI (xs[k - 1]'(by omega))).toArray), Eqv (.bool (decide (xs[k] = xs[k - 1]'(by omega))))] Ty.mixed rfl rfl rfl (by kernel_rfl) rfl rfl (fun w w' hw hb => hw.step hb) ⟨fun _ _ _ h _ => h, fun _ _ _ h _ => h, fun _ _ _ h _ => h, fun _ _ _ h _ => h, fun _ _ _ h _ => h, fun _ _ _ h _ => h, fun _ _ _ h _ => h, fun _ _ _ h _ => h, fun _ _ _ h _ => h, fun _ _ _ h _ => h, trivial⟩ ?hstep ?htail
      case hstep =>
        refine ⟨fun wi => ?_, fun wi => ?_, fun wi => ?_, fun wi => ?_, fun wi => ?_, fun wi => ?_, fun wi => ?_, fun wi => ?_, fun wi => ?_, fun wi => ?_, trivial⟩
        · skip
          refine Fin.nil ?_
          refine J.move rfl rfl ?_
          exact J.finP rfl
        · skip
          refine Fin.nil ?_
          refine J.move rfl rfl ?_
          exact J.finP rfl
        · skip
          refine Fin.consE rfl (Fin.consE rfl (Fin.nil ?_))
          refine J.indexAddrS Ty.el24 Ty.s23 rfl rfl (by omega) (by omega) rfl ?_
          exact J.finP rfl
        · skip
          refine Fin.consE rfl (Fin.nil ?_)
          refine J.loadA (vs := cI xs[k]) Ty.a23 Ty.s23 rfl rfl (fun w1 hw => rowF_at (xs := xs) (k := xs.length) (c := cap) (Row.own (o := 0) (cs := fI xs ++ sp) hw.2 (.head _) (by rw [List.drop_zero, List.take_left]) hcap) (List.getElem?_eq_getElem hlt) (by omega)) rfl ?_
          exact J.finP rfl
        · skip
          refine Fin.nil ?_
          refine J.move rfl rfl ?_
          exact J.finP rfl
        · skip
          refine Fin.nil ?_
          refine J.move rfl rfl ?_
          exact J.finP rfl
        · skip
          refine Fin.consE rfl (Fin.nil ?_)
          (first | refine J.subN rfl rfl (by omega) (by omega) rfl ?_ | refine J.bin rfl rfl rfl rfl ?_)
          exact J.finP rfl
        · skip
          refine Fin.consE rfl (Fin.consE rfl (Fin.nil ?_))
          refine J.indexAddrS Ty.el24 Ty.s23 rfl rfl (by omega) (by omega) rfl ?_
          exact J.finP rfl
        · skip
          refine Fin.consE rfl (Fin.nil ?_)
          refine J.loadA (vs := cI (xs[k - 1]'(by omega))) Ty.a23 Ty.s23 rfl rfl (fun w1 hw => rowF_at (xs := xs) (k := xs.length) (c := cap) (Row.own (o := 0) (cs := fI xs ++ sp) hw.2 (.head _) (by rw [List.drop_zero, List.take_left]) hcap) (List.getElem?_eq_getElem (show k - 1 < xs.length by omega)) (by omega)) rfl ?_
          exact J.finP rfl
        · skip
          refine Fin.consE rfl (Fin.consE rfl (Fin.nil ?_))
          refine J.eqI Ty.QI Ty.keyI rfl rfl rfl ?_
          exact J.finP rfl
      case htail =>
        refine Fin.consE rfl (Fin.consE rfl (Fin.consE rfl (Fin.consE rfl (Fin.consE rfl (Fin.consE rfl (Fin.consE rfl (Fin.consE rfl (Fin.consE rfl (Fin.consE rfl (Fin.nil ?_))))))))))
        refine J.nil ?_
        refine JX.thenN (hK9 _ _ ?_)
        refine JC.cond rfl (fun h2 => ?_) (fun h2 => ?_)
        · skip
          have he2 : xs[k] = xs[k - 1]'(by omega) := by simp at h2; exact h2
          have hst := CInv.start hk1 hlt hpre he2
          obtain ⟨k0, hk0⟩ : ∃ k0, k0 = k := ⟨_, rfl⟩
          subst hk0
          refine JC.seq (fun K10 hK10 => ?_)
          refine JC.region ?_
          refine J.move rfl rfl ?_
          refine J.move rfl rfl ?_
          refine J.sliceS Ty.el24 Ty.s23 rfl rfl rfl rfl rfl (by omega) (by omega) (by omega) rfl ?_
          refine J.name 28 rfl (show _ = Value.slice (some ⟨q, k0 * 16, none⟩) (xs.length - k0) (cap - k0) by rw [if_neg (by omega)]; simp [Addr.add]; try omega) ?_
          refine J.assign rfl rfl ?_
          refine J.nil ?_
          refine JX.thenN (hK10 _ _ ?_)
          refine JC.seq (fun K11 hK11 => ?_)
          refine JC.seq (fun K12 hK12 => ?_)
          refine JC.region ?_
          refine J.assign rfl rfl ?_
          refine J.nil ?_
          refine JX.thenN (hK12 _ _ ?_)
          refine JC.block ?_
          refine JC.conseq (JC.cov (f := (fun st => [(0, .slice (some ⟨q, 0, none⟩) xs.length cap), (3, .int .i64 ((st.k : Nat) : Int)), (4, .slice (some ⟨q, k0 * 16, none⟩) (xs.length - k0) (cap - k0)), (5, .int .i64 ((st.k2 : Nat) : Int))]) (⟨k0, 1, xs⟩ : DK)) ⟨rfl, rfl, rfl, rfl, trivial⟩ (JC.loop (α := DK) (fun st => [(0, .slice (some ⟨q, 0, none⟩) xs.length cap), (3, .int .i64 ((st.k : Nat) : Int)), (4, .slice (some ⟨q, k0 * 16, none⟩) (xs.length - k0) (cap - k0)), (5, .int .i64 ((st.k2 : Nat) : Int))]) (fun st w' => CInv xs k0 st ∧ St w [q] [(q, cb (fI st.zs ++ sp) 23)] w') (fun st => xs.length - (k0 + st.k2)) (⟨k0, 1, xs⟩ : DK) (fun st => ?_))) (fun w hw => ⟨hst, hw⟩)
          obtain ⟨k, k2, zs⟩ := st
          refine JC.pr (fun hI => ?_)
          have hI1 := hI.h1
          have hIn := hI.hn
          have hzl := hI.hl
          have hIle := hI.le
          simp only at hI1 hIn hzl hIle ⊢
          refine JC.seq (fun K13 hK13 => ?_)
          refine JC.seq (fun K14 hK14 => ?_)
          refine JC.region ?_
          refine J.move rfl rfl ?_
          refine J.move rfl rfl ?_
          refine J.lenS rfl Ty.u24 rfl rfl ?_
          refine J.bin rfl rfl rfl rfl ?_
          refine J.nil ?_
          refine JX.thenN (hK14 _ _ ?_)
          refine JC.cond rfl (fun h3 => ?_) (fun h3 => ?_)
          · skip
            have hlt2 : k0 + k2 < xs.length := by simp at h3; omega
            refine JC.skip ?_
            refine JX.thenN (hK13 _ _ ?_)
            refine JC.seq (fun K15 hK15 => ?_)
            refine JC.block ?_
            refine JC.seq (fun K16 hK16 => ?_)
            apply JC.drawL 10 [Eqv (.slice (some ⟨q, k0 * 16, none⟩) (xs.length - k0) (cap - k0)), Eqv (.int .i64 ((k2 : Nat) : Int)), Eqv (.pointer (some ⟨q, k0 * 16 + (k2 : Int).toNat * 16, none⟩)), Eqv (.agg (cI (xs[k0 + k2]'hlt2)).toArray), Eqv (.slice (some ⟨q, k0 * 16, none⟩) (xs.length - k0) (cap - k0)), Eqv (.int .i64 ((k2 : Nat) : Int)), Eqv (.int .i64 ((k2 : Int) - 1)), Eqv (.pointer (some ⟨q, k0 * 16 + ((k2 : Int) - 1).toNat * 16, none⟩)), Eqv (.agg (cI (xs[k0 + k2 - 1]'(by omega))).toArray), Eqv (.bool (!decide ((xs[k0 + k2]'hlt2) = (xs[k0 + k2 - 1]'(by omega)))))] Ty.mixed rfl rfl rfl (by kernel_rfl) rfl rfl (fun w w' hw hb => hw.step hb) ⟨fun _ _ _ h _ => h, fun _ _ _ h _ => h, fun _ _ _ h _ => h, fun _ _ _ h _ => h, fun _ _ _ h _ => h, fun _ _ _ h _ => h, fun _ _ _ h _ => h, fun _ _ _ h _ => h, fun _ _ _ h _ => h, fun _ _ _ h _ => h, trivial⟩ ?hstep ?htail
            case hstep =>
              refine ⟨fun wi => ?_, fun wi => ?_, fun wi => ?_, fun wi => ?_, fun wi => ?_, fun wi => ?_, fun wi => ?_, fun wi => ?_, fun wi => ?_, fun wi => ?_, trivial⟩
              · skip
                refine Fin.nil ?_
                refine J.move rfl rfl ?_
                exact J.finP rfl
              · skip
                refine Fin.nil ?_
                refine J.move rfl rfl ?_
                exact J.finP rfl
              · skip
                refine Fin.consE rfl (Fin.consE rfl (Fin.nil ?_))
                refine J.indexAddrS Ty.el24 Ty.s23 rfl rfl (by omega) (by omega) rfl ?_
                exact J.finP rfl
              · skip
                refine Fin.consE rfl (Fin.nil ?_)
                refine J.loadA (vs := cI (xs[k0 + k2]'hlt2)) Ty.a23 Ty.s23 rfl rfl (fun w1 hw => rowF_at (xs := zs) (k := xs.length) (c := cap) (Row.own (o := 0) (cs := fI zs ++ sp) hw.2 (.head _) (by rw [List.drop_zero, List.take_left]) hcap) (hI.get (i := k0 + k2) (by simp only; omega) hlt2) (by omega)) rfl ?_
                exact J.finP rfl
              · skip
                refine Fin.nil ?_
                refine J.move rfl rfl ?_
                exact J.finP rfl
              · skip
                refine Fin.nil ?_
                refine J.move rfl rfl ?_
                exact J.finP rfl
              · skip
                refine Fin.consE rfl (Fin.nil ?_)
                (first | refine J.subN rfl rfl (by omega) (by omega) rfl ?_ | refine J.bin rfl rfl rfl rfl ?_)
                exact J.finP rfl
              · skip
                refine Fin.consE rfl (Fin.consE rfl (Fin.nil ?_))
                refine J.indexAddrS Ty.el24 Ty.s23 rfl rfl (by omega) (by omega) rfl ?_
                exact J.finP rfl
              · skip
                refine Fin.consE rfl (Fin.nil ?_)
                refine J.loadA (vs := cI (xs[k0 + k2 - 1]'(by omega))) Ty.a23 Ty.s23 rfl rfl (fun w1 hw => rowF_at (xs := zs) (k := xs.length) (c := cap) (Row.own (o := 0) (cs := fI zs ++ sp) hw.2 (.head _) (by rw [List.drop_zero, List.take_left]) hcap) (hI.get (i := k0 + k2 - 1) (Nat.le_refl _) (by omega)) (by omega)) rfl ?_
                exact J.finP rfl
              · skip
                refine Fin.consE rfl (Fin.consE rfl (Fin.nil ?_))
                refine J.neI Ty.QI Ty.keyI rfl rfl rfl ?_
                exact J.finP rfl
            case htail =>
              refine Fin.consE rfl (Fin.consE rfl (Fin.consE rfl (Fin.consE rfl (Fin.consE rfl (Fin.consE rfl (Fin.consE rfl (Fin.consE rfl (Fin.consE rfl (Fin.consE rfl (Fin.nil ?_))))))))))
              refine J.nil ?_
              refine JX.thenN (hK16 _ _ ?_)
              refine JC.cond rfl (fun h4 => ?_) (fun h4 => ?_)
              · skip
                have hne : (xs[k0 + k2]'hlt2) ≠ (xs[k0 + k2 - 1]'(by omega)) := by simp at h4; exact h4
                refine JC.seq (fun K17 hK17 => ?_)
                refine JC.region ?_
                refine J.move rfl rfl ?_
                refine J.move rfl rfl ?_
                refine J.move rfl rfl ?_
                refine J.move rfl rfl ?_
                refine J.indexAddrS Ty.el24 Ty.s23 rfl rfl (by omega) (by omega) rfl ?_
                refine J.loadA (vs := cI (xs[k0 + k2]'hlt2)) Ty.a23 Ty.s23 rfl rfl (fun w1 hw => rowF_at (xs := zs) (k := xs.length) (c := cap) (Row.own (o := 0) (cs := fI zs ++ sp) hw (.head _) (by rw [List.drop_zero, List.take_left]) hcap) (hI.get (i := k0 + k2) (by simp only; omega) hlt2) (by omega)) rfl ?_
                refine J.indexAddrS Ty.el24 Ty.s23 rfl rfl (by omega) (by omega) rfl ?_
                refine J.storeO (cs := fI zs ++ sp) (vs := cI (xs[k0 + k2]'hlt2)) Ty.s23 rfl rfl rfl rfl (by simp [Value.oneCell']) .here (by have := fI_length zs; simp only [List.length_append]; omega) ?_
                refine J.conseq (I' := St w [q] [(q, cb (fI (zs.set k (xs[k0 + k2]'hlt2)) ++ sp) 23)]) ?_ (fun w1 hw => by rw [← fI_set (show k < zs.length by omega)]; exact hw)
                refine J.nil ?_
                refine JX.thenN (hK17 _ _ ?_)
                refine JC.region ?_
                refine J.move rfl rfl ?_
                (first | refine J.addN rfl rfl (by omega) (by omega) rfl ?_ | refine J.bin rfl rfl rfl rfl ?_)
                refine J.assign rfl rfl ?_
                refine J.nil ?_
                refine JX.blockN ?_
                refine JX.thenN (hK15 _ _ ?_)
                refine JC.region ?_
                refine J.move rfl rfl ?_
                (first | refine J.addN rfl rfl (by omega) (by omega) rfl ?_ | refine J.bin rfl rfl rfl rfl ?_)
                refine J.assign rfl rfl ?_
                refine J.nil ?_
                refine JX.thenN ?_
                refine JX.again (⟨k + 1, k2 + 1, zs.set k (xs[k0 + k2]'hlt2)⟩ : DK) ?_ ?_ ?_
                · simp only; omega
                · exact ⟨rfl, rfl, rfl, rfl, trivial⟩
                · exact fun w1 hw => ⟨hI.put hlt2 hne, hw⟩
              · skip
                have heq : (xs[k0 + k2]'hlt2) = (xs[k0 + k2 - 1]'(by omega)) := by simp at h4; exact h4
                refine JC.skip ?_
                refine JX.blockN ?_
                refine JX.thenN (hK15 _ _ ?_)
                refine JC.region ?_
                refine J.move rfl rfl ?_
                (first | refine J.addN rfl rfl (by omega) (by omega) rfl ?_ | refine J.bin rfl rfl rfl rfl ?_)
                refine J.assign rfl rfl ?_
                refine J.nil ?_
                refine JX.thenN ?_
                refine JX.again (⟨k, k2 + 1, zs⟩ : DK) ?_ ?_ ?_
                · simp only; omega
                · exact ⟨rfl, rfl, rfl, rfl, trivial⟩
                · exact fun w1 hw => ⟨hI.skip hlt2 heq, hw⟩
          · skip
            have hge2 : k0 + k2 = xs.length := by simp at h3; omega
            have htk := hI.tk
            have hkk := hI.hk
            simp only at htk hkk
            rw [hge2, List.take_of_length_le (Nat.le_refl _)] at htk hkk
            refine JC.exit ?_
            refine JX.thenE ?_
            refine JX.thenE ?_
            refine JX.blockE ?_
            refine JX.thenN (hK11 _ _ ?_)
            refine JC.seq (fun K18 hK18 => ?_)
            refine JC.region ?_
            refine J.move rfl rfl ?_
            refine J.move rfl rfl ?_
            obtain ⟨oo, hoo, hoz⟩ : ∃ oo, (if cap = k then some (⟨q, 0, none⟩ : Addr) else (some (⟨q, 0, none⟩ : Addr)).map (·.add (k * 16))) = some ⟨q, oo, none⟩ ∧ (xs.length - k = 0 ∨ oo = k * 16) := by
              by_cases hci : cap = k
              · exact ⟨0, by rw [if_pos hci], .inl (by omega)⟩
              · exact ⟨k * 16, by rw [if_neg hci]; simp [Addr.add]; omega, .inr rfl⟩
            refine J.sliceS Ty.el24 Ty.s23 rfl rfl rfl rfl rfl (by omega) (by omega) (by omega) rfl ?_
            refine J.name 56 rfl (show _ = Value.slice (some ⟨q, oo, none⟩) (xs.length - k) (cap - k) by rw [← hoo]; rfl) ?_
            have hfz := fI_length zs
            obtain ⟨sp2, hc1, hc2⟩ := clear_end (sp := sp) (Z := (Builtin.zeroCells (cI zI).toArray (xs.length - k)).toList) hzl htk (by omega) (by rw [zeroCells_length]; rfl) hoz
            refine J.clear (cs := fI zs ++ sp) (sz := 16) rfl Ty.el24 Ty.zID rfl (by decide) (fun u hu => fI_one (xs := [zI]) (List.mem_append_left [] hu)) rfl .here (by simp only [List.length_append]; rcases hoz with h | h <;> omega) ?_
            refine J.conseq (I' := St w [q] [(q, cb (fI (dedI xs) ++ sp2) 23)]) ?_ (fun w1 hw => by rw [← hc1]; exact hw)
            refine J.nil ?_
            refine JX.thenN (hK18 _ _ ?_)
            refine JC.seq (fun K19 hK19 => ?_)
            refine JC.region ?_
            refine J.move rfl rfl ?_
            refine J.move rfl rfl ?_
            refine J.sliceS Ty.el24 Ty.s23 rfl rfl rfl rfl rfl (by omega) (by omega) (by omega) rfl ?_
            refine J.name 59 rfl (show _ = Value.slice (some ⟨q, 0, none⟩) (dedI xs).length cap by rw [← hkk]; split <;> simp [Addr.add]) ?_
            refine J.assign rfl rfl ?_
            refine J.nil ?_
            refine JX.thenN (hK19 _ _ ?_)
            refine JC.ret ?_
            refine JX.blockR ?_
            refine JX.thenR ?_
            refine JX.thenR ?_
            refine JX.blockR ?_
            refine JX.thenR ?_
            refine JX.ret1 rfl rfl (fun w hw => ?_)
            first | exact ⟨sp, by rw [hxs], by rw [hxs]; exact hsz, by rw [hxs]; exact hw⟩ | exact ⟨sp2, rfl, by rw [hc2, List.length_append, hfz, hzl, ← fI_length xs, ← List.length_append]; exact hsz, hw⟩
        · skip
          have hnext : dedI (xs.take (k + 1)) = xs.take (k + 1) := by
            obtain ⟨j, rfl⟩ : ∃ j, k = j + 1 := ⟨k - 1, by omega⟩
            rw [dedI_new hlt (by simpa using h2), hpre, ← take_add_one hlt]
          refine JC.skip ?_
          refine JX.blockN ?_
          refine JX.thenN (hK8 _ _ ?_)
          refine JC.region ?_
          refine J.move rfl rfl ?_
          (first | refine J.addN rfl rfl (by omega) (by omega) rfl ?_ | refine J.bin rfl rfl rfl rfl ?_)
          refine J.assign rfl rfl ?_
          refine J.nil ?_
          refine JX.thenN ?_
          refine JX.again (k + 1) ?_ ?_ ?_
          · omega
          · exact ⟨rfl, rfl, trivial⟩
          · exact fun w1 hw => ⟨⟨by omega, hlt, hnext⟩, hw⟩
    · skip
      have hge : k = xs.length := by simp at h1; omega
      have hxs : dedI xs = xs := by rw [hge, List.take_of_length_le (Nat.le_refl _)] at hpre; exact hpre
      refine JC.exit ?_
      refine JX.thenE ?_
      refine JX.thenE ?_
      refine JX.blockE ?_
      refine JX.thenN (hK4 _ _ ?_)
      refine JC.seq (fun K20 hK20 => ?_)
      refine JC.region ?_
      refine J.move rfl rfl ?_
      refine J.assign rfl rfl ?_
      refine J.nil ?_
      refine JX.thenN (hK20 _ _ ?_)
      refine JC.ret ?_
      refine JX.ret1 rfl rfl (fun w hw => ?_)
      first | exact ⟨sp, by rw [hxs], by rw [hxs]; exact hsz, by rw [hxs]; exact hw⟩ | exact ⟨sp2, rfl, by rw [hc2, List.length_append, hfz, hzl, ← fI_length xs, ← List.length_append]; exact hsz, hw⟩

end Go.Proofs.Ytbafhclandendaa
