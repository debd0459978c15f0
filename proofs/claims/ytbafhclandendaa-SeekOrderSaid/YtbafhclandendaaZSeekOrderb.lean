/-
  SeekOrder: texts that its proof needs, part 2.
-/
import Derived.Test.YtbafhclandendaaZSeekOrdera
/-
  slices.Compact at identities: contract.
-/
namespace Go.Proofs.Ytbafhclandendaa
open Go.J Go.RowKit
set_option linter.unusedVariables false
set_option linter.unusedSimpArgs false
set_option maxRecDepth 4000
def stepI (acc : List IDV) (x : IDV) : List IDV := if acc.getLast? = some x then acc else acc ++ [x]
/-- without neighbours that are one -/
def dedI (xs : List IDV) : List IDV := xs.foldl stepI []
theorem dedI_take {xs : List IDV} {j : Nat} (h : j < xs.length) : dedI (xs.take (j + 1)) = stepI (dedI (xs.take j)) xs[j] := by
  rw [take_add_one h, dedI, List.foldl_append]; rfl
theorem stepI_last (acc : List IDV) (x : IDV) : (stepI acc x).getLast? = some x := by
  unfold stepI
  split
  · assumption
  · simp
theorem dedI_last {xs : List IDV} {j : Nat} (h : j < xs.length) : (dedI (xs.take (j + 1))).getLast? = some xs[j] := by
  rw [dedI_take h, stepI_last]
theorem dedI_same {xs : List IDV} {j : Nat} (h : j + 1 < xs.length) (he : xs[j + 1] = xs[j]) : dedI (xs.take (j + 1 + 1)) = dedI (xs.take (j + 1)) := by
  rw [dedI_take h, stepI, if_pos (by rw [dedI_last (by omega), he])]
theorem dedI_new {xs : List IDV} {j : Nat} (h : j + 1 < xs.length) (he : xs[j + 1] ≠ xs[j]) : dedI (xs.take (j + 1 + 1)) = dedI (xs.take (j + 1)) ++ [xs[j + 1]] := by
  rw [dedI_take h, stepI, if_neg (by rw [dedI_last (by omega)]; intro e; exact he (Option.some.inj e).symm)]
theorem dedI_one {xs : List IDV} (h : 0 < xs.length) : dedI (xs.take 1) = xs.take 1 := by
  rw [dedI_take h, take_add_one h]; rfl
theorem dedI_short {xs : List IDV} (h : xs.length < 2) : dedI xs = xs := by
  match xs, h with
  | [], _ => rfl
  | [x], _ => rfl
  | x :: y :: r, h => simp at h; omega
structure DK where
  k : Nat
  k2 : Nat
  zs : List IDV
structure CInv (xs : List IDV) (k0 : Nat) (s : DK) : Prop where
  h1 : 1 ≤ s.k2
  hn : k0 + s.k2 ≤ xs.length
  hl : s.zs.length = xs.length
  hk : s.k = (dedI (xs.take (k0 + s.k2))).length
  tk : s.zs.take s.k = dedI (xs.take (k0 + s.k2))
  le : s.k ≤ k0 + s.k2 - 1
  dr : s.zs.drop (k0 + s.k2 - 1) = xs.drop (k0 + s.k2 - 1)
theorem CInv.get {xs : List IDV} {k0 : Nat} {s : DK} (h : CInv xs k0 s) {i : Nat} (hi : k0 + s.k2 - 1 ≤ i) (hlt : i < xs.length) : s.zs[i]? = some xs[i] := by
  have e : (s.zs.drop (k0 + s.k2 - 1))[i - (k0 + s.k2 - 1)]? = (xs.drop (k0 + s.k2 - 1))[i - (k0 + s.k2 - 1)]? := by rw [h.dr]
  rw [List.getElem?_drop, List.getElem?_drop, show k0 + s.k2 - 1 + (i - (k0 + s.k2 - 1)) = i by omega, List.getElem?_eq_getElem hlt] at e
  exact e
theorem drop_next {a b : List IDV} {i : Nat} (h : a.drop i = b.drop i) : a.drop (i + 1) = b.drop (i + 1) := by
  rw [← List.drop_drop, ← List.drop_drop, h]
theorem CInv.skip {xs : List IDV} {k0 : Nat} {s : DK} (h : CInv xs k0 s) (hlt : k0 + s.k2 < xs.length) (he : xs[k0 + s.k2] = xs[k0 + s.k2 - 1]'(by omega)) : CInv xs k0 ⟨s.k, s.k2 + 1, s.zs⟩ := by
  obtain ⟨j, hj⟩ : ∃ j, k0 + s.k2 = j + 1 := ⟨k0 + s.k2 - 1, by have := h.h1; omega⟩
  have e : dedI (xs.take (k0 + (s.k2 + 1))) = dedI (xs.take (k0 + s.k2)) := by
    rw [show k0 + (s.k2 + 1) = j + 1 + 1 by omega, hj]
    have hlt' : j + 1 < xs.length := by omega
    refine dedI_same hlt' ?_
    simp only [hj] at he
    simpa using he
  have hle := h.le
  have hdr := h.dr
  refine ⟨by simp only; omega, by simp only; omega, h.hl, by simp only; rw [e]; exact h.hk, by simp only; rw [e]; exact h.tk, by simp only; omega, ?_⟩
  simp only
  rw [show k0 + (s.k2 + 1) - 1 = (k0 + s.k2 - 1) + 1 by have := h.h1; omega]
  exact drop_next hdr
theorem CInv.put {xs : List IDV} {k0 : Nat} {s : DK} (h : CInv xs k0 s) (hlt : k0 + s.k2 < xs.length) (he : xs[k0 + s.k2] ≠ xs[k0 + s.k2 - 1]'(by omega)) : CInv xs k0 ⟨s.k + 1, s.k2 + 1, s.zs.set s.k xs[k0 + s.k2]⟩ := by
  obtain ⟨j, hj⟩ : ∃ j, k0 + s.k2 = j + 1 := ⟨k0 + s.k2 - 1, by have := h.h1; omega⟩
  have e : dedI (xs.take (k0 + (s.k2 + 1))) = dedI (xs.take (k0 + s.k2)) ++ [xs[k0 + s.k2]] := by
    have hlt' : j + 1 < xs.length := by omega
    simp only [hj] at he ⊢
    rw [show k0 + (s.k2 + 1) = j + 1 + 1 by omega]
    exact dedI_new hlt' (by simpa using he)
  have hle := h.le
  have h1 := h.h1
  have hk := h.hk
  have hl := h.hl
  refine ⟨by simp only; omega, by simp only; omega, by simp only [List.length_set]; exact h.hl, by simp only; rw [e, List.length_append, List.length_singleton, ← hk], ?_, by simp only; omega, ?_⟩
  · simp only
    rw [e, take_add_one (by rw [List.length_set, hl]; omega), List.getElem_set_self, List.take_set_of_le (Nat.le_refl _), h.tk]
  · simp only
    rw [show k0 + (s.k2 + 1) - 1 = (k0 + s.k2 - 1) + 1 by omega, List.drop_set_of_lt (by omega)]
    exact drop_next h.dr
theorem CInv.start {xs : List IDV} {k0 : Nat} (h1 : 1 ≤ k0) (hlt : k0 < xs.length) (hp : dedI (xs.take k0) = xs.take k0) (he : xs[k0] = xs[k0 - 1]'(by omega)) : CInv xs k0 ⟨k0, 1, xs⟩ := by
  obtain ⟨j, rfl⟩ : ∃ j, k0 = j + 1 := ⟨k0 - 1, by omega⟩
  have e : dedI (xs.take (j + 1 + 1)) = xs.take (j + 1) := by
    rw [dedI_same hlt (by simpa using he), hp]
  have hl : (xs.take (j + 1)).length = j + 1 := by rw [List.length_take]; omega
  exact ⟨Nat.le_refl _, by simp only; omega, rfl, by simp only; rw [e, hl], by simp only; rw [e], by simp only; omega, rfl⟩

theorem compact_spec (q cap : Nat) (xs : List IDV) (sp : List Value) (w : World) (hw0 : Own w [(q, cb (fI xs ++ sp) 23)]) (hcap : xs.length ≤ cap) (hsz : (fI xs ++ sp).length = cap * 16) (hl : xs.length < 4611686018427387904) :
    Calls Try.prog 66 [.slice (some ⟨q, 0, none⟩) xs.length cap].toArray w fun r w' => ∃ sp' : List Value, r = .returned (.slice (some ⟨q, 0, none⟩) (dedI xs).length cap) ∧ (fI (dedI xs) ++ sp').length = cap * 16 ∧ St w [q] [(q, cb (fI (dedI xs) ++ sp') 23)] w' := by
  refine calls_of_J (args := [.slice (some ⟨q, 0, none⟩) xs.length cap]) (e := [(0, .slice (some ⟨q, 0, none⟩) xs.length cap)]) Try.func66 rfl rfl ⟨rfl, trivial⟩ (hw0.st) ?_
  refine JC.seq (fun K0 hK0 => ?_)
  refine JC.region ?_
  refine J.assign rfl rfl ?_
  refine J.nil ?_
  refine JX.thenN (hK0 _ _ ?_)
  refine JC.seq (fun K1 hK1 => ?_)
  refine JC.seq (fun K2 hK2 => ?_)
  refine JC.region ?_
  refine J.move rfl rfl ?_
  refine J.lenS rfl Ty.u24 rfl rfl ?_
  refine J.bin rfl rfl rfl rfl ?_
  refine J.nil ?_
  refine JX.thenN (hK2 _ _ ?_)
  refine JC.cond rfl (fun h0 => ?_) (fun h0 => ?_)
  · skip
    have hxs : dedI xs = xs := dedI_short (by simp at h0; omega)
    refine JC.seq (fun K3 hK3 => ?_)
    refine JC.region ?_
    refine J.move rfl rfl ?_
    refine J.assign rfl rfl ?_
    refine J.nil ?_
    refine JX.thenN (hK3 _ _ ?_)
    refine JC.ret ?_
    refine JX.thenR ?_
    refine JX.ret1 rfl rfl (fun w hw => ?_)
    first | exact ⟨sp, by rw [hxs], by rw [hxs]; exact hsz, by rw [hxs]; exact hw⟩ | exact ⟨sp2, rfl, by rw [hc2, List.length_append, hfz, hzl, ← fI_length xs, ← List.length_append]; exact hsz, hw⟩
  · skip
    have hn2 : 2 ≤ xs.length := by simp at h0; omega
    refine JC.skip ?_
    refine JX.thenN (hK1 _ _ ?_)
    refine JC.seq (fun K4 hK4 => ?_)
    refine JC.seq (fun K5 hK5 => ?_)
    refine JC.region ?_
    refine J.assign rfl rfl ?_
    refine J.nil ?_
    refine JX.thenN (hK5 _ _ ?_)
    refine JC.block ?_
    refine JC.conseq (JC.cov (f := (fun k => [(0, .slice (some ⟨q, 0, none⟩) xs.length cap), (3, .int .i64 ((k : Nat) : Int))]) 1) ⟨rfl, rfl, trivial⟩ (JC.loop (α := Nat) (fun k => [(0, .slice (some ⟨q, 0, none⟩) xs.length cap), (3, .int .i64 ((k : Nat) : Int))]) (fun k w' => (1 ≤ k ∧ k ≤ xs.length ∧ dedI (xs.take k) = xs.take k) ∧ St w [q] [(q, cb (fI xs ++ sp) 23)] w') (fun k => xs.length - k) 1 (fun k => ?_))) (fun w hw => ⟨⟨Nat.le_refl _, by omega, dedI_one (by omega)⟩, hw⟩)
    refine JC.pr (fun hx => ?_)
    obtain ⟨hk1, hkn, hpre⟩ := hx
    refine JC.seq (fun K6 hK6 => ?_)
    refine JC.seq (fun K7 hK7 => ?_)
    refine JC.region ?_
    refine J.move rfl rfl ?_
    refine J.move rfl rfl ?_
    refine J.lenS rfl Ty.u24 rfl rfl ?_
    refine J.bin rfl rfl rfl rfl ?_
    refine J.nil ?_
    refine JX.thenN (hK7 _ _ ?_)
    refine JC.cond rfl (fun h1 => ?_) (fun h1 => ?_)
    · skip
      have hlt : k < xs.length := by simp at h1; omega
      refine JC.skip ?_
      refine JX.thenN (hK6 _ _ ?_)
      refine JC.seq (fun K8 hK8 => ?_)
      refine JC.block ?_
      refine JC.seq (fun K9 hK9 => ?_)
      apply JC.drawL 10 [Eqv (.slice (some ⟨q, 0, none⟩) xs.length cap), Eqv (.int .i64 ((k : Nat) : Int)), Eqv (.pointer (some ⟨q, 0 + (k : Int).toNat * 16, none⟩)), Eqv (.agg (cI xs[k]).toArray), Eqv (.slice (some ⟨q, 0, none⟩) xs.length cap), Eqv (.int .i64 ((k : Nat) : Int)), Eqv (.int .i64 ((k : Int) - 1)), Eqv (.pointer (some ⟨q, 0 + ((k : Int) - 1).toNat * 16, none⟩)), Eqv (.agg (cI (xs[k - 1]'(by omega))).toArray), Eqv (.bool (decide (xs[k] = xs[k - 1]'(by omega))))] Ty.mixed rfl rfl rfl (by kernel_rfl) rfl rfl (fun w w' hw hb => hw.step hb) ⟨fun _ _ _ h _ => h, fun _ _ _ h _ => h, fun _ _ _ h _ => h, fun _ _ _ h _ => h, fun _ _ _ h _ => h, fun _ _ _ h _ => h, fun _ _ _ h _ => h, fun _ _ _ h _ => h, fun _ _ _ h _ => h, fun _ _ _ h _ => h, trivial⟩ ?hstep ?htail
      case hstep =>
        refine ⟨fun wi => ?_, fun wi => ?_, fun wi => ?_, fun wi => ?_, fun wi => ?_, fun wi => ?_, fun wi => ?_, fun wi => ?_, fun wi => ?_, fun wi => ?_, trivial⟩
        · skip
          refine Fin.nil ?_
          refine J.move rfl rfl ?_
          exact J.finP rfl
        · skip
          refine Fin.nil ?_
          refine J.move rfl rfl ?_
          exact J.finP rfl
        · skip
          refine Fin.consE rfl (Fin.consE rfl (Fin.nil ?_))
          refine J.indexAddrS Ty.el24 Ty.s23 rfl rfl (by omega) (by omega) rfl ?_
          exact J.finP rfl
        · skip
          refine Fin.consE rfl (Fin.nil ?_)
          refine J.loadA (vs := cI xs[k]) Ty.a23 Ty.s23 rfl rfl (fun w1 hw => rowF_at (xs := xs) (k := xs.length) (c := cap) (Row.own (o := 0) (cs := fI xs ++ sp) hw.2 (.head _) (by rw [List.drop_zero, List.take_left]) hcap) (List.getElem?_eq_getElem hlt) (by omega)) rfl ?_
          exact J.finP rfl
        · skip
          refine Fin.nil ?_
          refine J.move rfl rfl ?_
          exact J.finP rfl
        · skip
          refine Fin.nil ?_
          refine J.move rfl rfl ?_
          exact J.finP rfl
        · skip
          refine Fin.consE rfl (Fin.nil ?_)
          (first | refine J.subN rfl rfl (by omega) (by omega) rfl ?_ | refine J.bin rfl rfl rfl rfl ?_)
          exact J.finP rfl
        · skip
          refine Fin.consE rfl (Fin.consE rfl (Fin.nil ?_))
          refine J.indexAddrS Ty.el24 Ty.s23 rfl rfl (by omega) (by omega) rfl ?_
          exact J.finP rfl
        · skip
          refine Fin.consE rfl (Fin.nil ?_)
          refine J.loadA (vs := cI (xs[k - 1]'(by omega))) Ty.a23 Ty.s23 rfl rfl (fun w1 hw => rowF_at (xs := xs) (k := xs.length) (c := cap) (Row.own (o := 0) (cs := fI xs ++ sp) hw.2 (.head _) (by rw [List.drop_zero, List.take_left]) hcap) (List.getElem?_eq_getElem (show k - 1 < xs.length by omega)) (by omega)) rfl ?_
          exact J.finP rfl
        · skip
          refine Fin.consE rfl (Fin.consE rfl (Fin.nil ?_))
          refine J.eqI Ty.QI Ty.keyI rfl rfl rfl ?_
          exact J.finP rfl
      case htail =>
        refine Fin.consE rfl (Fin.consE rfl (Fin.consE rfl (Fin.consE rfl (Fin.consE rfl (Fin.consE rfl (Fin.consE rfl (Fin.consE rfl (Fin.consE rfl (Fin.consE rfl (Fin.nil ?_))))))))))
        refine J.nil ?_
        refine JX.thenN (hK9 _ _ ?_)
        refine JC.cond rfl (fun h2 => ?_) (fun h2 => ?_)
        · skip
          have he2 : xs[k] = xs[k - 1]'(by omega) := by simp at h2; exact h2
          have hst := CInv.start hk1 hlt hpre he2
          obtain ⟨k0, hk0⟩ : ∃ k0, k0 = k := ⟨_, rfl⟩
          subst hk0
          refine JC.seq (fun K10 hK10 => ?_)
          refine JC.region ?_
          refine J.move rfl rfl ?_
          refine J.move rfl rfl ?_
          refine J.sliceS Ty.el24 Ty.s23 rfl rfl rfl rfl rfl (by omega) (by omega) (by omega) rfl ?_
          refine J.name 28 rfl (show _ = Value.slice (some ⟨q, k0 * 16, none⟩) (xs.length - k0) (cap - k0) by rw [if_neg (by omega)]; simp [Addr.add]; try omega) ?_
          refine J.assign rfl rfl ?_
          refine J.nil ?_
          refine JX.thenN (hK10 _ _ ?_)
          refine JC.seq (fun K11 hK11 => ?_)
          refine JC.seq (fun K12 hK12 => ?_)
          refine JC.region ?_
          refine J.assign rfl rfl ?_
          refine J.nil ?_
          refine JX.thenN (hK12 _ _ ?_)
          refine JC.block ?_
          refine JC.conseq (JC.cov (f := (fun st => [(0, .slice (some ⟨q, 0, none⟩) xs.length cap), (3, .int .i64 ((st.k : Nat) : Int)), (4, .slice (some ⟨q, k0 * 16, none⟩) (xs.length - k0) (cap - k0)), (5, .int .i64 ((st.k2 : Nat) : Int))]) (⟨k0, 1, xs⟩ : DK)) ⟨rfl, rfl, rfl, rfl, trivial⟩ (JC.loop (α := DK) (fun st => [(0, .slice (some ⟨q, 0, none⟩) xs.length cap), (3, .int .i64 ((st.k : Nat) : Int)), (4, .slice (some ⟨q, k0 * 16, none⟩) (xs.length - k0) (cap - k0)), (5, .int .i64 ((st.k2 : Nat) : Int))]) (fun st w' => CInv xs k0 st ∧ St w [q] [(q, cb (fI st.zs ++ sp) 23)] w') (fun st => xs.length - (k0 + st.k2)) (⟨k0, 1, xs⟩ : DK) (fun st => ?_))) (fun w hw => ⟨hst, hw⟩)
          obtain ⟨k, k2, zs⟩ := st
          refine JC.pr (fun hI => ?_)
          have hI1 := hI.h1
          have hIn := hI.hn
          have hzl := hI.hl
          have hIle := hI.le
          simp only at hI1 hIn hzl hIle ⊢
          refine JC.seq (fun K13 hK13 => ?_)
          refine JC.seq (fun K14 hK14 => ?_)
          refine JC.region ?_
          refine J.move rfl rfl ?_
          refine J.move rfl rfl ?_
          refine J.lenS rfl Ty.u24 rfl rfl ?_
          refine J.bin rfl rfl rfl rfl ?_
          refine J.nil ?_
          refine JX.thenN (hK14 _ _ ?_)
          refine JC.cond rfl (fun h3 => ?_) (fun h3 => ?_)
          · skip
            have hlt2 : k0 + k2 < xs.length := by simp at h3; omega
            refine JC.skip ?_
            refine JX.thenN (hK13 _ _ ?_)
            refine JC.seq (fun K15 hK15 => ?_)
            refine JC.block ?_
            refine JC.seq (fun K16 hK16 => ?_)
            apply JC.drawL 10 [Eqv (.slice (some ⟨q, k0 * 16, none⟩) (xs.length - k0) (cap - k0)), Eqv (.int .i64 ((k2 : Nat) : Int)), Eqv (.pointer (some ⟨q, k0 * 16 + (k2 : Int).toNat * 16, none⟩)), Eqv (.agg (cI (xs[k0 + k2]'hlt2)).toArray), Eqv (.slice (some ⟨q, k0 * 16, none⟩) (xs.length - k0) (cap - k0)), Eqv (.int .i64 ((k2 : Nat) : Int)), Eqv (.int .i64 ((k2 : Int) - 1)), Eqv (.pointer (some ⟨q, k0 * 16 + ((k2 : Int) - 1).toNat * 16, none⟩)), Eqv (.agg (cI (xs[k0 + k2 - 1]'(by omega))).toArray), Eqv (.bool (!decide ((xs[k0 + k2]'hlt2) = (xs[k0 + k2 - 1]'(by omega)))))] Ty.mixed rfl rfl rfl (by kernel_rfl) rfl rfl (fun w w' hw hb => hw.step hb) ⟨fun _ _ _ h _ => h, fun _ _ _ h _ => h, fun _ _ _ h _ => h, fun _ _ _ h _ => h, fun _ _ _ h _ => h, fun _ _ _ h _ => h, fun _ _ _ h _ => h, fun _ _ _ h _ => h, fun _ _ _ h _ => h, fun _ _ _ h _ => h, trivial⟩ ?hstep ?htail
            case hstep =>
              refine ⟨fun wi => ?_, fun wi => ?_, fun wi => ?_, fun wi => ?_, fun wi => ?_, fun wi => ?_, fun wi => ?_, fun wi => ?_, fun wi => ?_, fun wi => ?_, trivial⟩
              · skip
                refine Fin.nil ?_
                refine J.move rfl rfl ?_
                exact J.finP rfl
              · skip
                refine Fin.nil ?_
                refine J.move rfl rfl ?_
                exact J.finP rfl
              · skip
                refine Fin.consE rfl (Fin.consE rfl (Fin.nil ?_))
                refine J.indexAddrS Ty.el24 Ty.s23 rfl rfl (by omega) (by omega) rfl ?_
                exact J.finP rfl
              · skip
                refine Fin.consE rfl (Fin.nil ?_)
                refine J.loadA (vs := cI (xs[k0 + k2]'hlt2)) Ty.a23 Ty.s23 rfl rfl (fun w1 hw => rowF_at (xs := zs) (k := xs.length) (c := cap) (Row.own (o := 0) (cs := fI zs ++ sp) hw.2 (.head _) (by rw [List.drop_zero, List.take_left]) hcap) (hI.get (i := k0 + k2) (by simp only; omega) hlt2) (by omega)) rfl ?_
                exact J.finP rfl
              · skip
                refine Fin.nil ?_
                refine J.move rfl rfl ?_
                exact J.finP rfl
              · skip
                refine Fin.nil ?_
                refine J.move rfl rfl ?_
                exact J.finP rfl
              · skip
                refine Fin.consE rfl (Fin.nil ?_)
                (first | refine J.subN rfl rfl (by omega) (by omega) rfl ?_ | refine J.bin rfl rfl rfl rfl ?_)
                exact J.finP rfl
              · skip
                refine Fin.consE rfl (Fin.consE rfl (Fin.nil ?_))
                refine J.indexAddrS Ty.el24 Ty.s23 rfl rfl (by omega) (by omega) rfl ?_
                exact J.finP rfl
              · skip
                refine Fin.consE rfl (Fin.nil ?_)
                refine J.loadA (vs := cI (xs[k0 + k2 - 1]'(by omega))) Ty.a23 Ty.s23 rfl rfl (fun w1 hw => rowF_at (xs := zs) (k := xs.length) (c := cap) (Row.own (o := 0) (cs := fI zs ++ sp) hw.2 (.head _) (by rw [List.drop_zero, List.take_left]) hcap) (hI.get (i := k0 + k2 - 1) (Nat.le_refl _) (by omega)) (by omega)) rfl ?_
                exact J.finP rfl
              · skip
                refine Fin.consE rfl (Fin.consE rfl (Fin.nil ?_))
                refine J.neI Ty.QI Ty.keyI rfl rfl rfl ?_
                exact J.finP rfl
            case htail =>
              refine Fin.consE rfl (Fin.consE rfl (Fin.consE rfl (Fin.consE rfl (Fin.consE rfl (Fin.consE rfl (Fin.consE rfl (Fin.consE rfl (Fin.consE rfl (Fin.consE rfl (Fin.nil ?_))))))))))
              refine J.nil ?_
              refine JX.thenN (hK16 _ _ ?_)
              refine JC.cond rfl (fun h4 => ?_) (fun h4 => ?_)
              · skip
                have hne : (xs[k0 + k2]'hlt2) ≠ (xs[k0 + k2 - 1]'(by omega)) := by simp at h4; exact h4
                refine JC.seq (fun K17 hK17 => ?_)
                refine JC.region ?_
                refine J.move rfl rfl ?_
                refine J.move rfl rfl ?_
                refine J.move rfl rfl ?_
                refine J.move rfl rfl ?_
                refine J.indexAddrS Ty.el24 Ty.s23 rfl rfl (by omega) (by omega) rfl ?_
                refine J.loadA (vs := cI (xs[k0 + k2]'hlt2)) Ty.a23 Ty.s23 rfl rfl (fun w1 hw => rowF_at (xs := zs) (k := xs.length) (c := cap) (Row.own (o := 0) (cs := fI zs ++ sp) hw (.head _) (by rw [List.drop_zero, List.take_left]) hcap) (hI.get (i := k0 + k2) (by simp only; omega) hlt2) (by omega)) rfl ?_
                refine J.indexAddrS Ty.el24 Ty.s23 rfl rfl (by omega) (by omega) rfl ?_
                refine J.storeO (cs := fI zs ++ sp) (vs := cI (xs[k0 + k2]'hlt2)) Ty.s23 rfl rfl rfl rfl (by simp [Value.oneCell']) .here (by have := fI_length zs; simp only [List.length_append]; omega) ?_
                refine J.conseq (I' := St w [q] [(q, cb (fI (zs.set k (xs[k0 + k2]'hlt2)) ++ sp) 23)]) ?_ (fun w1 hw => by rw [← fI_set (show k < zs.length by omega)]; exact hw)
                refine J.nil ?_
                refine JX.thenN (hK17 _ _ ?_)
                refine JC.region ?_
                refine J.move rfl rfl ?_
                (first | refine J.addN rfl rfl (by omega) (by omega) rfl ?_ | refine J.bin rfl rfl rfl rfl ?_)
                refine J.assign rfl rfl ?_
                refine J.nil ?_
                refine JX.blockN ?_
                refine JX.thenN (hK15 _ _ ?_)
                refine JC.region ?_
                refine J.move rfl rfl ?_
                (first | refine J.addN rfl rfl (by omega) (by omega) rfl ?_ | refine J.bin rfl rfl rfl rfl ?_)
                refine J.assign rfl rfl ?_
                refine J.nil ?_
                refine JX.thenN ?_
                refine JX.again (⟨k + 1, k2 + 1, zs.set k (xs[k0 + k2]'hlt2)⟩ : DK) ?_ ?_ ?_
                · simp only; omega
                · exact ⟨rfl, rfl, rfl, rfl, trivial⟩
                · exact fun w1 hw => ⟨hI.put hlt2 hne, hw⟩
              · skip
                have heq : (xs[k0 + k2]'hlt2) = (xs[k0 + k2 - 1]'(by omega)) := by simp at h4; exact h4
                refine JC.skip ?_
                refine JX.blockN ?_
                refine JX.thenN (hK15 _ _ ?_)
                refine JC.region ?_
                refine J.move rfl rfl ?_
                (first | refine J.addN rfl rfl (by omega) (by omega) rfl ?_ | refine J.bin rfl rfl rfl rfl ?_)
                refine J.assign rfl rfl ?_
                refine J.nil ?_
                refine JX.thenN ?_
                refine JX.again (⟨k, k2 + 1, zs⟩ : DK) ?_ ?_ ?_
                · simp only; omega
                · exact ⟨rfl, rfl, rfl, rfl, trivial⟩
                · exact fun w1 hw => ⟨hI.skip hlt2 heq, hw⟩
          · skip
            have hge2 : k0 + k2 = xs.length := by simp at h3; omega
            have htk := hI.tk
            have hkk := hI.hk
            simp only at htk hkk
            rw [hge2, List.take_of_length_le (Nat.le_refl _)] at htk hkk
            refine JC.exit ?_
            refine JX.thenE ?_
            refine JX.thenE ?_
            refine JX.blockE ?_
            refine JX.thenN (hK11 _ _ ?_)
            refine JC.seq (fun K18 hK18 => ?_)
            refine JC.region ?_
            refine J.move rfl rfl ?_
            refine J.move rfl rfl ?_
            obtain ⟨oo, hoo, hoz⟩ : ∃ oo, (if cap = k then some (⟨q, 0, none⟩ : Addr) else (some (⟨q, 0, none⟩ : Addr)).map (·.add (k * 16))) = some ⟨q, oo, none⟩ ∧ (xs.length - k = 0 ∨ oo = k * 16) := by
              by_cases hci : cap = k
              · exact ⟨0, by rw [if_pos hci], .inl (by omega)⟩
              · exact ⟨k * 16, by rw [if_neg hci]; simp [Addr.add]; omega, .inr rfl⟩
            refine J.sliceS Ty.el24 Ty.s23 rfl rfl rfl rfl rfl (by omega) (by omega) (by omega) rfl ?_
            refine J.name 56 rfl (show _ = Value.slice (some ⟨q, oo, none⟩) (xs.length - k) (cap - k) by rw [← hoo]; rfl) ?_
            have hfz := fI_length zs
            obtain ⟨sp2, hc1, hc2⟩ := clear_end (sp := sp) (Z := (Builtin.zeroCells (cI zI).toArray (xs.length - k)).toList) hzl htk (by omega) (by rw [zeroCells_length]; rfl) hoz
            refine J.clear (cs := fI zs ++ sp) (sz := 16) rfl Ty.el24 Ty.zID rfl (by decide) (fun u hu => fI_one (xs := [zI]) (List.mem_append_left [] hu)) rfl .here (by simp only [List.length_append]; rcases hoz with h | h <;> omega) ?_
            refine J.conseq (I' := St w [q] [(q, cb (fI (dedI xs) ++ sp2) 23)]) ?_ (fun w1 hw => by rw [← hc1]; exact hw)
            refine J.nil ?_
            refine JX.thenN (hK18 _ _ ?_)
            refine JC.seq (fun K19 hK19 => ?_)
            refine JC.region ?_
            refine J.move rfl rfl ?_
            refine J.move rfl rfl ?_
            refine J.sliceS Ty.el24 Ty.s23 rfl rfl rfl rfl rfl (by omega) (by omega) (by omega) rfl ?_
            refine J.name 59 rfl (show _ = Value.slice (some ⟨q, 0, none⟩) (dedI xs).length cap by rw [← hkk]; split <;> simp [Addr.add]) ?_
            refine J.assign rfl rfl ?_
            refine J.nil ?_
            refine JX.thenN (hK19 _ _ ?_)
            refine JC.ret ?_
            refine JX.blockR ?_
            refine JX.thenR ?_
            refine JX.thenR ?_
            refine JX.blockR ?_
            refine JX.thenR ?_
            refine JX.ret1 rfl rfl (fun w hw => ?_)
            first | exact ⟨sp, by rw [hxs], by rw [hxs]; exact hsz, by rw [hxs]; exact hw⟩ | exact ⟨sp2, rfl, by rw [hc2, List.length_append, hfz, hzl, ← fI_length xs, ← List.length_append]; exact hsz, hw⟩
        · skip
          have hnext : dedI (xs.take (k + 1)) = xs.take (k + 1) := by
            obtain ⟨j, rfl⟩ : ∃ j, k = j + 1 := ⟨k - 1, by omega⟩
            rw [dedI_new hlt (by simpa using h2), hpre, ← take_add_one hlt]
          refine JC.skip ?_
          refine JX.blockN ?_
          refine JX.thenN (hK8 _ _ ?_)
          refine JC.region ?_
          refine J.move rfl rfl ?_
          (first | refine J.addN rfl rfl (by omega) (by omega) rfl ?_ | refine J.bin rfl rfl rfl rfl ?_)
          refine J.assign rfl rfl ?_
          refine J.nil ?_
          refine JX.thenN ?_
          refine JX.again (k + 1) ?_ ?_ ?_
          · omega
          · exact ⟨rfl, rfl, trivial⟩
          · exact fun w1 hw => ⟨⟨by omega, hlt, hnext⟩, hw⟩
    · skip
      have hge : k = xs.length := by simp at h1; omega
      have hxs : dedI xs = xs := by rw [hge, List.take_of_length_le (Nat.le_refl _)] at hpre; exact hpre
      refine JC.exit ?_
      refine JX.thenE ?_
      refine JX.thenE ?_
      refine JX.blockE ?_
      refine JX.thenN (hK4 _ _ ?_)
      refine JC.seq (fun K20 hK20 => ?_)
      refine JC.region ?_
      refine J.move rfl rfl ?_
      refine J.assign rfl rfl ?_
      refine J.nil ?_
      refine JX.thenN (hK20 _ _ ?_)
      refine JC.ret ?_
      refine JX.ret1 rfl rfl (fun w hw => ?_)
      first | exact ⟨sp, by rw [hxs], by rw [hxs]; exact hsz, by rw [hxs]; exact hw⟩ | exact ⟨sp2, rfl, by rw [hc2, List.length_append, hfz, hzl, ← fI_length xs, ← List.length_append]; exact hsz, hw⟩

end Go.Proofs.Ytbafhclandendaa
/-
  Rising rows of identities; and the contracts of DeleteFunc, SortFunc and Compact for nil slices too.
-/
namespace Go.Proofs.Ytbafhclandendaa
open Go.J Go.RowKit
set_option linter.unusedVariables false
set_option linter.unusedSimpArgs false
set_option maxRecDepth 4000
/-- rising -/
def Asc (l : List IDV) : Prop := l.Pairwise (fun a b => valI a < valI b)
theorem asc_ext : ∀ {l m : List IDV}, Asc l → Asc m → (∀ x, x ∈ l ↔ x ∈ m) → l = m
  | [], [], _, _, _ => rfl
  | [], y :: m, _, _, h => by have := (h y).2 (.head _); cases this
  | x :: l, [], _, _, h => by have := (h x).1 (.head _); cases this
  | x :: l, y :: m, hl, hm, h => by
    have hl' := List.pairwise_cons.1 hl
    have hm' := List.pairwise_cons.1 hm
    have hxy : x = y := by
      have h1 := (h x).1 (.head _)
      have h2 := (h y).2 (.head _)
      rcases List.mem_cons.1 h1 with e | h1
      · exact e
      rcases List.mem_cons.1 h2 with e | h2
      · exact e.symm
      have := hl'.1 y h2
      have := hm'.1 x h1
      omega
    subst hxy
    rw [asc_ext hl'.2 hm'.2 fun z => ?_]
    constructor
    · intro hz
      rcases List.mem_cons.1 ((h z).1 (.tail _ hz)) with e | h1
      · have := hl'.1 z hz; rw [e] at this; omega
      · exact h1
    · intro hz
      rcases List.mem_cons.1 ((h z).2 (.tail _ hz)) with e | h1
      · have := hm'.1 z hz; rw [e] at this; omega
      · exact h1
theorem asc_nodup {l : List IDV} (h : Asc l) : l.Nodup := h.imp fun {a b} hab e => by subst e; omega
theorem asc_last {l : List IDV} {x : IDV} (h : Asc l) (hx : x ∈ l) (hle : ∀ a, a ∈ l → valI a ≤ valI x) : l.getLast? = some x := by
  rcases List.eq_nil_or_concat l with rfl | ⟨i, z, rfl⟩
  · cases hx
  · simp only [List.concat_eq_append] at *
    rw [List.getLast?_concat]
    have hp := List.pairwise_append.1 h
    rcases List.mem_append.1 hx with hi | hz
    · have h1 := hp.2.2 x hi z (.head _)
      have h2 := hle z (by simp)
      omega
    · simp only [List.mem_singleton] at hz
      rw [hz]
theorem stepI_asc {acc : List IDV} {x : IDV} (h : Asc acc) (hle : ∀ a, a ∈ acc → valI a ≤ valI x) : Asc (stepI acc x) ∧ ∀ z, z ∈ stepI acc x ↔ z ∈ acc ∨ z = x := by
  unfold stepI
  split
  · rename_i hl
    have hx : x ∈ acc := List.mem_of_getLast? hl
    exact ⟨h, fun z => ⟨.inl, fun hz => by rcases hz with hz | rfl <;> assumption⟩⟩
  · rename_i hl
    refine ⟨List.pairwise_append.2 ⟨h, List.pairwise_singleton _ _, fun a ha b hb => ?_⟩, fun z => by simp⟩
    simp only [List.mem_singleton] at hb
    subst hb
    have h1 := hle a ha
    rcases Nat.lt_or_ge (valI a) (valI b) with h2 | h2
    · exact h2
    · have : a = b := valI_inj (by omega)
      subst this
      exact absurd (asc_last h ha hle) hl
set_option maxHeartbeats 1000000 in
theorem foldl_stepI : ∀ {ys acc : List IDV}, Asc acc → ys.Pairwise (fun a b => valI a ≤ valI b) → (∀ a, a ∈ acc → ∀ y, y ∈ ys → valI a ≤ valI y) → Asc (ys.foldl stepI acc) ∧ ∀ z, z ∈ ys.foldl stepI acc ↔ z ∈ acc ∨ z ∈ ys
  | [], acc, h, _, _ => ⟨h, fun z => by simp⟩
  | y :: ys, acc, h, hp, hle => by
    have hp' := List.pairwise_cons.1 hp
    obtain ⟨h1, h2⟩ := stepI_asc (x := y) h (fun a ha => hle a ha y (.head _))
    obtain ⟨h3, h4⟩ := foldl_stepI (ys := ys) h1 hp'.2 (fun a ha z hz => by
      rcases (h2 a).1 ha with ha | rfl
      · exact hle a ha z (.tail _ hz)
      · exact hp'.1 z hz)
    refine ⟨h3, fun z => ?_⟩
    rw [List.foldl_cons, h4, h2, List.mem_cons, or_assoc]
theorem dedI_asc {ys : List IDV} (h : ys.Pairwise (fun a b => valI a ≤ valI b)) : Asc (dedI ys) ∧ ∀ z, z ∈ dedI ys ↔ z ∈ ys := by
  obtain ⟨h1, h2⟩ := foldl_stepI (ys := ys) (acc := []) .nil h (fun a ha => by cases ha)
  exact ⟨h1, fun z => by rw [dedI, h2]; simp⟩
/-- where it belongs -/
def posI (l : List IDV) (x : IDV) : Nat := (l.takeWhile (fun y => decide (valI y < valI x))).length
def insI (l : List IDV) (x : IDV) : List IDV := l.take (posI l x) ++ x :: l.drop (posI l x)
def stepS (me : IDV) (acc : List IDV) (x : IDV) : List IDV := if x = me ∨ x ∈ acc then acc else insI acc x
/-- sorted, each once, without one -/
def sortI (xs : List IDV) (me : IDV) : List IDV := xs.foldl (stepS me) []
theorem take_length_takeWhile {α : Type} (p : α → Bool) : ∀ l : List α, l.take (l.takeWhile p).length = l.takeWhile p
  | [] => rfl
  | x :: l => by
    by_cases h : p x <;> simp [h, take_length_takeWhile p l]
theorem drop_length_takeWhile {α : Type} (p : α → Bool) : ∀ l : List α, l.drop (l.takeWhile p).length = l.dropWhile p
  | [] => rfl
  | x :: l => by
    by_cases h : p x <;> simp [h, drop_length_takeWhile p l]
theorem takeWhile_all {α : Type} {p : α → Bool} : ∀ {l : List α} {x : α}, x ∈ l.takeWhile p → p x = true
  | y :: l, x, h => by
    by_cases hy : p y
    · rw [List.takeWhile_cons_of_pos hy] at h
      rcases List.mem_cons.1 h with rfl | h
      · exact hy
      · exact takeWhile_all h
    · rw [List.takeWhile_cons_of_neg hy] at h; cases h
theorem dropWhile_asc : ∀ {l : List IDV} {x : IDV}, Asc l → x ∉ l → ∀ y, y ∈ l.dropWhile (fun y => decide (valI y < valI x)) → valI x < valI y
  | z :: l, x, h, hx, y, hy => by
    have h' := List.pairwise_cons.1 h
    by_cases hz : valI z < valI x
    · rw [List.dropWhile_cons_of_pos (by simpa using hz)] at hy
      exact dropWhile_asc h'.2 (fun hm => hx (.tail _ hm)) y hy
    · rw [List.dropWhile_cons_of_neg (by simpa using hz)] at hy
      have hne : valI z ≠ valI x := fun e => hx (by rw [← valI_inj e]; exact .head _)
      rcases List.mem_cons.1 hy with rfl | hy
      · omega
      · have := h'.1 y hy; omega
theorem insI_asc {l : List IDV} {x : IDV} (h : Asc l) (hx : x ∉ l) : Asc (insI l x) ∧ ∀ z, z ∈ insI l x ↔ z ∈ l ∨ z = x := by
  unfold insI posI
  rw [take_length_takeWhile, drop_length_takeWhile]
  have hsplit : l = l.takeWhile (fun y => decide (valI y < valI x)) ++ l.dropWhile (fun y => decide (valI y < valI x)) := (List.takeWhile_append_dropWhile).symm
  have hp : Asc (l.takeWhile (fun y => decide (valI y < valI x)) ++ l.dropWhile (fun y => decide (valI y < valI x))) := by rw [← hsplit]; exact h
  have hp' := List.pairwise_append.1 hp
  have hd := dropWhile_asc h hx
  refine ⟨List.pairwise_append.2 ⟨hp'.1, List.pairwise_cons.2 ⟨hd, hp'.2.1⟩, fun a ha b hb => ?_⟩, fun z => ?_⟩
  · have h1 : valI a < valI x := by simpa using takeWhile_all ha
    rcases List.mem_cons.1 hb with rfl | hb
    · exact h1
    · have := hd b hb; omega
  · conv => rhs; rw [hsplit]
    simp only [List.mem_append, List.mem_cons]
    constructor
    · rintro (h | h | h)
      · exact .inl (.inl h)
      · exact .inr h
      · exact .inl (.inr h)
    · rintro ((h | h) | h)
      · exact .inl h
      · exact .inr (.inr h)
      · exact .inr (.inl h)
theorem foldl_stepS (me : IDV) : ∀ {xs acc : List IDV}, Asc acc → me ∉ acc → Asc (xs.foldl (stepS me) acc) ∧ ∀ z, z ∈ xs.foldl (stepS me) acc ↔ z ∈ acc ∨ (z ∈ xs ∧ z ≠ me)
  | [], acc, h, _ => ⟨h, fun z => by simp⟩
  | x :: xs, acc, h, hm => by
    have h1 : Asc (stepS me acc x) ∧ ∀ z, z ∈ stepS me acc x ↔ z ∈ acc ∨ (z = x ∧ z ≠ me) := by
      unfold stepS
      split
      · rename_i hc
        refine ⟨h, fun z => ⟨.inl, fun hz => ?_⟩⟩
        rcases hz with hz | ⟨rfl, hz⟩
        · exact hz
        · rcases hc with e | hc
          · exact absurd e hz
          · exact hc
      · rename_i hc
        have hx : x ≠ me ∧ x ∉ acc := ⟨fun e => hc (.inl e), fun e => hc (.inr e)⟩
        obtain ⟨h1, h2⟩ := insI_asc h hx.2
        refine ⟨h1, fun z => (h2 z).trans ?_⟩
        constructor
        · rintro (h | rfl)
          · exact .inl h
          · exact .inr ⟨rfl, hx.1⟩
        · rintro (h | h)
          · exact .inl h
          · exact .inr h.1
    obtain ⟨h3, h4⟩ := foldl_stepS me (xs := xs) h1.1 (fun e => by
      rcases (h1.2 me).1 e with e | e
      · exact hm e
      · exact e.2 rfl)
    refine ⟨h3, fun z => ?_⟩
    rw [List.foldl_cons, h4, h1.2, List.mem_cons, or_assoc]
    refine or_congr_right ⟨?_, ?_⟩
    · rintro (h | h)
      · exact ⟨.inl h.1, h.2⟩
      · exact ⟨.inr h.1, h.2⟩
    · rintro ⟨h | h, h2⟩
      · exact .inl ⟨h, h2⟩
      · exact .inr ⟨h, h2⟩
theorem sortI_asc (xs : List IDV) (me : IDV) : Asc (sortI xs me) := (foldl_stepS me .nil (fun h => by cases h)).1
theorem sortI_mem (xs : List IDV) (me z : IDV) : z ∈ sortI xs me ↔ z ∈ xs ∧ z ≠ me := ((foldl_stepS me .nil (fun h => by cases h)).2 z).trans (by simp)
theorem sortI_of {xs l : List IDV} {me : IDV} (h : Asc l) (hm : ∀ z, z ∈ l ↔ z ∈ xs ∧ z ≠ me) : l = sortI xs me := asc_ext h (sortI_asc xs me) fun z => by rw [hm, sortI_mem]
theorem sortI_of_steps {xs ys : List IDV} {me : IDV} (hp : ys.Perm (delI xs me)) (hs : ys.Pairwise (fun a b => valI a ≤ valI b)) : dedI ys = sortI xs me := by
  obtain ⟨h1, h2⟩ := dedI_asc hs
  refine sortI_of h1 fun z => ?_
  rw [h2, hp.mem_iff, delI, List.mem_filter]
  simp
theorem foldl_stepS_le (me : IDV) : ∀ (xs acc : List IDV), (xs.foldl (stepS me) acc).length ≤ acc.length + xs.length
  | [], acc => by simp
  | x :: xs, acc => by
    have h := foldl_stepS_le me xs (stepS me acc x)
    have h2 : (stepS me acc x).length ≤ acc.length + 1 := by
      unfold stepS
      split
      · omega
      · unfold insI
        rw [List.length_append, List.length_cons, List.length_take, List.length_drop]
        omega
    rw [List.foldl_cons, List.length_cons]
    omega
theorem sortI_le (xs : List IDV) (me : IDV) : (sortI xs me).length ≤ xs.length := by
  have := foldl_stepS_le me xs []
  simpa [sortI] using this

end Go.Proofs.Ytbafhclandendaa
/-
  Clone, DeleteFunc, SortFunc and Compact at rows that are nil or not; ring.Sorted: contracts.
-/
namespace Go.Proofs.Ytbafhclandendaa
open Go.J Go.RowKit
set_option linter.unusedVariables false
set_option linter.unusedSimpArgs false
set_option maxRecDepth 4000
theorem vecI {v : Value} {xs : List IDV} {lp : List (Nat × Obj)} (h : Vec 23 16 v xs.length (fI xs) lp) : (v = .slice none 0 0 ∧ xs = [] ∧ lp = []) ∨ ∃ b c sp, v = .slice (some ⟨b, 0, none⟩) xs.length c ∧ lp = [(b, cb (fI xs ++ sp) 23)] ∧ (fI xs ++ sp).length = c * 16 ∧ xs.length ≤ c := by
  rcases h.2 with ⟨h1, h2, h3⟩ | h
  · exact .inl ⟨h1, List.eq_nil_of_length_eq_zero h2, h3⟩
  · exact .inr h
theorem vecI_mk {xs : List IDV} {b c : Nat} {sp : List Value} (h1 : (fI xs ++ sp).length = c * 16) : Vec 23 16 (.slice (some ⟨b, 0, none⟩) xs.length c) xs.length (fI xs) [(b, cb (fI xs ++ sp) 23)] := by
  refine ⟨fI_length xs, .inr ⟨b, c, sp, rfl, rfl, h1, ?_⟩⟩
  rw [List.length_append, fI_length] at h1
  omega
theorem clone_spec (v : Value) (xs : List IDV) (w : World) (hr : Row w v xs.length (fI xs)) (hl : xs.length ≤ 8796093022208) :
    Calls Try.prog 48 [v].toArray w fun r w' => ∃ x : Value × List (Nat × Obj), r = .returned x.1 ∧ Vec 23 16 x.1 xs.length (fI xs) x.2 ∧ St w [] x.2 w' := by
  obtain ⟨a, c, rfl, hc, h⟩ := id hr
  cases a with
  | none =>
    have hx : fI xs = [] := by
      rcases h with h | ⟨b, o, h, _⟩
      · exact h
      · cases h
    have hx0 : xs.length = 0 := by have := fI_length xs; rw [hx] at this; simp at this; omega
    have hx1 := List.eq_nil_of_length_eq_zero hx0
    subst hx1
    refine (clone_nil _ c w).mono fun r w' ⟨h1, h2⟩ => ⟨(.slice none 0 0, []), h1, Vec.nil _ _, (St.start w).step h2⟩
  | some a => exact (clone_some a c xs w hr hl).mono fun r w' ⟨x, h1, h2, h3⟩ => ⟨x, h1, h2.2, h3⟩

theorem deleteFunc_nil (s : Nat) (self : IDV) (w : World) (hw0 : Own w [(s, cb (cI self) 23)]) :
    Calls Try.prog 62 [.slice none 0 0, .func (.func 63) #[] #[.pointer (some ⟨s, 0, none⟩)]].toArray w fun r w' => r = .returned (.slice none 0 0) ∧ Bel w w' := by
  refine calls_of_J (args := [.slice none 0 0, .func (.func 63) #[] #[.pointer (some ⟨s, 0, none⟩)]]) (e := [(0, .slice none 0 0), (1, .func (.func 63) #[] #[.pointer (some ⟨s, 0, none⟩)])]) Try.func62 rfl rfl ⟨rfl, rfl, trivial⟩ (hw0.st) ?_
  refine JC.seq (fun K0 hK0 => ?_)
  refine JC.region ?_
  refine J.assign rfl rfl ?_
  refine J.nil ?_
  refine JX.thenN (hK0 _ _ ?_)
  refine JC.seq (fun K1 hK1 => ?_)
  refine JC.region ?_
  refine J.move rfl rfl ?_
  refine J.move rfl rfl ?_
  refine J.callB (v := .int .i64 (placeI [] self)) (fun w1 w2 hw hb => hw.step hb) Ty.bd77 rfl rfl (fun w1 hw => indexFunc_spec _ [] s self w1 hw.owns' (Vec.nil 23 16 |>.row (l := []) (w0 := w1) (S := []) (St.start w1)) (.inl rfl) (by decide)) ?_
  refine J.assign rfl rfl ?_
  refine J.nil ?_
  refine JX.thenN (hK1 _ _ ?_)
  refine JC.seq (fun K2 hK2 => ?_)
  refine JC.seq (fun K3 hK3 => ?_)
  refine JC.region ?_
  refine J.move rfl rfl ?_
  refine J.bin rfl rfl rfl rfl ?_
  refine J.nil ?_
  refine JX.thenN (hK3 _ _ ?_)
  first | refine JC.condT rfl ?_ | refine JC.cond rfl (fun _ => ?_) (fun h => by first | (exfalso; simp at h; omega) | (simp at h))
  refine JC.seq (fun K4 hK4 => ?_)
  refine JC.region ?_
  refine J.move rfl rfl ?_
  refine J.assign rfl rfl ?_
  refine J.nil ?_
  refine JX.thenN (hK4 _ _ ?_)
  refine JC.ret ?_
  refine JX.thenR ?_
  refine JX.ret1 rfl rfl (fun w hw => ?_)
  exact ⟨rfl, hw.same hw0 (fun p hp => by simp at hp ⊢; subst hp; simp)⟩

theorem compact_nil (w : World) :
    Calls Try.prog 66 [.slice none 0 0].toArray w fun r w' => r = .returned (.slice none 0 0) ∧ Bel w w' := by
  refine calls_of_J (args := [.slice none 0 0]) (e := [(0, .slice none 0 0)]) Try.func66 rfl rfl ⟨rfl, trivial⟩ (St.start w) ?_
  refine JC.seq (fun K0 hK0 => ?_)
  refine JC.region ?_
  refine J.assign rfl rfl ?_
  refine J.nil ?_
  refine JX.thenN (hK0 _ _ ?_)
  refine JC.seq (fun K1 hK1 => ?_)
  refine JC.seq (fun K2 hK2 => ?_)
  refine JC.region ?_
  refine J.move rfl rfl ?_
  refine J.lenS rfl Ty.u24 rfl rfl ?_
  refine J.bin rfl rfl rfl rfl ?_
  refine J.nil ?_
  refine JX.thenN (hK2 _ _ ?_)
  first | refine JC.condT rfl ?_ | refine JC.cond rfl (fun _ => ?_) (fun h => by first | (exfalso; simp at h; omega) | (simp at h))
  refine JC.seq (fun K3 hK3 => ?_)
  refine JC.region ?_
  refine J.move rfl rfl ?_
  refine J.assign rfl rfl ?_
  refine J.nil ?_
  refine JX.thenN (hK3 _ _ ?_)
  refine JC.ret ?_
  refine JX.thenR ?_
  refine JX.ret1 rfl rfl (fun w hw => ?_)
  exact ⟨rfl, hw.below⟩


theorem deleteFunc_vec (v : Value) (xs : List IDV) (lp : List (Nat × Obj)) (s : Nat) (self : IDV) (w : World) (hv : Vec 23 16 v (xs).length (fI (xs)) lp) (hw0 : Own w (lp ++ [(s, cb (cI self) 23)])) (hl : xs.length < 4611686018427387904) :
    Calls Try.prog 62 [v, .func (.func 63) #[] #[.pointer (some ⟨s, 0, none⟩)]].toArray w fun r w' => ∃ x : Value × List (Nat × Obj), r = .returned x.1 ∧ Vec 23 16 x.1 (delI xs self).length (fI (delI xs self)) x.2 ∧ St w ((lp ++ [(s, cb (cI self) 23)]).map (·.1)) (x.2 ++ [(s, cb (cI self) 23)]) w' := by
  rcases vecI hv with ⟨rfl, rfl, rfl⟩ | ⟨b, c, sp, rfl, rfl, h1, h2⟩
  · exact (deleteFunc_nil s self w hw0).mono fun r w' ⟨h1, h2⟩ => ⟨(.slice none 0 0, []), h1, Vec.nil _ _, hw0.keep h2⟩
  · exact (deleteFunc_spec b s c xs sp self w hw0 h2 h1 hl).mono fun r w' ⟨sp', h3, h4, h5⟩ => ⟨(_, [_]), h3, vecI_mk h4, h5⟩
theorem sort_vec (g : Nat) (cbv : Array Value) (f : IDV → Nat) (hf : ∀ a b, f a = f b → a = b) (hg : bodyT Try.prog g = true) (v : Value) (xs : List IDV) (lp l : List (Nat × Obj)) (w : World) (hv : Vec 23 16 v (xs).length (fI (xs)) lp) (hw0 : Own w (lp ++ l)) (hlen : xs.length < 4611686018427387904)
    (hc : ∀ (a b : IDV) (W : World), Own W l → Calls Try.prog g (#[.agg (cI a).toArray, .agg (cI b).toArray] ++ cbv) W fun r W' => r = .returned (.int .i64 (cfN f a b)) ∧ Bel W W') :
    Calls Try.prog 64 [v, .func (.func g) #[] cbv].toArray w fun r w' => ∃ x : List IDV × List (Nat × Obj), r = .returned (.tuple #[]) ∧ (x.1.Perm xs ∧ x.1.Pairwise (fun a b => f a ≤ f b) ∧ Vec 23 16 v x.1.length (fI x.1) x.2) ∧ St w (lp.map (·.1)) x.2 w' := by
  rcases vecI hv with ⟨rfl, rfl, rfl⟩ | ⟨b, c, sp, rfl, rfl, h1, h2⟩
  · exact (AnyF.slices_SortFunc_none Try.sortI none 0 _ w).mono fun r w' ⟨h1, h2⟩ => ⟨([], []), h1, ⟨.refl _, .nil, Vec.nil _ _⟩, by rw [h2]; exact St.start w⟩
  · refine (sort_spec g cbv f hf hg b xs sp c l w hw0 hlen hc).mono fun r w' ⟨ys, h3, h4, h5⟩ => ?_
    have hl := h4.1.length_eq
    refine ⟨(ys, [_]), h3, ⟨h4.1, h4.2, ?_⟩, h5⟩
    have := vecI_mk (xs := ys) (b := b) (c := c) (sp := sp) (by rw [List.length_append, fI_length, hl, ← fI_length, ← List.length_append]; exact h1)
    rw [hl] at this ⊢
    exact this
theorem compact_vec (v : Value) (xs : List IDV) (lp : List (Nat × Obj)) (w : World) (hv : Vec 23 16 v (xs).length (fI (xs)) lp) (hw0 : Own w lp) (hl : xs.length < 4611686018427387904) :
    Calls Try.prog 66 [v].toArray w fun r w' => ∃ x : Value × List (Nat × Obj), r = .returned x.1 ∧ Vec 23 16 x.1 (dedI xs).length (fI (dedI xs)) x.2 ∧ St w (lp.map (·.1)) x.2 w' := by
  rcases vecI hv with ⟨rfl, rfl, rfl⟩ | ⟨b, c, sp, rfl, rfl, h1, h2⟩
  · exact (compact_nil w).mono fun r w' ⟨h1, h2⟩ => ⟨(.slice none 0 0, []), h1, Vec.nil _ _, (St.start w).step h2⟩
  · exact (compact_spec b c xs sp w hw0 h2 h1 hl).mono fun r w' ⟨sp', h3, h4, h5⟩ => ⟨(_, [_]), h3, vecI_mk h4, h5⟩
theorem cmpI_cfN (a b : IDV) : cmpI a b = cfN valI a b := rfl

theorem sorted_spec (self : IDV) (v : Value) (xs : List IDV) (w : World) (hr : Row w v xs.length (fI xs)) (hl : xs.length ≤ 8796093022208) :
    Calls Try.prog 43 [.agg (cI self).toArray, v].toArray w fun r w' => ∃ x : Value × List (Nat × Obj), r = .returned x.1 ∧ Vec 23 16 x.1 (sortI xs self).length (fI (sortI xs self)) x.2 ∧ St w [] x.2 w' := by
  refine calls_of_J (args := [.agg (cI self).toArray, v]) (e := [(0, .agg (cI self).toArray), (1, v)]) Try.func43 rfl rfl ⟨rfl, rfl, trivial⟩ (St.start w) ?_
  refine JC.seq (fun K0 hK0 => ?_)
  refine JC.region ?_
  refine J.box rfl rfl rfl (fun b2 => ?_)
  refine J.assign rfl rfl ?_
  refine J.nil ?_
  refine JX.thenN (hK0 _ _ ?_)
  refine JC.seq (fun K1 hK1 => ?_)
  refine JC.region ?_
  refine J.move rfl rfl ?_
  refine J.callS (α := Value × List (Nat × Obj)) (V := (·.1)) (Pr := fun x => Vec 23 16 x.1 (xs).length (fI (xs)) x.2) (L := (·.2)) (l1 := []) (l := [(b2, cb (cI self) 23)]) Ty.bd48 rfl rfl (fun w1 hw => clone_spec v xs w1 (hr.st (.inr (by simp)) hw) hl) (fun x hx => ?_)
  obtain ⟨vc, lc⟩ := x
  simp only at hx ⊢
  refine J.makeFn rfl rfl ?_
  refine J.perm ((lc ++ [(b2, cb (cI self) 23)]) ++ []) (by simp) ?_
  refine J.callS (α := Value × List (Nat × Obj)) (V := (·.1)) (Pr := fun x => Vec 23 16 x.1 (delI xs self).length (fI (delI xs self)) x.2) (L := fun x => x.2 ++ [(b2, cb (cI self) 23)]) (l1 := lc ++ [(b2, cb (cI self) 23)]) (l := []) Ty.bd62 rfl rfl (fun w1 hw => deleteFunc_vec vc xs lc b2 self w1 hx hw.owns (by omega)) (fun x hd => ?_)
  obtain ⟨vd, ld⟩ := x
  simp only at hd ⊢
  refine J.perm (ld ++ [(b2, cb (cI self) 23)]) (by simp) ?_
  refine J.assign rfl rfl ?_
  refine J.nil ?_
  refine JX.thenN (hK1 _ _ ?_)
  refine JC.seq (fun K2 hK2 => ?_)
  refine JC.region ?_
  refine J.move rfl rfl ?_
  have hdl := delI_le xs self
  refine J.callS (α := List IDV × List (Nat × Obj)) (V := fun _ => .tuple #[]) (Pr := fun x => x.1.Perm (delI xs self) ∧ x.1.Pairwise (fun a b => valI a ≤ valI b) ∧ Vec 23 16 vd x.1.length (fI x.1) x.2) (L := (·.2)) (l1 := ld) (l := [(b2, cb (cI self) 23)]) Ty.bd64 rfl rfl (fun w1 hw => sort_vec 65 #[] valI (fun _ _ h => valI_inj h) Ty.bd65 vd (delI xs self) ld [] w1 hd (by simpa using hw.owns) (by omega) (fun a b W _ => by simpa [cmpI_cfN] using compare_spec a b W)) (fun x hs => ?_)
  obtain ⟨ys, ls⟩ := x
  simp only at hs ⊢
  obtain ⟨hp, hs, hvs⟩ := hs
  have hyl := hp.length_eq
  refine J.nil ?_
  refine JX.thenN (hK2 _ _ ?_)
  refine JC.seq (fun K3 hK3 => ?_)
  refine JC.region ?_
  refine J.move rfl rfl ?_
  refine J.callS (α := Value × List (Nat × Obj)) (V := (·.1)) (Pr := fun x => Vec 23 16 x.1 (dedI ys).length (fI (dedI ys)) x.2) (L := (·.2)) (l1 := ls) (l := [(b2, cb (cI self) 23)]) Ty.bd66 rfl rfl (fun w1 hw => compact_vec vd ys ls w1 hvs hw.owns (by omega)) (fun x hd2 => ?_)
  obtain ⟨ve, le⟩ := x
  simp only at hd2 ⊢
  rw [sortI_of_steps hp hs] at hd2
  have hsl := sortI_le xs self
  refine J.append (lp := []) (xs := []) (ys := fI (sortI xs self)) (k := 0) (m := (sortI xs self).length) Ty.el24 Ty.s23 Ty.b23 Ty.zID rfl (.inl ⟨23, Ty.u24⟩) rfl rfl (Vec.nil _ _) (fun w1 hw => .inl (hd2.row hw)) (fI_length _) (fun y hy => fI_one hy) (by omega) (by omega) rfl (fun v7 lp7 hv7 => ?_)
  rw [Nat.zero_add, List.nil_append] at hv7
  refine J.assign rfl rfl ?_
  refine J.nil ?_
  refine JX.thenN (hK3 _ _ ?_)
  refine JC.ret ?_
  refine JX.ret1 rfl rfl (fun w hw => ?_)
  exact ⟨(v7, lp7), rfl, hv7, hw.drop (List.sublist_append_left _ _)⟩

end Go.Proofs.Ytbafhclandendaa
/-
  The order clockwise from a place; MinFunc: contracts.
-/
namespace Go.Proofs.Ytbafhclandendaa
open Go.J Go.RowKit
set_option linter.unusedVariables false
set_option linter.unusedSimpArgs false
set_option maxRecDepth 4000
/-- how far clockwise behind a place -/
noncomputable def dI (me x : IDV) : Nat := valI (subI x me)
theorem dI_inj {me a b : IDV} (h : dI me a = dI me b) : a = b := by
  unfold dI at h
  rw [valI_subI, valI_subI] at h
  have h1 := valI_lt a
  have h2 := valI_lt b
  have h3 := valI_lt me
  exact valI_inj (by omega)

theorem want1_spec (s : Nat) (self a b : IDV) (w : World) (hw0 : Own w [(s, cb (cI self) 23)]) :
    Calls Try.prog 69 [.agg (cI a).toArray, .agg (cI b).toArray, .pointer (some ⟨s, 0, none⟩)].toArray w fun r w' => r = .returned (.int .i64 (cfN (dI self) a b)) ∧ Bel w w' := by
  refine calls_of_J (args := [.agg (cI a).toArray, .agg (cI b).toArray, .pointer (some ⟨s, 0, none⟩)]) (e := [(0, .agg (cI a).toArray), (1, .agg (cI b).toArray), (2, .pointer (some ⟨s, 0, none⟩))]) Try.func69 rfl rfl ⟨rfl, rfl, rfl, trivial⟩ (hw0.st) ?_
  refine JC.seq (fun K0 hK0 => ?_)
  refine JC.region ?_
  refine J.box rfl rfl rfl (fun b3 => ?_)
  refine J.box rfl rfl rfl (fun b4 => ?_)
  refine J.assign rfl rfl ?_
  refine J.nil ?_
  refine JX.thenN (hK0 _ _ ?_)
  refine JC.seq (fun K1 hK1 => ?_)
  apply JC.drawL 7 [Eqv (.agg (cI a).toArray), Eqv (.agg (cI self).toArray), Eqv (.agg (cI (subI a self)).toArray), Eqv (.agg (cI b).toArray), Eqv (.agg (cI self).toArray), Eqv (.agg (cI (subI b self)).toArray), Eqv (.int .i64 (cfN (dI self) a b))] Ty.mixed rfl rfl rfl (by kernel_rfl) rfl rfl (fun w w' hw hb => hw.step hb) ⟨fun _ _ _ h _ => h, fun _ _ _ h _ => h, fun _ _ _ h _ => h, fun _ _ _ h _ => h, fun _ _ _ h _ => h, fun _ _ _ h _ => h, fun _ _ _ h _ => h, trivial⟩ ?hstep ?htail
  case hstep =>
    refine ⟨fun wi => ?_, fun wi => ?_, fun wi => ?_, fun wi => ?_, fun wi => ?_, fun wi => ?_, fun wi => ?_, trivial⟩
    · skip
      refine Fin.nil ?_
      refine J.loadA (vs := cI a) Ty.a23 Ty.s23 rfl rfl (fun w hw => Cells.of_block (hw.2.own (_, _) (by repeat first | exact .head _ | apply List.Mem.tail | apply List.mem_append_right)) (by exact rfl)) rfl ?_
      exact J.finP rfl
    · skip
      refine Fin.nil ?_
      refine J.loadA (vs := cI self) Ty.a23 Ty.s23 rfl rfl (fun w hw => Cells.of_block (hw.2.own (_, _) (by repeat first | exact .head _ | apply List.Mem.tail | apply List.mem_append_right)) (by exact rfl)) rfl ?_
      exact J.finP rfl
    · skip
      refine Fin.consE rfl (Fin.consE rfl (Fin.nil ?_))
      refine J.callD (v := .agg (cI (subI a self)).toArray) Ty.bd70 rfl rfl (fun w1 hw => sub_spec a self w1) ?_
      exact J.finQ rfl
    · skip
      refine Fin.nil ?_
      refine J.loadA (vs := cI b) Ty.a23 Ty.s23 rfl rfl (fun w hw => Cells.of_block (hw.2.own (_, _) (by repeat first | exact .head _ | apply List.Mem.tail | apply List.mem_append_right)) (by exact rfl)) rfl ?_
      exact J.finP rfl
    · skip
      refine Fin.nil ?_
      refine J.loadA (vs := cI self) Ty.a23 Ty.s23 rfl rfl (fun w hw => Cells.of_block (hw.2.own (_, _) (by repeat first | exact .head _ | apply List.Mem.tail | apply List.mem_append_right)) (by exact rfl)) rfl ?_
      exact J.finP rfl
    · skip
      refine Fin.consE rfl (Fin.consE rfl (Fin.consE rfl (Fin.nil ?_)))
      refine J.callD (v := .agg (cI (subI b self)).toArray) Ty.bd70 rfl rfl (fun w1 hw => sub_spec b self w1) ?_
      exact J.finQ rfl
    · skip
      refine Fin.consE rfl (Fin.consE rfl (Fin.consE rfl (Fin.nil ?_)))
      refine J.callD (v := .int .i64 (cfN (dI self) a b)) Ty.bd65 rfl rfl (fun w1 hw => compare_spec (subI a self) (subI b self) w1) ?_
      exact J.finQ rfl
  case htail =>
    refine Fin.consE rfl (Fin.consE rfl (Fin.consE rfl (Fin.consE rfl (Fin.consE rfl (Fin.consE rfl (Fin.consE rfl (Fin.nil ?_)))))))
    refine J.assign rfl rfl ?_
    refine J.nil ?_
    refine JX.thenN (hK1 _ _ ?_)
    refine JC.ret ?_
    refine JX.ret1 rfl rfl (fun w hw => ?_)
    exact ⟨rfl, hw.same hw0 (fun p hp => by simp at hp ⊢; subst hp; simp)⟩

end Go.Proofs.Ytbafhclandendaa
/-
  MinFunc as ring.Next calls it; ring.Next: contracts.
-/
namespace Go.Proofs.Ytbafhclandendaa
open Go.J Go.RowKit
set_option linter.unusedVariables false
set_option linter.unusedSimpArgs false
set_option maxRecDepth 4000
structure MS where
  i : Nat
  m : IDV
structure MinInv (f : IDV → Nat) (xs : List IDV) (s : MS) : Prop where
  h1 : 1 ≤ s.i
  hi : s.i ≤ xs.length
  hm : s.m ∈ xs
  le : ∀ j y, j < s.i → xs[j]? = some y → f s.m ≤ f y
theorem MinInv.done {f : IDV → Nat} {xs : List IDV} {i : Nat} {m : IDV} (h : MinInv f xs ⟨i, m⟩) (hi : i = xs.length) : m ∈ xs ∧ ∀ y, y ∈ xs → f m ≤ f y := by
  refine ⟨h.hm, fun y hy => ?_⟩
  obtain ⟨j, hj, rfl⟩ := List.getElem_of_mem hy
  exact h.le j _ (by simp only; omega) (List.getElem?_eq_getElem hj)
theorem MinInv.start {f : IDV → Nat} {xs : List IDV} {m : IDV} (h : xs[0]? = some m) : MinInv f xs ⟨1, m⟩ := by
  have hl := (List.getElem?_eq_some_iff.1 h).1
  refine ⟨Nat.le_refl _, hl, ?_, fun j y hj hy => ?_⟩
  · exact List.mem_of_getElem? h
  · have : j = 0 := by simp only at hj; omega
    subst this
    rw [h] at hy
    cases hy
    exact Nat.le_refl _
end Go.Proofs.Ytbafhclandendaa
/-
  ring.Next: contract.
-/
namespace Go.Proofs.Ytbafhclandendaa
open Go.J Go.RowKit
set_option linter.unusedVariables false
set_option linter.unusedSimpArgs false
set_option maxRecDepth 4000
/-- the first one clockwise -/
def IsNext (me : IDV) (xs : List IDV) (m : IDV) : Prop := (m ∈ xs ∧ m ≠ me) ∧ ∀ y, y ∈ xs → y ≠ me → dI me m ≤ dI me y
open Classical in
noncomputable def nextO (me : IDV) (xs : List IDV) : Option IDV := if h : ∃ m, IsNext me xs m then some h.choose else none
end Go.Proofs.Ytbafhclandendaa
/-
  Who is wanted: the plain law of ring.Want.
-/
namespace Go.Proofs.Ytbafhclandendaa
open Go.J Go.RowKit
set_option linter.unusedVariables false
set_option linter.unusedSimpArgs false
set_option maxRecDepth 4000
/-- how far clockwise ahead of a place -/
noncomputable def eI (me x : IDV) : Nat := valI (subI me x)
theorem dI_self (me : IDV) : dI me me = 0 := by
  unfold dI
  rw [valI_subI]
  have := valI_lt me
  omega
theorem dI_pos {me x : IDV} (h : x ≠ me) : 0 < dI me x := by
  rcases Nat.eq_zero_or_pos (dI me x) with h0 | h0
  · exact absurd (dI_inj (me := me) (h0.trans (dI_self me).symm)) h
  · exact h0
theorem dI_add_eI {me x : IDV} (h : x ≠ me) : dI me x + eI me x = 2 ^ 128 := by
  have h0 := dI_pos h
  unfold dI eI at *
  rw [valI_subI] at *
  rw [valI_subI]
  have h1 := valI_lt me
  have h2 := valI_lt x
  omega
/-- how many are ahead of one, on either way -/
noncomputable def rI (me : IDV) (l : List IDV) (x : IDV) : Nat := l.countP (fun y => decide (dI me y < dI me x))
noncomputable def lI (me : IDV) (l : List IDV) (x : IDV) : Nat := l.countP (fun y => decide (eI me y < eI me x))
noncomputable def wantI (me : IDV) (xs : List IDV) (half : Int) : List IDV :=
  (sortI xs me).filter (fun x => decide ((rI me (sortI xs me) x : Int) < half) || decide ((lI me (sortI xs me) x : Int) < half))
theorem count_at {f : IDV → Nat} : ∀ {ys : List IDV}, ys.Pairwise (fun a b => f a < f b) → ∀ (i : Nat) (h : i < ys.length), ys.countP (fun y => decide (f y < f ys[i])) = i ∧ ys.countP (fun y => decide (f ys[i] < f y)) + i + 1 = ys.length
  | y :: ys, hp, 0, _ => by
    have hp' := List.pairwise_cons.1 hp
    simp only [List.getElem_cons_zero, List.countP_cons, Nat.lt_irrefl, decide_false, Bool.false_eq_true, if_false, Nat.add_zero, List.length_cons]
    constructor
    · rw [List.countP_eq_zero]
      intro a ha
      have := hp'.1 a ha
      simp; omega
    · rw [List.countP_eq_length.2]
      intro a ha
      have := hp'.1 a ha
      simpa using this
  | y :: ys, hp, i + 1, h => by
    have hp' := List.pairwise_cons.1 hp
    have hi : i < ys.length := by simpa using h
    have h1 := hp'.1 ys[i] (List.getElem_mem hi)
    obtain ⟨h2, h3⟩ := count_at hp'.2 i hi
    simp only [List.getElem_cons_succ, List.countP_cons, List.length_cons]
    rw [h2]
    have e1 : (decide (f y < f ys[i])) = true := by simpa using h1
    have e2 : (decide (f ys[i] < f y)) = false := by simp; omega
    rw [if_pos e1, if_neg (by rw [e2]; decide)]
    exact ⟨rfl, by omega⟩
theorem nodup_take {ys : List IDV} (h : ys.Nodup) {i n : Nat} (hi : i < ys.length) : ys[i] ∈ ys.take n ↔ i < n := by
  constructor
  · intro hm
    obtain ⟨j, hj, he⟩ := List.getElem_of_mem hm
    rw [List.length_take] at hj
    rw [List.getElem_take] at he
    have := (List.getElem_inj h).1 he
    omega
  · intro hlt
    have hj : i < (ys.take n).length := by rw [List.length_take]; omega
    have := List.getElem_mem hj
    rw [List.getElem_take] at this
    exact this
theorem nodup_drop {ys : List IDV} (h : ys.Nodup) {i n : Nat} (hi : i < ys.length) : ys[i] ∈ ys.drop n ↔ n ≤ i := by
  constructor
  · intro hm
    obtain ⟨j, hj, he⟩ := List.getElem_of_mem hm
    rw [List.getElem_drop] at he
    have := (List.getElem_inj h).1 he
    omega
  · intro hle
    have hj : i - n < (ys.drop n).length := by rw [List.length_drop]; omega
    have := List.getElem_mem hj
    rw [List.getElem_drop] at this
    simpa [show n + (i - n) = i by omega] using this
theorem eI_lt_iff {me x y : IDV} (hx : x ≠ me) (hy : y ≠ me) : eI me y < eI me x ↔ dI me x < dI me y := by
  have a1 := dI_add_eI hy
  have a2 := dI_add_eI hx
  omega
theorem strict_of {me : IDV} {ys : List IDV} (hnd : ys.Nodup) (hs : ys.Pairwise (fun a b => dI me a ≤ dI me b)) : ys.Pairwise (fun a b => dI me a < dI me b) := by
  refine (hs.and hnd).imp fun {a b} h => ?_
  rcases Nat.lt_or_ge (dI me a) (dI me b) with h1 | h1
  · exact h1
  · exact absurd (dI_inj (Nat.le_antisymm h.1 h1)) h.2
theorem rank_of {me : IDV} {xs ys : List IDV} (hp : ys.Perm (sortI xs me)) (hst : ys.Pairwise (fun a b => dI me a < dI me b)) {i : Nat} (hi : i < ys.length) :
    rI me (sortI xs me) ys[i] = i ∧ lI me (sortI xs me) ys[i] + i + 1 = ys.length := by
  obtain ⟨h1, h2⟩ := count_at hst i hi
  have hme := ((sortI_mem xs me _).1 (hp.mem_iff.1 (List.getElem_mem hi))).2
  constructor
  · unfold rI; rw [← hp.countP_eq]; exact h1
  · unfold lI
    have e : ys.countP (fun y => decide (eI me y < eI me ys[i])) = ys.countP (fun y => decide (dI me ys[i] < dI me y)) := by
      refine List.countP_congr fun y hy => ?_
      have hy2 := ((sortI_mem xs me y).1 (hp.mem_iff.1 hy)).2
      rw [decide_eq_true_eq, decide_eq_true_eq]
      exact eI_lt_iff hme hy2
    rw [← hp.countP_eq, e]
    exact h2
theorem half_arith {half : Int} {n i k r l : Nat} (hn : (n : Int) = min (max half 0) (k : Int)) (hi : i < k) (hr : r = i) (hl : l + i + 1 = k) : ((r : Int) < half ∨ (l : Int) < half) ↔ (i < n ∨ k - n ≤ i) := by
  omega
theorem mem_wantI {me : IDV} {xs : List IDV} {half : Int} {z : IDV} : z ∈ wantI me xs half ↔ z ∈ sortI xs me ∧ ((rI me (sortI xs me) z : Int) < half ∨ (lI me (sortI xs me) z : Int) < half) := by
  unfold wantI
  rw [List.mem_filter, Bool.or_eq_true, decide_eq_true_eq, decide_eq_true_eq]
theorem wantI_asc (me : IDV) (xs : List IDV) (half : Int) : Asc (wantI me xs half) := (sortI_asc xs me).sublist List.filter_sublist
theorem want_of {me : IDV} {xs ys : List IDV} {half : Int} {n : Nat} (hp : ys.Perm (sortI xs me)) (hs : ys.Pairwise (fun a b => dI me a ≤ dI me b)) (hn : (n : Int) = min (max half 0) ((sortI xs me).length : Nat)) :
    sortI (ys.take n ++ ys.drop ((sortI xs me).length - n)) me = wantI me xs half := by
  have hnd : ys.Nodup := hp.nodup_iff.2 (asc_nodup (sortI_asc xs me))
  have hst := strict_of hnd hs
  have hlen := hp.length_eq
  refine (sortI_of (wantI_asc me xs half) fun z => ?_).symm
  rw [mem_wantI, List.mem_append]
  constructor
  · rintro ⟨hz1, hz2⟩
    refine ⟨?_, ((sortI_mem xs me z).1 hz1).2⟩
    obtain ⟨i, hi, rfl⟩ := List.getElem_of_mem (hp.mem_iff.2 hz1)
    obtain ⟨e1, e2⟩ := rank_of hp hst hi
    rw [nodup_take hnd hi, nodup_drop hnd hi]
    exact (half_arith hn (by rw [← hlen]; exact hi) e1 (by rw [← hlen]; exact e2)).1 hz2
  · rintro ⟨hz, hzm⟩
    have hzy : z ∈ ys := by
      rcases hz with h | h
      · exact List.mem_of_mem_take h
      · exact List.mem_of_mem_drop h
    refine ⟨hp.mem_iff.1 hzy, ?_⟩
    obtain ⟨i, hi, rfl⟩ := List.getElem_of_mem hzy
    obtain ⟨e1, e2⟩ := rank_of hp hst hi
    rw [nodup_take hnd hi, nodup_drop hnd hi] at hz
    exact (half_arith hn (by rw [← hlen]; exact hi) e1 (by rw [← hlen]; exact e2)).2 hz
theorem fI_take (xs : List IDV) (n : Nat) : fI (xs.take n) = (fI xs).take (n * 16) := by
  have h : fI xs = fI (xs.take n) ++ fI (xs.drop n) := by rw [← fI_append, List.take_append_drop]
  have hl := fI_length (xs.take n)
  rw [List.length_take] at hl
  rcases Nat.le_total n xs.length with hn | hn
  · rw [h, List.take_left' (by rw [hl, Nat.min_eq_left hn])]
  · rw [List.take_of_length_le hn, List.take_of_length_le (by rw [fI_length]; omega)]
theorem fI_drop (xs : List IDV) (n : Nat) : fI (xs.drop n) = (fI xs).drop (n * 16) := by
  have h : fI xs = fI (xs.take n) ++ fI (xs.drop n) := by rw [← fI_append, List.take_append_drop]
  have hl := fI_length (xs.take n)
  rw [List.length_take] at hl
  rcases Nat.le_total n xs.length with hn | hn
  · rw [h, List.drop_left' (by rw [hl, Nat.min_eq_left hn])]
  · rw [List.drop_of_length_le hn, List.drop_of_length_le (by rw [fI_length]; omega)]; rfl

end Go.Proofs.Ytbafhclandendaa
/-
  ring.Want: contract.
-/
namespace Go.Proofs.Ytbafhclandendaa
open Go.J Go.RowKit
set_option linter.unusedVariables false
set_option linter.unusedSimpArgs false
set_option maxRecDepth 4000
theorem rowI_slice {w : World} {a : Option Addr} {c i j : Nat} {ys : List IDV} (h : Row w (.slice a ys.length c) ys.length (fI ys)) (hij : i ≤ j) (hj : j ≤ ys.length) :
    Row w (.slice (if c = i then a else a.map (·.add (i * 16))) (j - i) (c - i)) ((ys.drop i).take (j - i)).length (fI ((ys.drop i).take (j - i))) := by
  have := h.slice (sz := 16) (fI_length ys) hij hj
  rw [fI_take, fI_drop]
  rw [show ((ys.drop i).take (j - i)).length = j - i by rw [List.length_take, List.length_drop]; omega]
  exact this

theorem want_spec (self : IDV) (v : Value) (xs : List IDV) (half : Int) (w : World) (hr : Row w v xs.length (fI xs)) (hl : xs.length ≤ 1099511627776) :
    Calls Try.prog 49 [.agg (cI self).toArray, v, .int .i64 half].toArray w fun r w' => ∃ x : Value × List (Nat × Obj), r = .returned x.1 ∧ Vec 23 16 x.1 (wantI self xs half).length (fI (wantI self xs half)) x.2 ∧ St w [] x.2 w' := by
  refine calls_of_J (args := [.agg (cI self).toArray, v, .int .i64 half]) (e := [(0, .agg (cI self).toArray), (1, v), (2, .int .i64 half)]) Try.func49 rfl rfl ⟨rfl, rfl, rfl, trivial⟩ (St.start w) ?_
  refine JC.seq (fun K0 hK0 => ?_)
  refine JC.region ?_
  refine J.box rfl rfl rfl (fun b3 => ?_)
  refine J.assign rfl rfl ?_
  refine J.nil ?_
  refine JX.thenN (hK0 _ _ ?_)
  refine JC.seq (fun K1 hK1 => ?_)
  refine JC.region ?_
  refine J.loadOA (vs := cI self) Ty.a23 Ty.s23 rfl (by repeat first | exact .head _ | apply List.Mem.tail | apply List.mem_append_right) (by exact rfl) rfl rfl ?_
  refine J.move rfl rfl ?_
  refine J.callS (α := Value × List (Nat × Obj)) (V := (·.1)) (Pr := fun x => Vec 23 16 x.1 (sortI xs self).length (fI (sortI xs self)) x.2) (L := (·.2)) (l1 := []) (l := [(b3, cb (cI self) 23)]) Ty.bd43 rfl rfl (fun w1 hw => sorted_spec self v xs w1 (hr.st (.inr (by simp)) hw) (by omega)) (fun x hx => ?_)
  obtain ⟨vs, ls⟩ := x
  simp only at hx ⊢
  have hsl := sortI_le xs self
  obtain ⟨aq, cq, rfl, hcs⟩ := hx.form
  refine J.assign rfl rfl ?_
  refine J.nil ?_
  refine JX.thenN (hK1 _ _ ?_)
  refine JC.seq (fun K2 hK2 => ?_)
  refine JC.region ?_
  refine J.move rfl rfl ?_
  refine J.max2 rfl rfl rfl ?_
  refine J.move rfl rfl ?_
  refine J.lenS rfl Ty.u24 rfl rfl ?_
  refine J.min2 rfl rfl rfl ?_
  obtain ⟨n, hn⟩ : ∃ n : Nat, (n : Int) = min (max half 0) (((sortI xs self).length : Nat) : Int) := ⟨(min (max half 0) (((sortI xs self).length : Nat) : Int)).toNat, by omega⟩
  refine J.name 16 rfl (show _ = Value.int .i64 ((n : Nat) : Int) by rw [hn]) ?_
  refine J.assign rfl rfl ?_
  refine J.nil ?_
  refine JX.thenN (hK2 _ _ ?_)
  refine JC.seq (fun K3 hK3 => ?_)
  refine JC.region ?_
  refine J.move rfl rfl ?_
  refine J.makeFn rfl rfl ?_
  refine J.callS (α := List IDV × List (Nat × Obj)) (V := fun _ => .tuple #[]) (Pr := fun x => x.1.Perm (sortI xs self) ∧ x.1.Pairwise (fun a b => dI self a ≤ dI self b) ∧ Vec 23 16 (.slice aq (sortI xs self).length cq) x.1.length (fI x.1) x.2) (L := (·.2)) (l1 := ls) (l := [(b3, cb (cI self) 23)]) Ty.bd64 rfl rfl (fun w1 hw => sort_vec 69 #[.pointer (some ⟨b3, 0, none⟩)] (dI self) (fun _ _ h => dI_inj h) Ty.bd69 _ (sortI xs self) ls [(b3, cb (cI self) 23)] w1 hx hw.owns' (by omega) (fun a b W hW => by simpa using want1_spec b3 self a b W hW)) (fun x hs => ?_)
  obtain ⟨ys, lsrt⟩ := x
  simp only at hs ⊢
  obtain ⟨hp, hs, hvs⟩ := hs
  have hyl := hp.length_eq
  refine J.perm ((b3, cb (cI self) 23) :: lsrt) (by (refine perm_cnt (fun _ => ?_)); simp only [cntB_append, cntB_cons, cntB_nil, Nat.add_zero, Nat.zero_add]; try ac_rfl) ?_
  refine J.nil ?_
  refine JX.thenN (hK3 _ _ ?_)
  refine JC.seq (fun K4 hK4 => ?_)
  apply JC.drawX (α := Value × List (Nat × Obj) × Value × List (Nat × Obj)) 12 (fun x => match x with | ⟨vc, lc, va, la⟩ => [.agg (cI self).toArray, .slice aq (sortI xs self).length cq, .int .i64 ((n : Nat) : Int), .slice (if cq = 0 then aq else aq.map (·.add (0 * 16))) (n - 0) (cq - 0), vc, .slice aq (sortI xs self).length cq, .slice aq (sortI xs self).length cq, .int .i64 (((sortI xs self).length : Nat) : Int), .int .i64 ((n : Nat) : Int), .int .i64 (((sortI xs self).length - n : Nat) : Int), .slice (if cq = (sortI xs self).length - n then aq else aq.map (·.add (((sortI xs self).length - n) * 16))) ((sortI xs self).length - ((sortI xs self).length - n)) (cq - ((sortI xs self).length - n)), va]) (fun m x => match x with | ⟨vc, lc, va, la⟩ => fun w1 => ((m 11 = true → m 4 = true ∧ Vec 23 16 va ((ys.take n ++ ys.drop ((sortI xs self).length - n))).length (fI ((ys.take n ++ ys.drop ((sortI xs self).length - n)))) la) ∧ (m 4 = true → Vec 23 16 vc ((ys.take n)).length (fI ((ys.take n))) lc)) ∧ St w [] ((b3, cb (cI self) 23) :: ((bif m 11 then la else (bif m 4 then lc else [])) ++ lsrt)) w1) Ty.mixed rfl rfl rfl (by kernel_rfl) rfl rfl ?hinit ?hstep ?htail
  case hinit => exact fun w1 hw => ⟨(.slice none 0 0, [], .slice none 0 0, []), ⟨fun h => (by cases h), fun h => (by cases h)⟩, hw.drew⟩
  case hstep =>
    refine ⟨fun m x hm hp => ?_, fun m x hm hp => ?_, fun m x hm hp => ?_, fun m x hm hp => ?_, fun m x hm hp => ?_, fun m x hm hp => ?_, fun m x hm hp => ?_, fun m x hm hp => ?_, fun m x hm hp => ?_, fun m x hm hp => ?_, fun m x hm hp => ?_, fun m x hm hp => ?_, trivial⟩
    · skip
      obtain ⟨vc, lc, va, la⟩ := x
      show J _ _ _ _ _ (_) _
      refine J.pr (fun hF => ?_)
      refine J.loadOA (vs := cI self) Ty.a23 Ty.s23 rfl (.head _) rfl rfl rfl ?_
      exact J.finX rfl (fun _ hw => ⟨⟨vc, lc, va, la⟩, rfl, fun _ _ _ => rfl, hF, hw⟩)
    · skip
      obtain ⟨vc, lc, va, la⟩ := x
      show J _ _ _ _ _ (_) _
      refine J.pr (fun hF => ?_)
      refine J.move rfl rfl ?_
      exact J.finX rfl (fun _ hw => ⟨⟨vc, lc, va, la⟩, rfl, fun _ _ _ => rfl, hF, hw⟩)
    · skip
      obtain ⟨vc, lc, va, la⟩ := x
      show J _ _ _ _ _ (_) _
      refine J.pr (fun hF => ?_)
      refine J.move rfl rfl ?_
      exact J.finX rfl (fun _ hw => ⟨⟨vc, lc, va, la⟩, rfl, fun _ _ _ => rfl, hF, hw⟩)
    · skip
      obtain ⟨vc, lc, va, la⟩ := x
      show J _ _ _ _ _ ((22, .int .i64 ((n : Nat) : Int)) :: (21, .slice aq (sortI xs self).length cq) :: _) _
      refine J.pr (fun hF => ?_)
      refine J.sliceS (i := 0) (j := n) Ty.el24 Ty.s23 rfl rfl rfl rfl rfl (by omega) (by omega) (by omega) rfl ?_
      exact J.finX rfl (fun _ hw => ⟨⟨vc, lc, va, la⟩, rfl, fun _ _ _ => rfl, hF, hw⟩)
    · skip
      obtain ⟨vc, lc, va, la⟩ := x
      show J _ _ _ _ _ ((23, .slice (if cq = 0 then aq else aq.map (·.add (0 * 16))) (n - 0) (cq - 0)) :: _) _
      refine J.pr (fun hF => ?_)
      refine J.perm ([] ++ ((b3, cb (cI self) 23) :: ((bif m 11 then la else (bif m 4 then lc else [])) ++ lsrt))) (.refl _) ?_
      refine J.callS (α := Value × List (Nat × Obj)) (V := (·.1)) (Pr := fun x => Vec 23 16 x.1 ((ys.take n)).length (fI ((ys.take n))) x.2) (L := (·.2)) (l1 := []) Ty.bd48 rfl rfl (fun w1 hw => clone_spec _ (ys.take n) w1 (by
        have h1 := rowI_slice (i := 0) (j := n) (by have h0 := (hvs.row (S := []) (l := (b3, cb (cI self) 23) :: (bif m 11 then la else (bif m 4 then lc else []))) (hw.perm (by (refine perm_cnt (fun _ => ?_)); simp only [cntB_append, cntB_cons, cntB_nil, Nat.add_zero, Nat.zero_add]; try ac_rfl))); rw [hyl] at h0 ⊢; exact h0) (Nat.zero_le _) (by omega)
        rw [List.drop_zero, Nat.sub_zero] at h1
        exact h1) (by rw [List.length_take]; omega)) (fun x hv4 => ?_)
      obtain ⟨vc9, lc9⟩ := x
      simp only at hv4 ⊢
      refine J.nil (JX.finB rfl (fun w1 hw => ⟨⟨⟨vc9, lc9, va, la⟩, rfl, fun j h1 h2 => ?_, ?_⟩, trivial⟩))
      · match j, h1 with
        | 0, _ => (first | rfl | trivial)
        | 1, _ => (first | rfl | trivial)
        | 2, _ => (first | rfl | trivial)
        | 3, _ => (first | rfl | trivial)
        | 4, _ => exact absurd (h2.symm.trans hm) (by decide)
        | 5, _ => (first | rfl | trivial)
        | 6, _ => (first | rfl | trivial)
        | 7, _ => (first | rfl | trivial)
        | 8, _ => (first | rfl | trivial)
        | 9, _ => (first | rfl | trivial)
        | 10, _ => (first | rfl | trivial)
        | 11, _ => (first | rfl | trivial)
        | j + 12, h1 => omega
      show ((m 11 = true → true = true ∧ Vec 23 16 va ((ys.take n ++ ys.drop ((sortI xs self).length - n))).length (fI ((ys.take n ++ ys.drop ((sortI xs self).length - n)))) la) ∧ (true = true → Vec 23 16 vc9 ((ys.take n)).length (fI ((ys.take n))) lc9)) ∧ St w [] ((b3, cb (cI self) 23) :: ((bif m 11 then la else (bif true then lc9 else [])) ++ lsrt)) w1
      have hm11 : m 11 = false := by
        cases h : m 11 with
        | false => rfl
        | true => exact absurd (hm.symm.trans (hF.1 h).1) (by decide)
      refine ⟨⟨fun h => absurd (hm11.symm.trans h) (by decide), fun _ => hv4⟩, ?_⟩
      simp only [hm, hm11, cond_true, cond_false] at hw ⊢
      exact hw.perm (by (refine perm_cnt (fun _ => ?_)); simp only [cntB_append, cntB_cons, cntB_nil, Nat.add_zero, Nat.zero_add]; try ac_rfl)
    · skip
      obtain ⟨vc, lc, va, la⟩ := x
      show J _ _ _ _ _ (_) _
      refine J.pr (fun hF => ?_)
      refine J.move rfl rfl ?_
      exact J.finX rfl (fun _ hw => ⟨⟨vc, lc, va, la⟩, rfl, fun _ _ _ => rfl, hF, hw⟩)
    · skip
      obtain ⟨vc, lc, va, la⟩ := x
      show J _ _ _ _ _ (_) _
      refine J.pr (fun hF => ?_)
      refine J.move rfl rfl ?_
      exact J.finX rfl (fun _ hw => ⟨⟨vc, lc, va, la⟩, rfl, fun _ _ _ => rfl, hF, hw⟩)
    · skip
      obtain ⟨vc, lc, va, la⟩ := x
      show J _ _ _ _ _ ((26, .slice aq (sortI xs self).length cq) :: _) _
      refine J.pr (fun hF => ?_)
      refine J.lenS rfl Ty.u24 rfl rfl ?_
      exact J.finX rfl (fun _ hw => ⟨⟨vc, lc, va, la⟩, rfl, fun _ _ _ => rfl, hF, hw⟩)
    · skip
      obtain ⟨vc, lc, va, la⟩ := x
      show J _ _ _ _ _ (_) _
      refine J.pr (fun hF => ?_)
      refine J.move rfl rfl ?_
      exact J.finX rfl (fun _ hw => ⟨⟨vc, lc, va, la⟩, rfl, fun _ _ _ => rfl, hF, hw⟩)
    · skip
      obtain ⟨vc, lc, va, la⟩ := x
      show J _ _ _ _ _ ((28, .int .i64 ((n : Nat) : Int)) :: (27, .int .i64 (((sortI xs self).length : Nat) : Int)) :: _) _
      refine J.pr (fun hF => ?_)
      refine J.subN rfl rfl (by omega) (by omega) rfl ?_
      refine J.name 29 rfl (show _ = Value.int .i64 (((sortI xs self).length - n : Nat) : Int) by congr 1; omega) ?_
      exact J.finX rfl (fun _ hw => ⟨⟨vc, lc, va, la⟩, rfl, fun _ _ _ => rfl, hF, hw⟩)
    · skip
      obtain ⟨vc, lc, va, la⟩ := x
      show J _ _ _ _ _ ((29, .int .i64 (((sortI xs self).length - n : Nat) : Int)) :: (25, .slice aq (sortI xs self).length cq) :: _) _
      refine J.pr (fun hF => ?_)
      refine J.sliceS (i := (sortI xs self).length - n) (j := (sortI xs self).length) Ty.el24 Ty.s23 rfl rfl rfl rfl rfl (by omega) (by omega) (by omega) rfl ?_
      exact J.finX rfl (fun _ hw => ⟨⟨vc, lc, va, la⟩, rfl, fun _ _ _ => rfl, hF, hw⟩)
    · skip
      obtain ⟨vc, lc, va, la⟩ := x
      show J _ _ _ _ _ ((24, vc) :: (30, .slice (if cq = (sortI xs self).length - n then aq else aq.map (·.add (((sortI xs self).length - n) * 16))) ((sortI xs self).length - ((sortI xs self).length - n)) (cq - ((sortI xs self).length - n))) :: (24, vc) :: _) _
      have hp4 : m 4 = true := predsT hp (by kernel_rfl)
      have hp4 : m 4 = true := predsT hp (by kernel_rfl)
      refine J.pr (fun hF => ?_)
      have hv4 := hF.2 hp4
      refine J.conseq (I' := St w [] (lc ++ ((b3, cb (cI self) 23) :: lsrt))) ?_ (fun w1 hw => by simp only [hm, hp4, cond_true, cond_false] at hw; exact hw.perm (by (refine perm_cnt (fun _ => ?_)); simp only [cntB_append, cntB_cons, cntB_nil, Nat.add_zero, Nat.zero_add]; try ac_rfl))
      refine J.append (xs := fI (ys.take n)) (ys := fI (ys.drop ((sortI xs self).length - n))) (k := (ys.take n).length) (m := (ys.drop ((sortI xs self).length - n)).length) Ty.el24 Ty.s23 Ty.b23 Ty.zID rfl (.inl ⟨23, Ty.u24⟩) rfl rfl hv4 (fun w1 hw => .inl (by
        have h1 := rowI_slice (i := (sortI xs self).length - n) (j := (sortI xs self).length) (by have h0 := (hvs.row (S := []) (l := (b3, cb (cI self) 23) :: lc) (hw.perm (by (refine perm_cnt (fun _ => ?_)); simp only [cntB_append, cntB_cons, cntB_nil, Nat.add_zero, Nat.zero_add]; try ac_rfl))); rw [hyl] at h0 ⊢; exact h0) (by omega) (by omega)
        rw [List.take_of_length_le (by rw [List.length_drop]; omega), List.length_drop, hyl] at h1
        rw [List.length_drop, hyl]
        exact h1)) (fI_length _) (fun y hy => fI_one hy) (by rw [List.length_take, List.length_drop]; omega) (by rw [List.length_take, List.length_drop]; omega) rfl (fun va9 la9 hv11 => ?_)
      rw [← List.length_append, ← fI_append] at hv11
      refine J.nil (JX.finB rfl (fun w1 hw => ⟨⟨⟨vc, lc, va9, la9⟩, rfl, fun j h1 h2 => ?_, ?_⟩, trivial⟩))
      · match j, h1 with
        | 0, _ => (first | rfl | trivial)
        | 1, _ => (first | rfl | trivial)
        | 2, _ => (first | rfl | trivial)
        | 3, _ => (first | rfl | trivial)
        | 4, _ => (first | rfl | trivial)
        | 5, _ => (first | rfl | trivial)
        | 6, _ => (first | rfl | trivial)
        | 7, _ => (first | rfl | trivial)
        | 8, _ => (first | rfl | trivial)
        | 9, _ => (first | rfl | trivial)
        | 10, _ => (first | rfl | trivial)
        | 11, _ => exact absurd (h2.symm.trans hm) (by decide)
        | j + 12, h1 => omega
      show ((true = true → m 4 = true ∧ Vec 23 16 va9 ((ys.take n ++ ys.drop ((sortI xs self).length - n))).length (fI ((ys.take n ++ ys.drop ((sortI xs self).length - n)))) la9) ∧ (m 4 = true → Vec 23 16 vc ((ys.take n)).length (fI ((ys.take n))) lc)) ∧ St w [] ((b3, cb (cI self) 23) :: ((bif true then la9 else (bif m 4 then lc else [])) ++ lsrt)) w1
      refine ⟨⟨fun _ => ⟨hp4, hv11⟩, hF.2⟩, ?_⟩
      simp only [hp4, cond_true, cond_false] at hw ⊢
      exact hw.perm (by (refine perm_cnt (fun _ => ?_)); simp only [cntB_append, cntB_cons, cntB_nil, Nat.add_zero, Nat.zero_add]; try ac_rfl)
  case htail =>
    intro x
    obtain ⟨vc, lc, va, la⟩ := x
    show J _ _ _ _ _ ((31, va) :: (30, .slice (if cq = (sortI xs self).length - n then aq else aq.map (·.add (((sortI xs self).length - n) * 16))) ((sortI xs self).length - ((sortI xs self).length - n)) (cq - ((sortI xs self).length - n))) :: (29, .int .i64 (((sortI xs self).length - n : Nat) : Int)) :: (28, .int .i64 ((n : Nat) : Int)) :: (27, .int .i64 (((sortI xs self).length : Nat) : Int)) :: (26, .slice aq (sortI xs self).length cq) :: (25, .slice aq (sortI xs self).length cq) :: (24, vc) :: (23, .slice (if cq = 0 then aq else aq.map (·.add (0 * 16))) (n - 0) (cq - 0)) :: (22, .int .i64 ((n : Nat) : Int)) :: (21, .slice aq (sortI xs self).length cq) :: (20, .agg (cI self).toArray) :: _) (fun w1 => ((true = true → true = true ∧ Vec 23 16 va ((ys.take n ++ ys.drop ((sortI xs self).length - n))).length (fI ((ys.take n ++ ys.drop ((sortI xs self).length - n)))) la) ∧ (true = true → Vec 23 16 vc ((ys.take n)).length (fI ((ys.take n))) lc)) ∧ St w [] ((b3, cb (cI self) 23) :: ((bif true then la else (bif true then lc else [])) ++ lsrt)) w1)
    refine J.pr (fun hF => ?_)
    have hv11 := (hF.1 rfl).2
    refine J.conseq (I' := St w [] ([] ++ (la ++ (b3, cb (cI self) 23) :: lsrt))) ?_ (fun w1 hw => by
      have hw' : St w [] ((b3, cb (cI self) 23) :: (la ++ lsrt)) w1 := hw
      exact hw'.perm (by (refine perm_cnt (fun _ => ?_)); simp only [cntB_append, cntB_cons, cntB_nil, Nat.add_zero, Nat.zero_add]; try ac_rfl))
    refine J.callS (α := Value × List (Nat × Obj)) (V := (·.1)) (Pr := fun x => Vec 23 16 x.1 (sortI (ys.take n ++ ys.drop ((sortI xs self).length - n)) self).length (fI (sortI (ys.take n ++ ys.drop ((sortI xs self).length - n)) self)) x.2) (L := (·.2)) (l1 := []) Ty.bd43 rfl rfl (fun w1 hw => sorted_spec self va _ w1 (hv11.row (l := (b3, cb (cI self) 23) :: lsrt) (hw.perm (by (refine perm_cnt (fun _ => ?_)); simp only [cntB_append, cntB_cons, cntB_nil, Nat.add_zero, Nat.zero_add]; try ac_rfl))) (by rw [List.length_append, List.length_take, List.length_drop]; omega)) (fun x hx12 => ?_)
    obtain ⟨v12, l12⟩ := x
    simp only at hx12 ⊢
    rw [want_of hp hs hn] at hx12
    refine J.assign rfl rfl ?_
    refine J.nil ?_
    refine JX.thenN (hK4 _ _ ?_)
    refine JC.ret ?_
    refine JX.ret1 rfl rfl (fun w hw => ?_)
    exact ⟨(v12, l12), rfl, hx12, hw.drop (List.sublist_append_left _ _)⟩

end Go.Proofs.Ytbafhclandendaa
/-
  The document's identities as two words: Wide, Less: contracts.
-/
namespace Go.Proofs.Ytbafhclandendaa
open Go.J Go.RowKit
set_option linter.unusedVariables false
set_option linter.unusedSimpArgs false
set_option maxRecDepth 4000
theorem valB_append : ∀ (xs ys : List UInt8), valB (xs ++ ys) = valB xs * 256 ^ ys.length + valB ys
  | [], ys => by simp [valB]
  | x :: xs, ys => by
    simp only [List.cons_append, valB, valB_append xs ys, List.length_append, Nat.pow_add]
    rw [Nat.add_mul, Nat.mul_assoc, Nat.add_assoc]
def hiI (a : IDV) : Nat := valB ((bI a).take 8)
def loI (a : IDV) : Nat := valB ((bI a).drop 8)
end Go.Proofs.Ytbafhclandendaa
/-
  The document's identities out of two words: ID, Sub: contracts.
-/
namespace Go.Proofs.Ytbafhclandendaa
open Go.J Go.RowKit
set_option linter.unusedVariables false
set_option linter.unusedSimpArgs false
set_option maxRecDepth 4000
noncomputable def ofN (n : Nat) : IDV := (valI_ofI_exists (n % 2 ^ 128) (Nat.mod_lt _ (by omega))).choose
theorem valI_ofN (n : Nat) : valI (ofN n) = n % 2 ^ 128 := (valI_ofI_exists (n % 2 ^ 128) (Nat.mod_lt _ (by omega))).choose_spec
/-- the last k digits stand -/
structure Dig (n k : Nat) (l : List UInt8) : Prop where
  hl : l.length = 8
  hv : valB (l.drop (8 - k)) = n % 256 ^ k
theorem Dig.step {n k : Nat} {l : List UInt8} (h : Dig n k l) (hk : k < 8) : Dig n (k + 1) (l.set (7 - k) (UInt8.ofNat (n / 256 ^ k % 256))) := by
  have hl := h.hl
  have hv := h.hv
  refine ⟨by simp [hl], ?_⟩
  have e1 : 8 - (k + 1) = 7 - k := by omega
  have e2 : 7 - k + 1 = 8 - k := by omega
  have hlt : 7 - k < (l.set (7 - k) (UInt8.ofNat (n / 256 ^ k % 256))).length := by rw [List.length_set, hl]; omega
  rw [e1, drop_cons hlt, List.length_set, hl, e2, List.getElem_set_self, List.drop_set_of_lt (by omega), hv, show 8 - (8 - k) = k by omega, Nat.mod_pow_succ]
  have : (UInt8.ofNat (n / 256 ^ k % 256)).toNat = n / 256 ^ k % 256 := by
    rw [UInt8.toNat_ofNat']; omega
  rw [this, Nat.mul_comm, Nat.add_comm]
theorem Dig.start (n : Nat) (l : List UInt8) (h : l.length = 8) : Dig n 0 l := ⟨h, by rw [List.drop_of_length_le (by omega)]; simp [valB, Nat.mod_one]⟩
theorem Dig.done {hi lo : Nat} {h l : List UInt8} (hh : Dig hi 8 h) (hl : Dig lo 8 l) (h1 : hi < 18446744073709551616) (h2 : lo < 18446744073709551616) : ∃ o : IDV, h ++ l = bI o ∧ o = ofN (hi * 2 ^ 64 + lo) := by
  obtain ⟨o, ho⟩ := list16 (h ++ l) (by rw [List.length_append, hh.hl, hl.hl])
  refine ⟨o, ho, valI_inj ?_⟩
  rw [valI_ofN]
  have e1 := hh.hv
  have e2 := hl.hv
  rw [Nat.sub_self, List.drop_zero, show (256 : Nat) ^ 8 = 18446744073709551616 by decide, Nat.mod_eq_of_lt (by assumption)] at e1 e2
  have : valI o = valB (h ++ l) := by rw [ho]; rfl
  rw [this, valB_append, e1, e2, hl.hl, show (256 : Nat) ^ 8 = 2 ^ 64 by decide]
  omega
structure DI where
  k : Nat
  h : List UInt8
  l : List UInt8
end Go.Proofs.Ytbafhclandendaa
/-
  The document's Copy, SameIDs and Has: contracts.
-/
namespace Go.Proofs.Ytbafhclandendaa
open Go.J Go.RowKit
set_option linter.unusedVariables false
set_option linter.unusedSimpArgs false
set_option maxRecDepth 4000
end Go.Proofs.Ytbafhclandendaa
/-
  The document's Sorted: contract.
-/
namespace Go.Proofs.Ytbafhclandendaa
open Go.J Go.RowKit
set_option linter.unusedVariables false
set_option linter.unusedSimpArgs false
set_option maxRecDepth 4000
structure RS where
  i : Nat
  out : List IDV
  a : Option Addr
  c : Nat
  lp : List (Nat × Obj)

end Go.Proofs.Ytbafhclandendaa
/-
  The document's Want: contract.
-/
namespace Go.Proofs.Ytbafhclandendaa
open Go.J Go.RowKit
set_option linter.unusedVariables false
set_option linter.unusedSimpArgs false
set_option maxRecDepth 4000
noncomputable def wP (me : IDV) (L : List IDV) (half : Int) (x : IDV) : Bool := decide ((rI me L x : Int) < half) || decide ((lI me L x : Int) < half)
structure WK where
  k : Nat
  r : Nat
  l : Nat
end Go.Proofs.Ytbafhclandendaa
/-
  The document's Next: contract.
-/
namespace Go.Proofs.Ytbafhclandendaa
open Go.J Go.RowKit
set_option linter.unusedVariables false
set_option linter.unusedSimpArgs false
set_option maxRecDepth 4000
structure NK where
  k : Nat
  ok : Bool
end Go.Proofs.Ytbafhclandendaa
/-
  The law's n, cut and fixed of layer 10: contracts.
-/
namespace Go.J
open Go.RowKit
/-- s[:hi:max] of a slice, both one -/
theorem J.sliceM {P : Program} {ops : Array Oper} {Q : Exit → Act → World → Prop} {n : Nat} {e : Env} {I : World → Prop} {rest : List Oper} {d t : Nat} {p : String} {af : Array Edge} {x : Operand}
    {ty el : TypeId} {sz k c m : Nat} {a : Option Addr} {hi mx : Operand} {ik jk : IntKind} (he : elemT P ty = some el) (hs : sizeT P el = some sz) (hx : ev e x = some (.slice a k c))
    (hhi : ev e hi = some (.int ik (m : Int))) (hmx : ev e mx = some (.int jk (m : Int))) (h3 : m ≤ c) (hd : Nat.blt d n = true)
    (h : J P ops Q n rest ((d, .slice (if m = 0 then a else a.map (·.add (0 * sz))) m m) :: e) I) : J P ops Q n (⟨some d, .slice ty x none (some hi) (some mx), t, p, af, none⟩ :: rest) e I := by
  refine J.value hd (fun T w ht hw => ⟨w, ?_, hw⟩) h
  have e1 : ∀ (kk : IntKind) (y : Nat) (code : BoundsCode), m ≤ y → (Instr.sliceBound (.int kk (m : Int)) y code).run P w = .ok m w := by
    intro kk y code hle
    simp [Instr.sliceBound, asIntOf]
    omega
  have hb : (Instr.sliceBounds true k c none (some (.int ik (m : Int))) (some (.int jk (m : Int)))).run P w = .ok (0, m, m) w := by
    simp [Instr.sliceBounds, e1 jk c _ h3, e1 ik m _ (Nat.le_refl _)]
  simp only [execOp, ht.eval hx, Instr.sliceAt, Instr.slice, run_underlying' (elem_u he), Sem.run_bind, Result.andThen_ok, Sem.run_pure, Option.map_none, Option.map_some, ht.eval hhi, ht.eval hmx, hb, run_sizeOf hs, Nat.sub_zero]
end Go.J
namespace Go.Proofs.Ytbafhclandendaa
open Go.J Go.RowKit
set_option linter.unusedVariables false
set_option linter.unusedSimpArgs false
set_option maxRecDepth 4000
def nI (k : UInt8) : IDV := fun i => if i = 15 then k else 0
/-- what cut gives -/
def cutV (v : Value) (m : Nat) : Value := match v with
  | .slice a _ _ => .slice (if m = 0 then a else a.map (·.add (0 * 16))) m m
  | v => v
theorem row_cut {w : World} {v : Value} {xs : List IDV} (h : Row w v xs.length (fI xs)) (most : Nat) : Row w (cutV v (min xs.length most)) (xs.take most).length (fI (xs.take most)) := by
  obtain ⟨a, c, rfl, hc, h⟩ := id h
  have e : (xs.take most).length = min xs.length most := by rw [List.length_take]; omega
  rw [e, fI_take]
  refine ⟨_, _, rfl, Nat.le_refl _, ?_⟩
  have hfl := fI_length xs
  rcases h with h | ⟨b, o, rfl, hcl⟩
  · left; rw [h, List.take_nil]
  · by_cases hm : min xs.length most = 0
    · left
      rw [List.take_eq_nil_iff, fI, List.flatMap_eq_nil_iff]
      rcases Nat.eq_zero_or_pos most with h0 | h0
      · left; rw [h0]
      · right
        have : xs = [] := List.eq_nil_of_length_eq_zero (by omega)
        rw [this]; intro x hx; cases hx
    · right
      refine ⟨b, o, by rw [if_neg hm]; simp [Addr.add], ?_⟩
      intro j hj
      rw [List.length_take] at hj
      rw [List.getElem?_take_of_lt (by omega)]
      exact hcl j (by omega)
/-- how far, reckoned -/
theorem dI_eq (me x : IDV) : dI me x = (valI x + 2 ^ 128 - valI me) % 2 ^ 128 := valI_subI x me
theorem eI_eq (me x : IDV) : eI me x = (valI me + 2 ^ 128 - valI x) % 2 ^ 128 := valI_subI me x
def wantC (me : IDV) (xs : List IDV) (half : Int) : List IDV :=
  (sortI xs me).filter (fun x => decide ((((sortI xs me).countP (fun y => decide ((valI y + 2 ^ 128 - valI me) % 2 ^ 128 < (valI x + 2 ^ 128 - valI me) % 2 ^ 128)) : Nat) : Int) < half) || decide ((((sortI xs me).countP (fun y => decide ((valI me + 2 ^ 128 - valI y) % 2 ^ 128 < (valI me + 2 ^ 128 - valI x) % 2 ^ 128)) : Nat) : Int) < half))
theorem wantI_C (me : IDV) (xs : List IDV) (half : Int) : wantI me xs half = wantC me xs half := by
  unfold wantI wantC rI lI
  simp only [dI_eq, eI_eq]
def L4 : List IDV := [nI 1, nI 4, nI 9, nI 12]
end Go.Proofs.Ytbafhclandendaa
/-
  The law's fixed of layer 10: contract.
-/
namespace Go.Proofs.Ytbafhclandendaa
open Go.J Go.RowKit
set_option linter.unusedVariables false
set_option linter.unusedSimpArgs false
set_option maxRecDepth 4000

end Go.Proofs.Ytbafhclandendaa
/-
  What an argument that can be read as data looks like in memory; and the frame of a law's row. Proved over any program.
-/
namespace Go.J
open Go.ChangeShapes Go.WideShapes Go.ChangeAt Go.RowKit
set_option linter.unusedVariables false
set_option linter.unusedSimpArgs false

def Decodes (P : Program) (t : TypeId) {α : Type} (R : World → List Value → α → Prop) : Prop :=
  ∀ (H : Type) (enc : TypeId × Value → H) (w : World) (fuel : Nat) (cs : List Value) (x : DataW H × List MemPlace),
    DataW.trod enc P w 0 (fun _ => true) true fuel t cs = some x → (∀ n, n ∈ x.1.weights P t → n ≤ reachBytes) → ∃ y : α, R w cs y

def RInt (k : IntKind) : World → List Value → Int → Prop := fun _ cs n => cs = [.int k n] ∧ (Lit.int k n).wf = true
def RU8 : World → List Value → UInt8 → Prop := fun _ cs b => cs = [u8 b]
def RBool : World → List Value → Bool → Prop := fun _ cs b => cs = [.bool b]
def RStr : World → List Value → ByteArray → Prop := fun _ cs s => cs = [.string s] ∧ s.size ≤ reachBytes
structure Sl (α : Type) where
  a : Option Addr
  c : Nat
  xs : List α
/-- the slice's own value -/
abbrev Sl.v {α : Type} (s : Sl α) : Value := .slice s.a s.xs.length s.c
def RSl {α : Type} (sz by_ : Nat) (R : World → List Value → α → Prop) : World → List Value → Sl α → Prop := fun w cs s =>
  cs = [s.v] ∧ s.xs.length ≤ s.c ∧ s.c * by_ ≤ reachBytes ∧
    (s.xs = [] ∨ ∃ b o, s.a = some ⟨b, o, none⟩ ∧ ∀ i x, s.xs[i]? = some x → ∃ cs', cs'.length = sz ∧ Cells w b (o + i * sz) cs' ∧ R w cs' x)

theorem dec_int {P : Program} {t : TypeId} {k : IntKind} (hu : P.underlying t = some (.int k)) : Decodes P t (RInt k) := by
  intro H enc w fuel cs x h _
  obtain ⟨n, rfl, _, hw⟩ := DataW.trod_int hu h
  exact ⟨n, rfl, hw⟩
theorem dec_u8 {P : Program} {t : TypeId} (hu : P.underlying t = some (.int .u8)) : Decodes P t RU8 := by
  intro H enc w fuel cs x h _
  obtain ⟨n, rfl, _, hw⟩ := DataW.trod_int hu h
  have := bounds_u8 hw
  exact ⟨UInt8.ofNat n.toNat, by
    show [Value.int .u8 n] = [Value.int .u8 ((UInt8.ofNat n.toNat).toNat : Int)]
    have h2 : (UInt8.ofNat n.toNat).toNat = n.toNat := by simp; omega
    rw [h2]; congr 2; omega⟩
theorem cells_none {w : World} {a : Addr} {k : Nat} {cs : List Value} (h : w.cells? 0 a k = some cs) (hk : 0 < k) : ∃ b o, a = ⟨b, o, none⟩ ∧ cs.length = k ∧ Cells w b o cs := by
  unfold World.cells? at h
  rw [if_pos (Nat.zero_le _)] at h
  have hl := mapM_some_length h
  have hg := fun i (hi : i < k) => mapM_some_get h i i (by simp [hi])
  obtain ⟨b, o, s⟩ := a
  have h0 : w.cell? (⟨b, o, s⟩ : Addr) = cs[0]? := by simpa [Addr.add] using hg 0 hk
  have hs : s = none := World.cell?_spot (a := ⟨b, o, s⟩) (v := cs[0]'(by simp at hl; omega)) (by rw [h0, List.getElem?_eq_getElem])
  subst hs
  refine ⟨b, o, rfl, by simpa using hl, fun j hj => ?_⟩
  have := hg j (by simp at hl; omega)
  rw [addr_add] at this
  exact this

theorem weights_all {H : Type} {P : Program} {e : TypeId} : ∀ {ds : List (DataW H)} {d : DataW H}, d ∈ ds → ∀ n, n ∈ d.weights P e → n ∈ DataW.weightsAll P e ds := by
  intro ds
  induction ds with
  | nil => intro d h; cases h
  | cons d0 ds ih =>
    intro d h n hn
    simp only [DataW.weightsAll, List.mem_append]
    cases h with
    | head => exact .inl hn
    | tail _ h => exact .inr (ih h n hn)

theorem list_of {α : Type} {p : Nat → α → Prop} : ∀ (k : Nat), (∀ i, i < k → ∃ x, p i x) → ∃ xs : List α, xs.length = k ∧ ∀ i x, xs[i]? = some x → p i x := by
  intro k
  induction k with
  | zero => intro _; exact ⟨[], rfl, fun i x h => by simp at h⟩
  | succ k ih =>
    intro h
    obtain ⟨xs, hl, hx⟩ := ih (fun i hi => h i (by omega))
    obtain ⟨y, hy⟩ := h k (by omega)
    refine ⟨xs ++ [y], by simp [hl], fun i x hi => ?_⟩
    by_cases h1 : i < k
    · rw [List.getElem?_append_left (by omega)] at hi; exact hx i x hi
    · rw [List.getElem?_append_right (by omega)] at hi
      have : i - xs.length = 0 := by
        have := (List.getElem?_eq_some_iff.1 hi).1
        simp at this; omega
      rw [this] at hi
      simp at hi
      subst hi
      rw [show i = k by omega]; exact hy

theorem dec_slice {P : Program} {t e : TypeId} {sz by_ : Nat} {α : Type} {R : World → List Value → α → Prop} (he : elemT P t = some e) (hs : sizeT P e = some sz) (hb : bytesT P e = some by_) (hsz : 0 < sz) (D : Decodes P e R) : Decodes P t (RSl sz by_ R) := by
  intro H enc w fuel cs x h hn
  have hu := elem_u he
  have hcz : P.cellsOf e = sz := by
    unfold Program.cellsOf; unfold sizeT at hs; rw [hs]; rfl
  have hbz : P.bytesOf e = by_ := by
    unfold Program.bytesOf; unfold bytesT at hb; rw [hb]; rfl
  rcases Deep.open_slice hu h with ⟨rfl, rfl⟩ | ⟨a, len, cap, m, n, Dd, Pl, rfl, _, hl, _, hm, rfl, hel⟩
  · exact ⟨⟨none, 0, []⟩, rfl, Nat.le_refl _, by simp, .inl rfl⟩
  · simp only [if_true] at hm
    subst hm
    have hw1 : m * by_ ≤ reachBytes := by
      have := hn (((List.range len).map Dd).length + ((List.range (m - len)).map fun j => Dd (len + j)).length |> (· * P.bytesOf e)) (by simp [DataW.weights, hu])
      simp only [List.length_map, List.length_range, hbz] at this
      rwa [show len + (m - len) = m by omega] at this
    have hwe : ∀ i, i < len → ∀ k, k ∈ (Dd i).weights P e → k ≤ reachBytes := by
      intro i hi k hk
      refine hn k ?_
      simp only [DataW.weights, hu, List.mem_cons, List.mem_append]
      exact .inr (.inl (weights_all (List.mem_map.2 ⟨i, List.mem_range.2 hi, rfl⟩) k hk))
    obtain ⟨xs, hxl, hx⟩ := list_of (p := fun i (y : α) => ∃ cs', w.cells? 0 (a.add (i * sz)) sz = some cs' ∧ R w cs' y) len (fun i hi => by
      obtain ⟨cs', h1, h2⟩ := hel i (by omega)
      obtain ⟨y, hy⟩ := D H enc w n cs' _ h2 (hwe i hi)
      exact ⟨y, cs', by rw [← hcz]; exact h1, hy⟩)
    refine ⟨⟨some a, m, xs⟩, by simp [Sl.v, hxl], by simp only [hxl]; exact hl, hw1, ?_⟩
    by_cases h0 : xs = []
    · exact .inl h0
    · right
      have h0l : 0 < xs.length := List.length_pos_iff.2 h0
      obtain ⟨cs0, hc0, _⟩ := hx 0 xs[0] (List.getElem?_eq_getElem h0l)
      have ha0 : a.add (0 * sz) = a := by simp [Addr.add]
      rw [ha0] at hc0
      obtain ⟨b, o, rfl, _, _⟩ := cells_none hc0 hsz
      refine ⟨b, o, rfl, fun i y hi => ?_⟩
      obtain ⟨cs', hc, hr⟩ := hx i y hi
      rw [addr_add] at hc
      obtain ⟨b', o', he', hl', hcc⟩ := cells_none hc hsz
      simp only [Addr.mk.injEq] at he'
      obtain ⟨rfl, rfl, _⟩ := he'
      exact ⟨cs', hl', hcc, hr⟩

/-- the fields of a struct: types, places, sizes -/
def fieldsL (P : Program) : List Field → Option (List (TypeId × Nat × Nat))
  | [] => some []
  | f :: fs => match sizeT P f.type, fieldsL P fs with
    | some k, some r => some ((f.type, f.offset, k) :: r)
    | _, _ => none
def fieldsT (P : Program) (t : TypeId) : Option (List (TypeId × Nat × Nat)) := match P.underlying t with
  | some (.struct fs) => fieldsL P fs.toList
  | _ => none
theorem fieldsL_get {P : Program} : ∀ {l : List Field} {r : List (TypeId × Nat × Nat)}, fieldsL P l = some r → ∀ (j : Nat) (q : TypeId × Nat × Nat), r[j]? = some q → ∃ f, l[j]? = some f ∧ q.1 = f.type ∧ q.2.1 = f.offset ∧ sizeT P f.type = some q.2.2 := by
  intro l
  induction l with
  | nil => intro r h j q hq; simp only [fieldsL, Option.some.injEq] at h; subst h; simp at hq
  | cons f fs ih =>
    intro r h j q hq
    simp only [fieldsL] at h
    split at h
    · rename_i k r' hk hr
      simp only [Option.some.injEq] at h
      subst h
      cases j with
      | zero => simp only [List.getElem?_cons_zero, Option.some.injEq] at hq; subst hq; exact ⟨f, rfl, rfl, rfl, hk⟩
      | succ j => simp only [List.getElem?_cons_succ] at hq ⊢; exact ih hr j q hq
    · cases h
/-- each field of a struct that was read can be decoded -/
theorem dec_field {P : Program} {t : TypeId} {l : List (TypeId × Nat × Nat)} (hf : fieldsT P t = some l) {H : Type} {enc : TypeId × Value → H} {w : World} {fuel : Nat} {cs : List Value} {x : DataW H × List MemPlace}
    (h : DataW.trod enc P w 0 (fun _ => true) true fuel t cs = some x) (hn : ∀ n, n ∈ x.1.weights P t → n ≤ reachBytes) :
    ∀ (j : Nat) (q : TypeId × Nat × Nat), l[j]? = some q → ∀ {α : Type} {R : World → List Value → α → Prop}, Decodes P q.1 R → ∃ y : α, R w ((cs.drop q.2.1).take q.2.2) y := by
  intro j q hq α R D
  unfold fieldsT at hf
  split at hf
  · rename_i fs hu
    obtain ⟨xs, n, _, rfl, hlen, hxl, hfl⟩ := DataW.trod_struct hu h
    obtain ⟨f, hfj, h1, h2, h3⟩ := fieldsL_get hf j q hq
    have hfj' : fs[j]? = some f := by simpa using hfj
    have := hfl j f hfj'
    have hcz : P.cellsOf f.type = q.2.2 := by
      unfold Program.cellsOf; unfold sizeT at h3; rw [h3]; rfl
    rw [hcz, ← h2] at this
    have hj : j < xs.length := by rw [hxl]; exact (Array.getElem?_eq_some_iff.1 hfj').1
    rw [List.getElem?_eq_getElem hj] at this
    refine D H enc w n _ xs[j] (h1 ▸ this) (fun k hk => hn k ?_)
    simp only [DataW.weights, hu]
    refine DataW.weights_mem_each (j := j) (t := f.type) (d := xs[j].1) ?_ ?_ k (h1 ▸ hk)
    · simp [hfj]
    · simp [List.getElem?_eq_getElem hj]
  · cases hf
theorem dec_len {P : Program} {t k : Nat} (ha : aggT P t = some true) (hs : sizeT P t = some k) {H : Type} {enc : TypeId × Value → H} {w : World} {fuel : Nat} {cs : List Value} {x : DataW H × List MemPlace}
    (h : DataW.trod enc P w 0 (fun _ => true) true fuel t cs = some x) : cs.length = k := by
  have hcz : P.cellsOf t = k := by
    unfold Program.cellsOf; unfold sizeT at hs; rw [hs]; rfl
  unfold aggT at ha
  split at ha
  · rename_i fs hu
    obtain ⟨_, _, _, _, hlen, _⟩ := DataW.trod_struct hu h
    exact hlen.trans hcz
  · rename_i m el hu
    cases fuel with
    | zero => simp [DataW.trod] at h
    | succ n =>
      unfold DataW.trod at h
      rw [hu] at h
      split at h <;> simp_all
  · cases ha
  · cases ha
/-- an array of bytes -/
def RBytes (k : Nat) : World → List Value → List UInt8 → Prop := fun _ cs bs => bs.length = k ∧ cs = bs.map u8
theorem dec_bytes {P : Program} {t e k : Nat} (ha : arrT P t = some (k, e)) (hu : P.underlying e = some (.int .u8)) (hs : sizeT P e = some 1) (hk : sizeT P t = some k) : Decodes P t (RBytes k) := by
  intro H enc w fuel cs x h _
  have hua := arr_u ha
  have hcz : P.cellsOf e = 1 := by
    unfold Program.cellsOf; unfold sizeT at hs; rw [hs]; rfl
  obtain ⟨xs, m, _, _, hl, hxl, hx⟩ := DataW.trod_array hua h
  have hlk : cs.length = k := by
    rw [hl]
    unfold Program.cellsOf; unfold sizeT at hk; rw [hk]; rfl
  obtain ⟨bs, hbl, hb⟩ := list_of (p := fun i (b : UInt8) => cs[i]? = some (u8 b)) k (fun i hi => by
    have h1 := hx i hi
    rw [hcz, Nat.mul_one, List.getElem?_eq_getElem (by omega)] at h1
    have h2 : (cs.drop i).take 1 = [cs[i]'(by omega)] := by
      rw [List.drop_eq_getElem_cons (by omega)]; rfl
    rw [h2] at h1
    obtain ⟨b, hb⟩ := dec_u8 hu H enc w m _ _ h1 (by
      intro n hn
      obtain ⟨z, _, hz, _⟩ := DataW.trod_int hu h1
      rw [hz] at hn
      simp [DataW.weights] at hn)
    refine ⟨b, ?_⟩
    have hb' : [cs[i]'(by omega)] = [u8 b] := hb
    simp only [List.cons.injEq, and_true] at hb'
    rw [List.getElem?_eq_getElem (by omega), hb'])
  refine ⟨bs, hbl, ?_⟩
  apply List.ext_getElem?
  intro i
  by_cases hi : i < k
  · rw [hb i bs[i] (List.getElem?_eq_getElem (by omega)), List.getElem?_map, List.getElem?_eq_getElem (by omega)]; rfl
  · rw [List.getElem?_eq_none (by omega), List.getElem?_eq_none (by simp; omega)]

/- arguments -/
theorem arg_agg {P : Program} {W : World} {base t : Nat} {v : Value} {α : Type} {R : World → List Value → α → Prop} (ha : aggT P t = some true) (hval : Value.okWide P W .any base t v) (D : Decodes P t R)
    {H : Type} {enc : TypeId × Value → H} {d : DataW H} {ps : List MemPlace} (h : DataW.Trod enc P W 0 (fun _ => true) true t v d ps) (hn : ∀ n, n ∈ d.weights P t → n ≤ reachBytes) : ∃ cs : List Value, v = .agg cs.toArray ∧ ∃ x : α, R W cs x := by
  obtain ⟨fuel, hf⟩ := h
  obtain ⟨x, hx⟩ := D H enc W fuel _ _ hf hn
  have : ∃ cs, v = .agg cs := by
    unfold aggT at ha
    unfold Value.okWide at hval
    split at ha
    · rename_i fs hu; rw [hu] at hval; obtain ⟨cs, h, _⟩ := hval; exact ⟨cs, h⟩
    · rename_i m el hu; rw [hu] at hval; obtain ⟨cs, h, _⟩ := hval; exact ⟨cs, h⟩
    · cases ha
    · cases ha
  obtain ⟨cs, rfl⟩ := this
  exact ⟨cs.toList, by simp, x, hx⟩
theorem sized_arg {H : Type} {P : Program} {ts : List TypeId} {ds : List (DataW H)} (h : (DataW.weightsEach P ts ds).all (· ≤ reachBytes) = true) {j : Nat} {t : TypeId} {d : DataW H} (ht : ts[j]? = some t) (hd : ds[j]? = some d) :
    ∀ n, n ∈ d.weights P t → n ≤ reachBytes := fun n hn => by
  have := List.all_eq_true.1 h _ (DataW.weights_mem_each ht hd n hn)
  simpa using this
/-- bytes that came in -/
theorem RSl.row {W : World} {by_ : Nat} {s : Sl UInt8} {cs : List Value} (h : RSl 1 by_ RU8 W cs s) : Row W s.v s.xs.length (s.xs.map u8) := by
  obtain ⟨_, h1, _, h2⟩ := h
  refine ⟨s.a, s.c, rfl, h1, ?_⟩
  rcases h2 with h2 | ⟨b, o, ha, h2⟩
  · left; rw [h2]; rfl
  · right
    refine ⟨b, o, ha, fun j hj => ?_⟩
    simp only [List.length_map] at hj
    obtain ⟨cs', hl, hc, hr⟩ := h2 j s.xs[j] (List.getElem?_eq_getElem hj)
    have hr' : cs' = [u8 s.xs[j]] := hr
    subst hr'
    have := hc 0 (by simp)
    rw [show o + j = o + j * 1 + 0 by omega, this]
    simp [List.getElem?_eq_getElem hj]
theorem RSl.at {α : Type} {W : World} {sz by_ : Nat} {R : World → List Value → α → Prop} {s : Sl α} {cs : List Value} (h : RSl sz by_ R W cs s) {i : Nat} (hi : i < s.xs.length) :
    ∃ b o cs', s.a = some ⟨b, o, none⟩ ∧ cs'.length = sz ∧ Cells W b (o + (i : Int).toNat * sz) cs' ∧ R W cs' s.xs[i] := by
  obtain ⟨_, _, _, h2⟩ := h
  rcases h2 with h2 | ⟨b, o, ha, h2⟩
  · rw [h2] at hi; simp at hi
  · obtain ⟨cs', h3, h4, h5⟩ := h2 i s.xs[i] (List.getElem?_eq_getElem hi)
    exact ⟨b, o, cs', ha, h3, by simpa using h4, h5⟩
end Go.J
/-
  Identities that come in; RingNexts: the walk.
-/
namespace Go.Proofs.Ytbafhclandendaa
open Go.J Go.RowKit
set_option linter.unusedVariables false
set_option linter.unusedSimpArgs false
set_option maxRecDepth 4000
def RId : World → List Value → IDV → Prop := fun _ cs a => cs = cI a
theorem dec_id : Decodes Try.prog 23 RId := by
  intro H enc w fuel cs x h hn
  obtain ⟨bs, hl, rfl⟩ := dec_bytes Ty.ar23 Ty.u5 Ty.s5 Ty.s23 H enc w fuel cs x h hn
  obtain ⟨a, ha⟩ := list16 bs hl
  exact ⟨a, by rw [ha]; rfl⟩
theorem RSl.len {W : World} {sz by_ : Nat} {α : Type} {R : World → List Value → α → Prop} {s : Sl α} {cs : List Value} (h : RSl sz by_ R W cs s) (hb : 0 < by_) : s.xs.length ≤ reachBytes := by
  obtain ⟨_, h1, h2, _⟩ := h
  have := Nat.le_mul_of_pos_right s.c hb
  omega

end Go.Proofs.Ytbafhclandendaa
/-
  RingWants: the walk.
-/
namespace Go.Proofs.Ytbafhclandendaa
open Go.J Go.RowKit
set_option linter.unusedVariables false
set_option linter.unusedSimpArgs false
set_option maxRecDepth 4000
theorem wantI_le (me : IDV) (xs : List IDV) (half : Int) : (wantI me xs half).length ≤ xs.length := Nat.le_trans (List.length_filter_le _ _) (sortI_le xs me)

end Go.Proofs.Ytbafhclandendaa
/-
  Who wants whom is mutual; ring.Mutual and RingMutual: the walks.
-/
namespace Go.Proofs.Ytbafhclandendaa
open Go.J Go.RowKit
set_option linter.unusedVariables false
set_option linter.unusedSimpArgs false
set_option maxRecDepth 4000
end Go.Proofs.Ytbafhclandendaa
/-
  The ring's plain laws: whoever isn't the nearest wants a nearer one; whom those that are wanted want; going round; whoever comes.
-/
namespace Go.Proofs.Ytbafhclandendaa
open Go.J Go.RowKit
set_option linter.unusedVariables false
set_option linter.unusedSimpArgs false
set_option maxRecDepth 4000
/-- how far, the shorter way -/
noncomputable def farI (d a : IDV) : Nat := if eI d a < dI d a then eI d a else dI d a
def nearP (d a b : IDV) : Prop := farI d a < farI d b ∨ (farI d a = farI d b ∧ dI d a < dI d b)
/-- how near, as one number -/
theorem kN_exists (d x : IDV) : ∃ n : Nat, n = farI d x * 2 ^ 128 + dI d x := ⟨_, rfl⟩
noncomputable def kN (d x : IDV) : Nat := (kN_exists d x).choose
/-- the place of the first one of which a number is least; -1 -/
def argI (f : IDV → Nat) (xs : List IDV) : Int := match xs.findIdx? (fun x => xs.all (fun y => decide (f x ≤ f y))) with
  | some i => (i : Int)
  | none => -1
/- going round -/
noncomputable def cntR (me : IDV) (xs : List IDV) (at_ : IDV) : Nat := (sortI xs me).countP (fun y => decide (dI me y ≤ dI me at_))
/- whoever comes -/
end Go.Proofs.Ytbafhclandendaa
/-
  The document's Far, Nearer, Nearest: contracts.
-/
namespace Go.Proofs.Ytbafhclandendaa
open Go.J Go.RowKit
set_option linter.unusedVariables false
set_option linter.unusedSimpArgs false
set_option maxRecDepth 4000
noncomputable def farV (d x : IDV) : IDV := if eI d x < dI d x then subI d x else subI x d
end Go.Proofs.Ytbafhclandendaa
/-
  The program's Far, Nearer, Nearest; who is the root, to whom an item is owed: contracts.
-/
namespace Go.Proofs.Ytbafhclandendaa
open Go.J Go.RowKit
set_option linter.unusedVariables false
set_option linter.unusedSimpArgs false
set_option maxRecDepth 4000
def bst : Nat → Nat → Int
  | 0, _ => -1
  | _ + 1, j => (j : Int)
theorem one_fI {xs : List IDV} {y : Value} (h : y ∈ fI xs) : y.oneCell' = true := by
  obtain ⟨x, _, hx⟩ := List.mem_flatMap.1 h
  simp only [List.mem_cons, List.mem_nil_iff, or_false] at hx
  rcases hx with rfl | rfl | rfl | rfl | rfl | rfl | rfl | rfl | rfl | rfl | rfl | rfl | rfl | rfl | rfl | rfl <;> rfl
theorem vec_rowM {w0 w : World} {S : List Nat} {l lp : List (Nat × Obj)} {t sz : Nat} {v : Value} {k : Nat} {xs : List Value} (h : Vec t sz v k xs lp) (hw : St w0 S l w) (hm : ∀ p, p ∈ lp → p ∈ l) : Row w v k xs := by
  obtain ⟨hl, h⟩ := h
  rcases h with ⟨rfl, rfl, rfl⟩ | ⟨b, c, sp, rfl, rfl, _, hk⟩
  · exact ⟨none, 0, rfl, Nat.le_refl _, .inl (List.eq_nil_of_length_eq_zero (by simpa using hl))⟩
  · exact Row.own (cs := xs ++ sp) (tb := t) (fr := (0, 0)) hw (hm _ (.head _)) (by simp) hk
/-- is a node the nearest one of all? -/
noncomputable def rootV (self : IDV) (fs : List IDV) (key : IDV) : Bool := fs.all (fun x => !decide (kN key x < kN key self))
/-- the nearest one of some -/
noncomputable def minV (key : IDV) (l : List IDV) : IDV := (l[(argI (kN key) l).toNat]?).getD zI
/-- to whom an item is handed -/
noncomputable def owedV (self : IDV) (fs : List IDV) (key : IDV) : List IDV := if rootV self (sortI fs self) key = true then sortI fs self else [minV key (sortI fs self)]
end Go.Proofs.Ytbafhclandendaa
/-
  Who is the root, to whom an item is owed; the example of layer 19: contracts.
-/
namespace Go.Proofs.Ytbafhclandendaa
open Go.J Go.RowKit
set_option linter.unusedVariables false
set_option linter.unusedSimpArgs false
set_option maxRecDepth 4000

end Go.Proofs.Ytbafhclandendaa
/-
  Arguments: arrays of what can be decoded. Proved over any program.
-/
namespace Go.J
open Go.ChangeShapes Go.WideShapes Go.ChangeAt Go.RowKit
set_option linter.unusedVariables false
set_option linter.unusedSimpArgs false
def RArr {α : Type} (k sz : Nat) (R : World → List Value → α → Prop) : World → List Value → List α → Prop := fun w cs xs =>
  cs.length = k * sz ∧ xs.length = k ∧ ∀ i x, xs[i]? = some x → R w ((cs.drop (i * sz)).take sz) x
/-- an array of two -/
theorem RArr.two {α : Type} {sz : Nat} {R : World → List Value → α → Prop} {w : World} {cs : List Value} {xs : List α} (h : RArr 2 sz R w cs xs) : ∃ a b c1 c2, cs = c1 ++ c2 ∧ R w c1 a ∧ R w c2 b := by
  obtain ⟨h1, h2, h3⟩ := h
  match xs, h2 with
  | [a, b], _ =>
    refine ⟨a, b, cs.take sz, cs.drop sz, (List.take_append_drop _ _).symm, ?_, ?_⟩
    · have := h3 0 a rfl
      simpa using this
    · have := h3 1 b rfl
      rw [Nat.one_mul, List.take_of_length_le (by rw [List.length_drop]; omega)] at this
      exact this
end Go.J
/-
  The calculus: ranging over a map; a range over an iterator function, and its rounds. Proved over any program.
-/
namespace Go.J
open Go.RowKit
open Go.ChangeMaps (setBlock)
set_option linter.unusedVariables false
set_option linter.unusedSimpArgs false

/- ranging over a map -/
/-- where an iterator over a map stands: the stamps of the entries that came -/
def IterAt (b : Nat) (es : Array MapEntry) (clock : Nat) (sn : List Nat) (o : Obj) : Prop :=
  ∃ since c0, o = .mapIter (some b) since sn.toArray c0 ∧ since ≤ c0 ∧ since ≤ clock ∧ ∀ x, x ∈ es.toList → x.born < since
/-- it has just handed out an entry -/
def IterOn (b : Nat) (es : Array MapEntry) (clock : Nat) (sn : List Nat) (en : MapEntry) (o : Obj) : Prop :=
  ∃ since, o = .mapIter (some b) since (sn.toArray.push en.born) clock ∧ since ≤ clock ∧ ∀ x, x ∈ es.toList → x.born < since
theorem IterOn.at {b : Nat} {es : Array MapEntry} {clock : Nat} {sn : List Nat} {en : MapEntry} {o : Obj} (h : IterOn b es clock sn en o) : IterAt b es clock (sn ++ [en.born]) o := by
  obtain ⟨since, h1, h2, h3⟩ := h
  exact ⟨since, clock, by rw [h1]; simp, h2, h2, h3⟩
def nextA : Option MapEntry → Array Value
  | none => #[.bool false]
  | some e => #[.bool true, e.key, e.val]
/-- what a step of it does -/
def NextTo (b : Nat) (es : Array MapEntry) (clock : Nat) (sn : List Nat) (o : Obj) : Option MapEntry → Obj → Prop
  | none, o' => o' = o ∧ ∀ x, x ∈ es.toList → x.born ∈ sn
  | some en, o' => en ∈ es.toList ∧ en.born ∉ sn ∧ IterOn b es clock sn en o'

section
variable {P : Program} {ops : Array Oper} {Q : Exit → Act → World → Prop} {n : Nat} {e : Env} {I I' : World → Prop} {rest : List Oper}
variable {d t : Nat} {p : String} {af : Array Edge} {x y z : Operand} {v v1 v2 : Value} {w0 : World} {S : List Nat} {l l' : List (Nat × Obj)}

theorem J.range {ty kt et b clock : Nat} {es : Array MapEntry} (hu : P.underlying ty = some (.map kt et)) (hx : ev e x = some (.map (some b))) (hb : ∀ w, St w0 S l w → w.heap[b]? = some (.map es clock))
    (hst : ∀ x, x ∈ es.toList → x.born < clock) (hd : Nat.blt d n = true)
    (h : ∀ r o, IterAt b es clock [] o → J P ops Q n rest ((d, .pointer (some ⟨r, 0, none⟩)) :: e) (St w0 S ((r, o) :: l))) :
    J P ops Q n (⟨some d, .range ty x, t, p, af, none⟩ :: rest) e (St w0 S l) := by
  refine J.valueEx (V := fun r => .pointer (some ⟨r, 0, none⟩)) (I' := fun r => St w0 S ((r, .mapIter (some b) clock #[] clock) :: l)) hd (fun T w ht hw => ⟨w.heap.size, w.alloc (.mapIter (some b) clock #[] clock), ?_, ?_⟩) (fun r => h r _ ⟨clock, clock, rfl, Nat.le_refl _, Nat.le_refl _, hst⟩)
  · simp [execOp, ht.eval hx, run_range_map w ty kt et b es clock hu (hb w hw)]
  · exact hw.new (below_alloc' w _) (Nat.le_refl _) (alloc_at w _)

theorem J.entry {b r clock : Nat} {es : Array MapEntry} {sn : List Nat} {en : MapEntry} {o : Obj} (hx : ev e x = some (.pointer (some ⟨r, 0, none⟩))) (hm : (r, o) ∈ l) (hI : IterOn b es clock sn en o) (he : en ∈ es.toList) (hn : (es.toList.map (·.born)).Nodup)
    (hb : ∀ w, St w0 S l w → w.heap[b]? = some (.map es clock)) (hd : Nat.blt d n = true)
    (h : J P ops Q n rest ((d, .tuple #[en.key, en.val]) :: e) (St w0 S l)) :
    J P ops Q n (⟨some d, .entry x, t, p, af, none⟩ :: rest) e (St w0 S l) := by
  obtain ⟨since, rfl, h1, h2⟩ := hI
  refine J.value hd (fun T w ht hw => ⟨w, ?_, hw⟩) h
  have hrun := run_entry_at (P := P) w r b since sn.toArray es clock en (hw.own _ hm) (hb w hw) he hn
  simp [execOp, ht.eval hx, hrun]

end
/- taking an entry out of a map -/
section
variable {P : Program} {ops : Array Oper} {Q : Exit → Act → World → Prop} {n : Nat} {e : Env} {I I' : World → Prop} {rest : List Oper}
variable {d t : Nat} {p : String} {af : Array Edge} {x y z : Operand} {v v1 v2 : Value} {w0 : World} {S : List Nat} {l l' : List (Nat × Obj)}
/- operations in a round's frame; yield -/
/-- a call of yield: its run, and the round -/
def YieldTo (F : Fence) (m : Nat) (P : Program) (l : Nat) (args : Array Value) (W : World) (R : Ending → World → Prop) : Prop :=
  ∃ fn tmps assign body, (Instr.yield l args).run P W = .ok (.round l fn tmps assign body) W ∧ RoundIn F m P l fn tmps assign body W R
abbrev FW (r : Option Nat) : Fence := { fn := fun _ => True, depth := none, alive := false, round := r }
def noDefB (o : Oper) : Bool := match o.op with
  | .defer _ => false
  | _ => true
def QX {α : Type} (n : Nat) (E : α → Env) (I' : α → World → Prop) : Exit → Act → World → Prop := fun x a w => x = .normal ∧ ∃ z, a.defers = [] ∧ Rep n a.tmps (E z) ∧ I' z w
theorem QX.normal {α : Type} {n : Nat} {E : α → Env} {I' : α → World → Prop} : ∀ x a w, QX n E I' x a w → x = .normal := fun _ _ _ h => h.1
def JI (P : Program) (r : Option Nat) (ops : Array Oper) (Q : Exit → Act → World → Prop) (n : Nat) (rest : List Oper) (e : Env) (I : World → Prop) : Prop := ∀ T w, Rep n T e → I w → wpListIn (FW r) 0 P ops Q rest (act T) w
theorem JI.nil {r : Option Nat} (h : JX Q n .normal e I) : JI P r ops Q n [] e I := fun T w ht hw => h T w ht hw
/-- a call of yield -/
theorem JI.yield {lb : Nat} {xs : List Operand} {ats : Array TypeId} {vs : List Value} {R : Value → World → Prop} (hy : ev e y = some (.func (.yield lb) #[] #[])) (hx : evs e xs = some vs) (hd : Nat.blt d n = true)
    (hc : ∀ w, I w → YieldTo (FW none) 0 P lb vs.toArray w fun r w' => ∃ v, r = .returned v ∧ R v w')
    (h : ∀ v, JI P none ops Q n rest ((d, v) :: e) (R v)) : JI P none ops Q n (⟨some d, .call ⟨.value y, xs.toArray, ats⟩, t, p, af, none⟩ :: rest) e I := by
  intro T w ht hw
  obtain ⟨fn, tmps, assign, body, hyr, hR⟩ := hc w hw
  have hr : (execOp (act T).eval ⟨some d, .call ⟨.value y, xs.toArray, ats⟩, t, p, af, none⟩).run P w = .ok (.round lb fn tmps assign body) w := by
    have := ht.evals hx
    simp [execOp, resolve, ht.eval hy, Deferred.ofValue, invoke, this, hyr]
  show (if Region.wanted _ (yielded ops T) then Oper.wpIn (FW none) 0 P _ (act T) w (wpListIn (FW none) 0 P ops Q rest) Q else _)
  rw [if_pos (by simp [Region.wanted])]
  refine ⟨fun _ _ => trivial, ?_⟩
  rw [Oper.semAt_eq _ _ _ (fun c hc => by cases hc), hr]
  refine ⟨(fun h => by cases h), hR.mono fun r w' ⟨v, hv, hRv⟩ => ?_⟩
  subst hv
  exact h v _ w' (ht.put hd v) hRv
end

/- one round out of its two regions -/
/- the statement; what stands behind it -/
def markOf (D : Nat) : List Deferred := [{ target := .collected D, args := #[] }]
/-- the same, told by known blocks; the loop's record by its fields -/
structure RecIs (rec : Loop) (fn : FuncId) (T : Array Value) (ps : Array Tmp) (assign body : Code) (D : Nat) : Prop where
  state : rec.state = .ready
  pending : rec.pending = none
  fn : rec.fn = fn
  tmps : rec.tmps = T
  params : rec.params = ps
  assign : rec.assign = assign
  body : rec.body = body
def Act.more (a : Act) (ds : List Deferred) : Act := ⟨a.tmps, a.defers ++ ds⟩
end Go.J
/-
  The calculus: slices whose capacity may end ahead of their block; s[lo:hi:max]; rows of anything. Proved over any program.
-/
namespace Go.J
open Go.RowKit
set_option linter.unusedVariables false
set_option linter.unusedSimpArgs false
/-- a slice of the call's own of which the block may hold more than its capacity -/
def VecW (t sz : Nat) (v : Value) (k : Nat) (xs : List Value) (lp : List (Nat × Obj)) : Prop :=
  xs.length = k * sz ∧ ((v = .slice none 0 0 ∧ k = 0 ∧ lp = []) ∨ ∃ b c sp, v = .slice (some ⟨b, 0, none⟩) k c ∧ lp = [(b, cb (xs ++ sp) t)] ∧ c * sz ≤ (xs ++ sp).length ∧ k ≤ c)
theorem Vec.weak {t sz : Nat} {v : Value} {k : Nat} {xs : List Value} {lp : List (Nat × Obj)} (h : Vec t sz v k xs lp) : VecW t sz v k xs lp := by
  refine ⟨h.1, ?_⟩
  rcases h.2 with h | ⟨b, c, sp, h1, h2, h3, h4⟩
  · exact .inl h
  · exact .inr ⟨b, c, sp, h1, h2, Nat.le_of_eq h3.symm, h4⟩
theorem VecW.nil (t sz : Nat) : VecW t sz (.slice none 0 0) 0 [] [] := (Vec.nil t sz).weak
theorem VecW.row {w0 w : World} {S : List Nat} {l lp : List (Nat × Obj)} {t sz : Nat} {v : Value} {k : Nat} {xs : List Value} (h : VecW t sz v k xs lp) (hw : St w0 S (lp ++ l) w) : Row w v k xs := by
  obtain ⟨hl, h⟩ := h
  rcases h with ⟨rfl, rfl, rfl⟩ | ⟨b, c, sp, rfl, rfl, _, hk⟩
  · exact ⟨none, 0, rfl, Nat.le_refl _, .inl (List.eq_nil_of_length_eq_zero (by simpa using hl))⟩
  · exact Row.own (cs := xs ++ sp) (tb := t) (fr := (0, 0)) hw (.head _) (by simp) hk
theorem VecW.form {t sz : Nat} {v : Value} {k : Nat} {xs : List Value} {lp : List (Nat × Obj)} (h : VecW t sz v k xs lp) : ∃ a c, v = .slice a k c ∧ k ≤ c := by
  rcases h.2 with ⟨rfl, rfl, rfl⟩ | ⟨b, c, sp, rfl, rfl, _, hk⟩
  · exact ⟨none, 0, rfl, Nat.le_refl _⟩
  · exact ⟨_, c, rfl, hk⟩
/-- its first j elements, with no more room than that -/
theorem VecW.cut {t sz : Nat} {a : Option Addr} {k c j : Nat} {xs : List Value} {lp : List (Nat × Obj)} (h : VecW t sz (.slice a k c) k xs lp) (hj : j ≤ k) : VecW t sz (.slice a j j) j (xs.take (j * sz)) lp := by
  have hl := h.1
  have hle : j * sz ≤ xs.length := by rw [hl]; exact Nat.mul_le_mul_right _ hj
  refine ⟨by rw [List.length_take]; omega, ?_⟩
  rcases h.2 with ⟨h1, h2, h3⟩ | ⟨b, c', sp, h1, h2, h3, h4⟩
  · simp only [Value.slice.injEq] at h1
    obtain ⟨rfl, _, _⟩ := h1
    obtain rfl : j = 0 := by omega
    exact .inl ⟨rfl, rfl, h3⟩
  · simp only [Value.slice.injEq] at h1
    obtain ⟨rfl, _, _⟩ := h1
    refine .inr ⟨b, j, xs.drop (j * sz) ++ sp, rfl, ?_, ?_, Nat.le_refl _⟩
    · rw [h2, ← List.append_assoc, List.take_append_drop]
    · rw [← List.append_assoc, List.take_append_drop, List.length_append]; omega
section
variable {P : Program} {ops : Array Oper} {Q : Exit → Act → World → Prop} {n : Nat} {e : Env} {I I' : World → Prop} {rest : List Oper}
variable {d t : Nat} {p : String} {af : Array Edge} {x y z : Operand} {v v1 v2 : Value} {w0 : World} {S : List Nat} {l l' lp : List (Nat × Obj)}
end
/-- rows of anything -/
theorem fG_length {α : Type} {c : α → List Value} {sz : Nat} (hc : ∀ x, (c x).length = sz) : ∀ xs : List α, (xs.flatMap c).length = xs.length * sz
  | [] => by simp
  | x :: xs => by
    have := fG_length hc xs
    simp only [List.flatMap_cons, List.length_append, List.length_cons, this, hc, Nat.add_mul]
    omega
theorem fG_at {α : Type} {c : α → List Value} {sz : Nat} (hc : ∀ x, (c x).length = sz) : ∀ {xs : List α} {i : Nat} {a : α}, xs[i]? = some a → ((xs.flatMap c).drop (i * sz)).take sz = c a
  | [], i, a, h => by simp at h
  | x :: xs, 0, a, h => by
    simp only [List.getElem?_cons_zero, Option.some.injEq] at h
    subst h
    rw [Nat.zero_mul, List.drop_zero, List.flatMap_cons, ← hc x, List.take_left]
  | x :: xs, i + 1, a, h => by
    have ih := fG_at hc (xs := xs) (i := i) (by simpa using h)
    rw [Nat.add_mul, Nat.one_mul, Nat.add_comm, ← List.drop_drop, List.flatMap_cons]
    have : (c x ++ List.flatMap c xs).drop sz = List.flatMap c xs := by rw [← hc x, List.drop_left]
    rw [this]
    exact ih
theorem rowG_at {α : Type} {c : α → List Value} {sz : Nat} (hc : ∀ x, (c x).length = sz) {w : World} {b o k cc q i : Nat} {xs : List α} {a : α} (h : Row w (.slice (some ⟨b, o, none⟩) k cc) k (xs.flatMap c)) (hi : xs[i]? = some a) (hq : q = o + i * sz) : Cells w b q (c a) := by
  have hl : i < xs.length := (List.getElem?_eq_some_iff.1 hi).1
  have hlen := fG_length hc xs
  intro j hj
  rw [hc a] at hj
  have h1 : (i + 1) * sz ≤ xs.length * sz := Nat.mul_le_mul_right _ hl
  rw [Nat.add_mul, Nat.one_mul] at h1
  obtain ⟨b', o', c', hv, _, hcc⟩ := Row.some h (by omega)
  simp only [Value.slice.injEq, Option.some.injEq, Addr.mk.injEq] at hv
  obtain ⟨⟨rfl, rfl, _⟩, _, rfl⟩ := hv
  subst hq
  rw [Nat.add_assoc, hcc (i * sz + j) (by omega)]
  have e := fG_at hc hi
  have : (c a)[j]? = (((xs.flatMap c).drop (i * sz)).take sz)[j]? := by rw [e]
  rw [this, List.getElem?_take_of_lt hj, List.getElem?_drop]
theorem fG_cell {α : Type} {c : α → List Value} {sz : Nat} (hc : ∀ x, (c x).length = sz) {xs : List α} {i r : Nat} {a : α} (h : xs[i]? = some a) (hr : r < sz) : (xs.flatMap c)[i * sz + r]? = (c a)[r]? := by
  rw [← fG_at hc h, List.getElem?_take_of_lt hr, List.getElem?_drop]
end Go.J
/-
  Arguments: slices of what has fixed cells, as rows. Proved over any program.
-/
namespace Go.J
open Go.ChangeShapes Go.WideShapes Go.ChangeAt Go.RowKit
set_option linter.unusedVariables false
set_option linter.unusedSimpArgs false
theorem rslG {α : Type} {c : α → List Value} {sz by_ : Nat} (hc : ∀ x, (c x).length = sz) (hz : 0 < sz) {R : World → List Value → α → Prop} (hR : ∀ W cs x, R W cs x → cs = c x) {W : World} {s : Sl α} {cs : List Value} (h : RSl sz by_ R W cs s) : Row W s.v s.xs.length (s.xs.flatMap c) := by
  obtain ⟨_, h1, _, h2⟩ := h
  refine ⟨s.a, s.c, rfl, h1, ?_⟩
  rcases h2 with h2 | ⟨b, o, ha, h2⟩
  · left; rw [h2]; rfl
  · right
    refine ⟨b, o, ha, fun j hj => ?_⟩
    rw [fG_length hc] at hj
    have hi : j / sz < s.xs.length := Nat.div_lt_of_lt_mul (by rw [Nat.mul_comm]; exact hj)
    obtain ⟨cs', hl, hcc, hr⟩ := h2 (j / sz) s.xs[j / sz] (List.getElem?_eq_getElem hi)
    have hr' : cs' = c s.xs[j / sz] := hR _ _ _ hr
    subst hr'
    have hm := Nat.mod_lt j hz
    have := hcc (j % sz) (by rw [hc]; exact hm)
    have hdm : j / sz * sz + j % sz = j := by rw [Nat.mul_comm]; exact Nat.div_add_mod j sz
    rw [show o + j = o + j / sz * sz + j % sz by omega, this, ← fG_cell hc (List.getElem?_eq_getElem hi) hm, hdm]
theorem rslG_all {α : Type} {sz by_ : Nat} {R : World → List Value → α → Prop} {p : α → Prop} (hR : ∀ W cs x, R W cs x → p x) {W : World} {s : Sl α} {cs : List Value} (h : RSl sz by_ R W cs s) : ∀ x, x ∈ s.xs → p x := by
  obtain ⟨_, h1, _, h2⟩ := h
  intro x hx
  rcases h2 with h2 | ⟨b, o, ha, h2⟩
  · rw [h2] at hx; cases hx
  · obtain ⟨i, hi, rfl⟩ := List.getElem_of_mem hx
    obtain ⟨_, _, _, hr⟩ := h2 i s.xs[i] (List.getElem?_eq_getElem hi)
    exact hR _ _ _ hr
end Go.J
/-
  The example of layer 19; CopiesOwes: the walk.
-/
namespace Go.Proofs.Ytbafhclandendaa
open Go.J Go.RowKit
set_option linter.unusedVariables false
set_option linter.unusedSimpArgs false
set_option maxRecDepth 8000
def fx19 : List IDV := [nI 9, nI 20]
end Go.Proofs.Ytbafhclandendaa
/-
  CopiesRises, CopiesComes: plain laws and walks.
-/
namespace Go.Proofs.Ytbafhclandendaa
open Go.J Go.RowKit
set_option linter.unusedVariables false
set_option linter.unusedSimpArgs false
set_option maxRecDepth 8000
end Go.Proofs.Ytbafhclandendaa
/-
  CopiesComes: the walk.
-/
namespace Go.Proofs.Ytbafhclandendaa
open Go.J Go.RowKit
set_option linter.unusedVariables false
set_option linter.unusedSimpArgs false
set_option maxRecDepth 8000
/-- how many are nearer -/
noncomputable def cntN (key a : IDV) (fs : List IDV) : Nat := fs.countP (fun x => decide (kN key x < kN key a))
end Go.Proofs.Ytbafhclandendaa
/-
  CopiesNil: contracts at nil, the walk.
-/
namespace Go.Proofs.Ytbafhclandendaa
open Go.J Go.RowKit
set_option linter.unusedVariables false
set_option linter.unusedSimpArgs false
set_option maxRecDepth 8000
def RAny : World → List Value → Unit → Prop := fun _ _ _ => True
end Go.Proofs.Ytbafhclandendaa
/-
  A map from two identities to a number and an identity. Proved over any program.
-/
namespace Go.J
open Go.RowKit
set_option linter.unusedVariables false
set_option linter.unusedSimpArgs false
/-- a version -/
structure WV where
  n : Int
  who : IDV
deriving instance DecidableEq for WV
abbrev cV (x : WV) : List Value := Value.int .i64 x.n :: cI x.who
abbrev cM (a k : IDV) : List Value := cI a ++ cI k
def zV : WV := ⟨0, fun _ => 0⟩
theorem cM_eq {a k b j : IDV} : cM a k = cM b j ↔ a = b ∧ k = j := by
  show cI a ++ cI k = cI b ++ cI j ↔ _
  rw [app_iff (by rfl), cI_eq, cI_eq]
abbrev BF := IDV → IDV → WV
def updF (F : BF) (a k : IDV) (x : WV) : BF := fun b j => if b = a ∧ j = k then x else F b j
def retF (F : BF) (l : List IDV) : BF := fun b j => if b ∈ l then F b j else zV
/-- what a book's map holds: F's versions, where they aren't zero at least -/
structure Bk (F : BF) (es : Array MapEntry) (clock : Nat) : Prop where
  st : MapKept.Stamped es clock
  at_ : ∀ e, e ∈ es.toList → ∃ a k, e.key = .agg (cM a k).toArray ∧ e.val = .agg (cV (F a k)).toArray
  no : ∀ a k, (∀ e, e ∈ es.toList → e.key ≠ .agg (cM a k).toArray) → F a k = zV
  ok : ∀ a k, okN (F a k).n
theorem okZ : okN zV.n := by decide
theorem Bk.nil : Bk (fun _ _ => zV) #[] 0 := ⟨⟨by simp, by simp, by simp⟩, by simp, fun _ _ _ => rfl, fun _ _ => okZ⟩
theorem Bk.keys {P : Program} {kt : TypeId} {F : BF} {es : Array MapEntry} {clock : Nat} (h : Bk F es clock) (kp : ∀ a k : IDV, ∃ l, keyOf P kt (.agg (cM a k).toArray) = some l) : ∀ e, e ∈ es.toList → ∃ l, keyOf P kt e.key = some l := by
  intro e he
  obtain ⟨a, k, h1, _⟩ := h.at_ e he
  rw [h1]
  exact kp a k
section
variable {P : Program} {ops : Array Oper} {Q : Exit → Act → World → Prop} {n : Nat} {e : Env} {I I' : World → Prop} {rest : List Oper}
variable {d t yt : Nat} {p : String} {af : Array Edge} {x y z : Operand} {v v1 v2 : Value} {w0 : World} {S : List Nat} {l l' : List (Nat × Obj)}
/-- where a round over a book's map stands that takes entries out -/
structure RetS where
  es : Array MapEntry
  F : BF
  sn : List Nat
  o : Obj
structure RetI (es0 : Array MapEntry) (F : BF) (fs : List IDV) (b clock : Nat) (s : RetS) : Prop where
  bk : Bk s.F s.es clock
  it : IterAt b s.es clock s.sn s.o
  sub : ∀ e, e ∈ s.es.toList → e ∈ es0.toList
  nd : s.sn.Nodup
  old : ∀ x, x ∈ s.sn → x ∈ es0.toList.map (·.born)
  same : ∀ a k, a ∈ fs → s.F a k = F a k
  seen : ∀ e, e ∈ s.es.toList → e.born ∈ s.sn → ∀ a k, e.key = .agg (cM a k).toArray → a ∈ fs
theorem born_inj {es : Array MapEntry} {clock : Nat} (h : MapKept.Stamped es clock) {x y : MapEntry} (hx : x ∈ es.toList) (hy : y ∈ es.toList) (he : x.born = y.born) : x = y := by
  obtain ⟨i, hi⟩ := List.mem_iff_getElem?.1 hx
  obtain ⟨j, hj⟩ := List.mem_iff_getElem?.1 hy
  have h1 : (es.toList.map (·.born))[i]? = (es.toList.map (·.born))[j]? := by rw [List.getElem?_map, List.getElem?_map, hi, hj]; simp [he]
  have h2 := (List.getElem?_inj (by simpa using (List.getElem?_eq_some_iff.1 hi).1) h.2.1).1 h1
  subst h2
  rw [hi] at hj
  exact Option.some.inj hj
theorem nodup_le {l m : List Nat} (hl : l.Nodup) (hs : ∀ x, x ∈ l → x ∈ m) : l.length ≤ m.length := by
  induction l generalizing m with
  | nil => simp
  | cons a l ih =>
    have h1 := List.nodup_cons.1 hl
    have h2 := ih (m := m.erase a) h1.2 (fun x hx => (List.mem_erase_of_ne (fun e => h1.1 (by rw [← e]; exact hx))).2 (hs x (.tail _ hx)))
    have h3 := List.length_erase_of_mem (hs a (.head _))
    have h4 := List.length_pos_of_mem (hs a (.head _))
    simp only [List.length_cons]
    omega
theorem IterOn.sub {b : Nat} {es es' : Array MapEntry} {clock : Nat} {sn : List Nat} {en : MapEntry} {o : Obj} (h : IterOn b es clock sn en o) (hs : ∀ e, e ∈ es'.toList → e ∈ es.toList) : IterOn b es' clock sn en o := by
  obtain ⟨since, h1, h2, h3⟩ := h
  exact ⟨since, h1, h2, fun x hx => h3 x (hs x hx)⟩
section
variable {es0 : Array MapEntry} {F : BF} {fs : List IDV} {b clock : Nat} {s : RetS} {en : MapEntry} {o' : Obj}
theorem RetI.more (h : RetI es0 F fs b clock s) (hm : en ∈ s.es.toList) (hn : en.born ∉ s.sn) : (s.sn ++ [en.born]).Nodup ∧ (∀ x, x ∈ s.sn ++ [en.born] → x ∈ es0.toList.map (·.born)) ∧ s.sn.length + 1 ≤ es0.size := by
  have h1 : (s.sn ++ [en.born]).Nodup := List.nodup_append.2 ⟨h.nd, by simp, fun x hx y hy e => hn (by simp at hy; rw [← hy, ← e]; exact hx)⟩
  have h2 : ∀ x, x ∈ s.sn ++ [en.born] → x ∈ es0.toList.map (·.born) := fun x hx => (List.mem_append.1 hx).elim (h.old x) (fun hx => by rw [List.mem_singleton.1 hx]; exact List.mem_map.2 ⟨en, h.sub en hm, rfl⟩)
  have h3 := nodup_le h1 h2
  simp at h3
  exact ⟨h1, h2, h3⟩
theorem RetI.keep (h : RetI es0 F fs b clock s) (hm : en ∈ s.es.toList) (hn : en.born ∉ s.sn) (ho : IterOn b s.es clock s.sn en o') {a k : IDV} (hk : en.key = .agg (cM a k).toArray) (ha : a ∈ fs) : RetI es0 F fs b clock ⟨s.es, s.F, s.sn ++ [en.born], o'⟩ := by
  obtain ⟨h1, h2, _⟩ := h.more hm hn
  refine ⟨h.bk, ho.at, h.sub, h1, h2, h.same, fun e he hb a' k' hk' => ?_⟩
  rcases List.mem_append.1 hb with hb | hb
  · exact h.seen e he hb a' k' hk'
  · have : e = en := born_inj h.bk.st he hm (List.mem_singleton.1 hb)
    subst this
    have := cM_eq.1 (agg_inj.1 (hk'.symm.trans hk))
    rw [this.1]; exact ha
theorem RetI.done (h : RetI es0 F fs b clock s) (hall : ∀ x, x ∈ s.es.toList → x.born ∈ s.sn) : Bk (retF F fs) s.es clock := by
  have : s.F = retF F fs := by
    funext a k
    unfold retF
    by_cases ha : a ∈ fs
    · rw [if_pos ha]; exact h.same a k ha
    · rw [if_neg ha]
      exact h.bk.no a k (fun e he hk => ha (h.seen e he (hall e he) a k hk))
  rw [← this]
  exact h.bk
theorem RetI.start {F : BF} {es : Array MapEntry} {o : Obj} (hb : Bk F es clock) (ho : IterAt b es clock [] o) : RetI es F fs b clock ⟨es, F, [], o⟩ :=
  ⟨hb, ho, fun _ h => h, .nil, by simp, fun _ _ _ => rfl, by simp⟩
end
end
end Go.J
/-
  The program's book: what Mark and Retain do: contracts.
-/
namespace Go.Proofs.Ytbafhclandendaa
open Go.J Go.RowKit
set_option linter.unusedVariables false
set_option linter.unusedSimpArgs false
set_option maxRecDepth 8000
namespace Ty
end Ty
theorem one_cI (a : IDV) : ∀ v, v ∈ cI a → v.oneCell' = true := fun v hv => one_fI (xs := [a]) (by simpa using hv)
end Go.Proofs.Ytbafhclandendaa
/-
  Stable sorting: plain laws. Nothing of a program.
-/
namespace Go.J
set_option linter.unusedVariables false
set_option linter.unusedSimpArgs false
section
variable {α : Type}
/-- an order of classes -/
structure Swo (lt : α → α → Prop) : Prop where
  irr : ∀ x, ¬ lt x x
  tr : ∀ {x y z}, lt x y → lt y z → lt x z
  ntr : ∀ {x y z}, ¬ lt x y → ¬ lt y z → ¬ lt x z
theorem Swo.asym {lt : α → α → Prop} (h : Swo lt) {x y : α} (h1 : lt x y) : ¬ lt y x := fun h2 => h.irr x (h.tr h1 h2)
/-- less, and not more than -/
theorem Swo.lt_le {lt : α → α → Prop} (h : Swo lt) {x y z : α} (h1 : lt x y) (h2 : ¬ lt z y) : lt x z := Classical.byContradiction fun h3 => by
  have := h.ntr h3 h2
  exact this h1
theorem Swo.le_lt {lt : α → α → Prop} (h : Swo lt) {x y z : α} (h1 : ¬ lt y x) (h2 : lt y z) : lt x z := Classical.byContradiction fun h3 => by
  have := h.ntr h1 h3
  exact this h2
def Srt (lt : α → α → Prop) (xs : List α) : Prop := xs.Pairwise (fun x y => ¬ lt y x)
section
variable {lt : α → α → Prop}
theorem Srt.app {a b : List α} : Srt lt (a ++ b) ↔ Srt lt a ∧ Srt lt b ∧ ∀ x, x ∈ a → ∀ y, y ∈ b → ¬ lt y x := List.pairwise_append
theorem Srt.get {xs : List α} (h : Srt lt xs) {i j : Nat} {x y : α} (hi : xs[i]? = some x) (hj : xs[j]? = some y) (hij : i < j) : ¬ lt y x := by
  obtain ⟨h1, rfl⟩ := List.getElem?_eq_some_iff.1 hi
  obtain ⟨h2, rfl⟩ := List.getElem?_eq_some_iff.1 hj
  exact List.pairwise_iff_getElem.1 h i j h1 h2 hij
theorem Srt.get' (hs : Swo lt) {xs : List α} (h : Srt lt xs) {i j : Nat} {x y : α} (hi : xs[i]? = some x) (hj : xs[j]? = some y) (hij : i ≤ j) : ¬ lt y x := by
  rcases Nat.lt_or_ge i j with h1 | h1
  · exact h.get hi hj h1
  · have : i = j := by omega
    subst this
    rw [hi] at hj
    cases hj
    exact hs.irr _
theorem cut_le (hs : Swo lt) {L R : List α} (hL : Srt lt L) (hR : Srt lt R) {i j : Nat} {x y : α} (hi : L[i]? = some x) (hj : R[j]? = some y) (h : ¬ lt y x) : ∀ u, u ∈ L.take (i + 1) → ∀ v, v ∈ R.drop j → ¬ lt v u := by
  intro u hu v hv
  obtain ⟨p, hp⟩ := List.mem_iff_getElem?.1 hu
  obtain ⟨q, hq⟩ := List.mem_iff_getElem?.1 hv
  have hpl : p < i + 1 := by
    have := (List.getElem?_eq_some_iff.1 hp).1
    rw [List.length_take] at this
    omega
  rw [List.getElem?_take_of_lt hpl] at hp
  rw [List.getElem?_drop] at hq
  exact hs.ntr (hs.ntr (hR.get' hs hj hq (by omega)) h) (hL.get' hs hp hi (by omega))
theorem cut_lt (hs : Swo lt) {L R : List α} (hL : Srt lt L) (hR : Srt lt R) {i j : Nat} {x y : α} (hi : L[i]? = some x) (hj : R[j]? = some y) (h : lt y x) : ∀ u, u ∈ L.drop i → ∀ v, v ∈ R.take (j + 1) → lt v u := by
  intro u hu v hv
  obtain ⟨p, hp⟩ := List.mem_iff_getElem?.1 hu
  obtain ⟨q, hq⟩ := List.mem_iff_getElem?.1 hv
  have hql : q < j + 1 := by
    have := (List.getElem?_eq_some_iff.1 hq).1
    rw [List.length_take] at this
    omega
  rw [List.getElem?_take_of_lt hql] at hq
  rw [List.getElem?_drop] at hp
  exact hs.lt_le (hs.le_lt (hR.get' hs hq hj (by omega)) h) (hL.get' hs hi hp (by omega))
theorem ins_done (hs : Swo lt) {U V : List α} {x : α} (hUV : Srt lt (U ++ V)) (hV : ∀ v, v ∈ V → lt x v) (hU : ∀ u, U.getLast? = some u → ¬ lt x u) : Srt lt (U ++ x :: V) := by
  obtain ⟨a, b, c⟩ := Srt.app.1 hUV
  refine Srt.app.2 ⟨a, List.pairwise_cons.2 ⟨fun v hv => hs.asym (hV v hv), b⟩, fun u hu v hv => ?_⟩
  rcases List.mem_cons.1 hv with rfl | hv
  · have hne : U ≠ [] := fun e => by rw [e] at hu; cases hu
    have h1 := hU (U.getLast hne) (by rw [List.getLast?_eq_some_getLast hne])
    have h2 : ¬ lt (U.getLast hne) u := by
      obtain ⟨i, hi⟩ := List.mem_iff_getElem?.1 hu
      have hil := (List.getElem?_eq_some_iff.1 hi).1
      exact a.get' hs hi (j := U.length - 1) (by rw [List.getLast_eq_getElem, List.getElem?_eq_getElem (by omega)]) (by omega)
    exact hs.ntr h1 h2
  · exact c u hu v hv
end
variable (lt : α → α → Prop) [DecidableRel lt]
def eqv (c x : α) : Bool := !decide (lt c x) && !decide (lt x c)
/-- the same members, and those that are alike in the same order -/
def SE (xs ys : List α) : Prop := ∀ c, xs.filter (eqv lt c) = ys.filter (eqv lt c)
variable {lt}
theorem SE.refl (xs : List α) : SE lt xs xs := fun _ => rfl
theorem SE.trans {xs ys zs : List α} (h1 : SE lt xs ys) (h2 : SE lt ys zs) : SE lt xs zs := fun c => (h1 c).trans (h2 c)
theorem SE.symm {xs ys : List α} (h1 : SE lt xs ys) : SE lt ys xs := fun c => (h1 c).symm
theorem SE.app {a b c d : List α} (h1 : SE lt a b) (h2 : SE lt c d) : SE lt (a ++ c) (b ++ d) := fun x => by rw [List.filter_append, List.filter_append, h1 x, h2 x]
theorem eqv_self (hs : Swo lt) (x : α) : eqv lt x x = true := by simp [eqv, hs.irr x]
theorem SE.mem (hs : Swo lt) {xs ys : List α} (h : SE lt xs ys) (x : α) : x ∈ xs ↔ x ∈ ys := by
  have h1 : ∀ l : List α, x ∈ l ↔ x ∈ l.filter (eqv lt x) := fun l => by simp [List.mem_filter, eqv_self hs x]
  rw [h1 xs, h1 ys, h x]
theorem SE.swap (hs : Swo lt) {l m : List α} (h : ∀ x, x ∈ l → ∀ y, y ∈ m → lt y x) : SE lt (l ++ m) (m ++ l) := by
  intro c
  rw [List.filter_append, List.filter_append]
  by_cases h1 : l.filter (eqv lt c) = []
  · rw [h1]; simp
  · have h2 : m.filter (eqv lt c) = [] := by
      obtain ⟨x, hx⟩ := List.exists_mem_of_ne_nil _ h1
      obtain ⟨hx1, hx2⟩ := List.mem_filter.1 hx
      refine List.filter_eq_nil_iff.2 fun y hy hq => ?_
      have h3 := h x hx1 y hy
      simp only [eqv, Bool.and_eq_true, Bool.not_eq_true', decide_eq_false_iff_not] at hx2 hq
      exact hs.ntr hq.2 hx2.1 h3
    rw [h2]; simp
theorem SE.length {xs ys : List α} (hs : Swo lt) (h : SE lt xs ys) : xs.length = ys.length := by
  induction xs generalizing ys with
  | nil =>
    cases ys with
    | nil => rfl
    | cons y ys => have := (SE.mem hs h y).2 (.head _); cases this
  | cons x xs ih =>
    -- take the first that is alike with x out of ys
    have hx : x ∈ ys := (SE.mem hs h x).1 (.head _)
    have key : ∃ l m, ys = l ++ x :: m ∧ ∀ z, z ∈ l → eqv lt x z = false := by
      have h1 := h x
      rw [List.filter_cons_of_pos (eqv_self hs x)] at h1
      obtain ⟨l, m, e1, e2, e3, _⟩ := List.filter_eq_cons_iff.1 h1.symm
      exact ⟨l, m, e1, fun z hz => by simpa using e2 z hz⟩
    obtain ⟨l, m, rfl, hl⟩ := key
    have h2 : SE lt xs (l ++ m) := by
      intro c
      have h3 := h c
      rw [List.filter_append, List.filter_cons, List.filter_cons] at h3
      rw [List.filter_append]
      cases hc : eqv lt c x with
      | false => rw [hc] at h3; simpa using h3
      | true =>
        rw [hc] at h3
        have h4 : l.filter (eqv lt c) = [] := List.filter_eq_nil_iff.2 fun z hz hq => by
          have h5 := hl z hz
          simp only [eqv, Bool.and_eq_true, Bool.not_eq_true', decide_eq_false_iff_not] at hc hq
          have : eqv lt x z = true := by
            simp only [eqv, Bool.and_eq_true, Bool.not_eq_true', decide_eq_false_iff_not]
            exact ⟨hs.ntr hc.2 hq.1, hs.ntr hq.2 hc.1⟩
          rw [this] at h5; cases h5
        rw [h4] at h3 ⊢
        simpa using h3
    have h6 := ih h2
    simp only [List.length_cons, List.length_append] at h6 ⊢
    omega
/-- what symmetric merging comes to -/
theorem merge_step (hs : Swo lt) {L1 L2 R1 R2 A B : List α} (hL : Srt lt (L1 ++ L2)) (hR : Srt lt (R1 ++ R2)) (h1 : ∀ x, x ∈ L2 → ∀ y, y ∈ R1 → lt y x) (h2 : ∀ x, x ∈ L1 → ∀ y, y ∈ R2 → ¬ lt y x)
    (hA : SE lt (L1 ++ R1) A) (sA : Srt lt A) (hB : SE lt (L2 ++ R2) B) (sB : Srt lt B) : SE lt ((L1 ++ L2) ++ (R1 ++ R2)) (A ++ B) ∧ Srt lt (A ++ B) := by
  constructor
  · have e1 : SE lt ((L1 ++ L2) ++ (R1 ++ R2)) ((L1 ++ R1) ++ (L2 ++ R2)) := by
      have := (SE.refl (lt := lt) L1).app ((SE.swap hs h1).app (SE.refl (lt := lt) R2))
      simpa [List.append_assoc] using this
    exact e1.trans (hA.app hB)
  · refine Srt.app.2 ⟨sA, sB, fun x hx y hy => ?_⟩
    have hx' := (SE.mem hs hA x).2 hx
    have hy' := (SE.mem hs hB y).2 hy
    rcases List.mem_append.1 hx' with hx' | hx' <;> rcases List.mem_append.1 hy' with hy' | hy'
    · exact (Srt.app.1 hL).2.2 x hx' y hy'
    · exact h2 x hx' y hy'
    · exact hs.asym (h1 y hy' x hx')
    · exact (Srt.app.1 hR).2.2 x hx' y hy'
/-- one that goes in at its place -/
theorem ins_right (hs : Swo lt) {x : α} {R : List α} (hR : Srt lt R) {k : Nat} (h1 : ∀ y, y ∈ R.take k → lt y x) (h2 : ∀ y, y ∈ R.drop k → ¬ lt y x) : SE lt ([x] ++ R) (R.take k ++ x :: R.drop k) ∧ Srt lt (R.take k ++ x :: R.drop k) := by
  have e : R = R.take k ++ R.drop k := (List.take_append_drop k R).symm
  constructor
  · have h3 := (SE.swap hs (l := [x]) (m := R.take k) (fun z hz y hy => by rw [List.mem_singleton.1 hz]; exact h1 y hy)).app (SE.refl (lt := lt) (R.drop k))
    rw [List.append_assoc, ← e, List.append_assoc] at h3
    exact h3
  · rw [e] at hR
    obtain ⟨a, b, c⟩ := Srt.app.1 hR
    refine Srt.app.2 ⟨a, List.pairwise_cons.2 ⟨fun y hy => h2 y hy, b⟩, fun u hu v hv => ?_⟩
    rcases List.mem_cons.1 hv with rfl | hv
    · exact hs.asym (h1 u hu)
    · exact c u hu v hv
theorem ins_left (hs : Swo lt) {y : α} {L : List α} (hL : Srt lt L) {k : Nat} (h1 : ∀ x, x ∈ L.take k → ¬ lt y x) (h2 : ∀ x, x ∈ L.drop k → lt y x) : SE lt (L ++ [y]) (L.take k ++ y :: L.drop k) ∧ Srt lt (L.take k ++ y :: L.drop k) := by
  have e : L = L.take k ++ L.drop k := (List.take_append_drop k L).symm
  constructor
  · have h3 := (SE.refl (lt := lt) (L.take k)).app (SE.swap hs (l := L.drop k) (m := [y]) (fun z hz w hw => by rw [List.mem_singleton.1 hw]; exact h2 z hz))
    rw [← List.append_assoc, ← e] at h3
    exact h3
  · rw [e] at hL
    obtain ⟨a, b, c⟩ := Srt.app.1 hL
    refine Srt.app.2 ⟨a, List.pairwise_cons.2 ⟨fun x hx => hs.asym (h2 x hx), b⟩, fun u hu v hv => ?_⟩
    rcases List.mem_cons.1 hv with rfl | hv
    · exact h1 u hu
    · exact c u hu v hv
/-- a step of sorting by insertion: U ++ [x] ++ V -/
theorem ins_swap (hs : Swo lt) {U V : List α} {u x : α} (h : lt x u) : SE lt ((U ++ [u]) ++ x :: V) (U ++ x :: u :: V) := by
  have := (SE.refl (lt := lt) U).app ((SE.swap hs (l := [u]) (m := [x]) (fun a ha b hb => by rw [List.mem_singleton.1 ha, List.mem_singleton.1 hb]; exact h)).app (SE.refl (lt := lt) V))
  simpa [List.append_assoc] using this
end
end Go.J
/-
  Candidates, and their order: contracts.
-/
namespace Go.Proofs.Ytbafhclandendaa
open Go.J Go.RowKit
set_option linter.unusedVariables false
set_option linter.unusedSimpArgs false
set_option maxRecDepth 8000
structure CV where
  id : IDV
  leg : Int
  n : Int
  p : PV
deriving instance DecidableEq for CV
abbrev cC (x : CV) : List Value := cI x.id ++ [Value.int .i64 x.leg, Value.int .i64 x.n] ++ cP x.p
abbrev fC (xs : List CV) : List Value := xs.flatMap cC
def zCV : CV := ⟨zI, 0, 0, zP⟩
theorem zCan : zeroT Try.prog 75 = some (.agg (cC zCV).toArray) := by kernel_rfl
theorem one_cP (a : PV) : ∀ v, v ∈ cP a → v.oneCell' = true := by
  intro v hv
  rcases List.mem_append.1 hv with hv | hv
  · exact one_cI _ v hv
  · rw [List.mem_singleton.1 hv]; rfl
theorem one_cC (x : CV) : ∀ v, v ∈ cC x → v.oneCell' = true := by
  intro v hv
  rcases List.mem_append.1 hv with hv | hv
  · rcases List.mem_append.1 hv with hv | hv
    · exact one_cI _ v hv
    · simp only [List.mem_cons, List.not_mem_nil, or_false] at hv
      rcases hv with rfl | rfl <;> rfl
  · exact one_cP _ v hv
theorem cC_len (x : CV) : (cC x).length = 35 := rfl
def cmpZ (a b : Int) : Int := if a < b then -1 else if b < a then 1 else 0
/-- paths' order -/
def ltQ (a b : PV) : Bool := if cmpI a.who b.who ≠ 0 then decide (cmpI a.who b.who < 0) else decide (a.n < b.n)
def ordC (a b : CV) : Int :=
  if cmpI a.id b.id ≠ 0 then cmpI a.id b.id else if a.leg ≠ b.leg then cmpZ a.leg b.leg else if a.leg ≠ 1 then cmpZ a.n b.n else if ltQ a.p b.p = true then -1 else if ltQ b.p a.p = true then 1 else 0
def ltC (a b : CV) : Prop := ordC a b < 0
instance : DecidableRel ltC := fun a b => inferInstanceAs (Decidable (ordC a b < 0))
theorem cmpI_cases (a b : IDV) : (valI a < valI b ∧ cmpI a b = -1) ∨ (valI b < valI a ∧ cmpI a b = 1) ∨ (valI a = valI b ∧ cmpI a b = 0) := by
  unfold cmpI
  split
  · exact .inl ⟨by assumption, rfl⟩
  · split
    · exact .inr (.inl ⟨by assumption, rfl⟩)
    · exact .inr (.inr ⟨by omega, rfl⟩)
theorem ltQ_iff (a b : PV) : ltQ a b = true ↔ valI a.who < valI b.who ∨ (valI a.who = valI b.who ∧ a.n < b.n) := by
  unfold ltQ
  rcases cmpI_cases a.who b.who with ⟨h, e⟩ | ⟨h, e⟩ | ⟨h, e⟩ <;> rw [e] <;> simp <;> omega
/-- a candidate's rank: identity, way, and by which -/
def k1 (x : CV) : Int := if x.leg = 1 then (valI x.p.who : Int) else x.n
def k2 (x : CV) : Int := if x.leg = 1 then x.p.n else 0
theorem ltC_iff (a b : CV) : ltC a b ↔ valI a.id < valI b.id ∨ (valI a.id = valI b.id ∧ (a.leg < b.leg ∨ (a.leg = b.leg ∧ (k1 a < k1 b ∨ (k1 a = k1 b ∧ k2 a < k2 b))))) := by
  unfold ltC ordC
  rcases cmpI_cases a.id b.id with ⟨h, e⟩ | ⟨h, e⟩ | ⟨h, e⟩
  · rw [e]; simp; omega
  · rw [e]; simp; omega
  · rw [e]
    simp only [ne_eq, not_true_eq_false, if_false]
    by_cases hl : a.leg = b.leg
    · rw [if_neg (by simpa using hl)]
      by_cases h1 : a.leg = 1
      · rw [if_neg (by simpa using h1)]
        have hb1 : b.leg = 1 := by omega
        have ea : k1 a = (valI a.p.who : Int) := if_pos h1
        have eb : k1 b = (valI b.p.who : Int) := if_pos hb1
        have fa : k2 a = a.p.n := if_pos h1
        have fb : k2 b = b.p.n := if_pos hb1
        rw [ea, eb, fa, fb]
        by_cases hq : ltQ a.p b.p = true
        · rw [if_pos hq]
          have := (ltQ_iff _ _).1 hq
          constructor
          · intro _; omega
          · intro _; omega
        · rw [if_neg hq]
          have h2 : ¬ (valI a.p.who < valI b.p.who ∨ (valI a.p.who = valI b.p.who ∧ a.p.n < b.p.n)) := fun h => hq ((ltQ_iff _ _).2 h)
          split <;> constructor <;> intro h3 <;> omega
      · rw [if_pos (by simpa using h1)]
        have hb1 : ¬ b.leg = 1 := by omega
        have ea : k1 a = a.n := if_neg h1
        have eb : k1 b = b.n := if_neg hb1
        have fa : k2 a = 0 := if_neg h1
        have fb : k2 b = 0 := if_neg hb1
        rw [ea, eb, fa, fb]
        unfold cmpZ
        split
        · constructor <;> intro h3 <;> omega
        · split <;> constructor <;> intro h3 <;> omega
    · rw [if_pos (by simpa using hl)]
      unfold cmpZ
      split
      · constructor <;> intro h3 <;> omega
      · split <;> constructor <;> intro h3 <;> omega
theorem swoC : Swo ltC where
  irr x := by rw [ltC_iff]; omega
  tr {x y z} h1 h2 := by rw [ltC_iff] at *; omega
  ntr {x y z} h1 h2 := by rw [ltC_iff] at *; omega

theorem isnan_spec (a : Int) (w : World) :
    Calls Try.prog 83 [.int .i64 a].toArray w fun r w' => r = .returned (.bool false) ∧ Bel w w' := by
  refine calls_of_J (args := [.int .i64 a]) (e := [(0, .int .i64 a)]) Try.func83 rfl rfl ⟨rfl, trivial⟩ (St.start w) ?_
  refine JC.seq (fun K0 hK0 => ?_)
  refine JC.region ?_
  refine J.assign rfl rfl ?_
  refine J.nil ?_
  refine JX.thenN (hK0 _ _ ?_)
  refine JC.seq (fun K1 hK1 => ?_)
  refine JC.region ?_
  refine J.move rfl rfl ?_
  refine J.move rfl rfl ?_
  refine J.bin rfl rfl rfl rfl ?_
  refine J.name 5 rfl (show _ = Value.bool false by simp) ?_
  refine J.assign rfl rfl ?_
  refine J.nil ?_
  refine JX.thenN (hK1 _ _ ?_)
  refine JC.ret ?_
  refine JX.ret1 rfl rfl (fun w hw => ?_)
  exact ⟨rfl, hw.below⟩

theorem cmpInt_spec (a b : Int) (w : World) :
    Calls Try.prog 73 [.int .i64 a, .int .i64 b].toArray w fun r w' => r = .returned (.int .i64 (cmpZ a b)) ∧ Bel w w' := by
  refine calls_of_J (args := [.int .i64 a, .int .i64 b]) (e := [(0, .int .i64 a), (1, .int .i64 b)]) Try.func73 rfl rfl ⟨rfl, rfl, trivial⟩ (St.start w) ?_
  refine JC.seq (fun K0 hK0 => ?_)
  refine JC.region ?_
  refine J.assign rfl rfl ?_
  refine J.nil ?_
  refine JX.thenN (hK0 _ _ ?_)
  refine JC.seq (fun K1 hK1 => ?_)
  refine JC.region ?_
  refine J.move rfl rfl ?_
  refine J.callB (v := .bool false) (fun w1 w2 hw hb => hw.step hb) Ty.bd83 rfl rfl (fun w1 hw => isnan_spec _ w1) ?_
  refine J.assign rfl rfl ?_
  refine J.nil ?_
  refine JX.thenN (hK1 _ _ ?_)
  refine JC.seq (fun K2 hK2 => ?_)
  refine JC.region ?_
  refine J.move rfl rfl ?_
  refine J.callB (v := .bool false) (fun w1 w2 hw hb => hw.step hb) Ty.bd83 rfl rfl (fun w1 hw => isnan_spec _ w1) ?_
  refine J.assign rfl rfl ?_
  refine J.nil ?_
  refine JX.thenN (hK2 _ _ ?_)
  refine JC.seq (fun K3 hK3 => ?_)
  refine JC.seq (fun K4 hK4 => ?_)
  refine JC.region ?_
  refine J.move rfl rfl ?_
  refine J.nil ?_
  refine JX.thenN (hK4 _ _ ?_)
  first | refine JC.condF rfl ?_ | refine JC.cond rfl (fun h => by first | (exfalso; simp at h; omega) | (simp at h)) (fun _ => ?_)
  refine JC.skip ?_
  refine JX.thenN (hK3 _ _ ?_)
  refine JC.seq (fun K5 hK5 => ?_)
  refine JC.seq (fun K6 hK6 => ?_)
  refine JC.region ?_
  refine J.move rfl rfl ?_
  refine J.nil ?_
  refine JX.thenN (hK6 _ _ ?_)
  first | refine JC.condF rfl ?_ | refine JC.cond rfl (fun h => by first | (exfalso; simp at h; omega) | (simp at h)) (fun _ => ?_)
  refine JC.skip ?_
  refine JX.thenN (hK5 _ _ ?_)
  refine JC.seq (fun K7 hK7 => ?_)
  refine JC.seq (fun K8 hK8 => ?_)
  refine JC.region ?_
  refine J.move rfl rfl ?_
  refine J.move rfl rfl ?_
  refine J.bin rfl rfl rfl rfl ?_
  refine J.nil ?_
  refine JX.thenN (hK8 _ _ ?_)
  refine JC.cond rfl (fun h3 => ?_) (fun h3 => ?_)
  · skip
    have hc : a < b := by simpa using h3
    refine JC.seq (fun K9 hK9 => ?_)
    refine JC.region ?_
    refine J.assign rfl rfl ?_
    refine J.nil ?_
    refine JX.thenN (hK9 _ _ ?_)
    refine JC.ret ?_
    refine JX.thenR ?_
    refine JX.ret1 rfl rfl (fun w hw => ?_)
    refine ⟨?_, hw.below⟩
    unfold cmpZ
    first | rw [if_pos hc] | rw [if_neg hc, if_pos hd] | rw [if_neg hc, if_neg hd]
  · skip
    have hc : ¬ a < b := by simpa using h3
    refine JC.skip ?_
    refine JX.thenN (hK7 _ _ ?_)
    refine JC.seq (fun K10 hK10 => ?_)
    refine JC.seq (fun K11 hK11 => ?_)
    refine JC.region ?_
    refine J.move rfl rfl ?_
    refine J.move rfl rfl ?_
    refine J.bin rfl rfl rfl rfl ?_
    refine J.nil ?_
    refine JX.thenN (hK11 _ _ ?_)
    refine JC.cond rfl (fun h4 => ?_) (fun h4 => ?_)
    · skip
      have hd : b < a := by simpa using h4
      refine JC.seq (fun K12 hK12 => ?_)
      refine JC.region ?_
      refine J.assign rfl rfl ?_
      refine J.nil ?_
      refine JX.thenN (hK12 _ _ ?_)
      refine JC.ret ?_
      refine JX.thenR ?_
      refine JX.ret1 rfl rfl (fun w hw => ?_)
      refine ⟨?_, hw.below⟩
      unfold cmpZ
      first | rw [if_pos hc] | rw [if_neg hc, if_pos hd] | rw [if_neg hc, if_neg hd]
    · skip
      have hd : ¬ b < a := by simpa using h4
      refine JC.skip ?_
      refine JX.thenN (hK10 _ _ ?_)
      refine JC.seq (fun K13 hK13 => ?_)
      refine JC.region ?_
      refine J.assign rfl rfl ?_
      refine J.nil ?_
      refine JX.thenN (hK13 _ _ ?_)
      refine JC.ret ?_
      refine JX.ret1 rfl rfl (fun w hw => ?_)
      refine ⟨?_, hw.below⟩
      unfold cmpZ
      first | rw [if_pos hc] | rw [if_neg hc, if_pos hd] | rw [if_neg hc, if_neg hd]

theorem tless_spec (a b : PV) (w : World) :
    Calls Try.prog 74 [.agg (cP a).toArray, .agg (cP b).toArray].toArray w fun r w' => r = .returned (.bool (ltQ a b)) ∧ Bel w w' := by
  refine calls_of_J (args := [.agg (cP a).toArray, .agg (cP b).toArray]) (e := [(0, .agg (cP a).toArray), (1, .agg (cP b).toArray)]) Try.func74 rfl rfl ⟨rfl, rfl, trivial⟩ (St.start w) ?_
  refine JC.seq (fun K0 hK0 => ?_)
  refine JC.region ?_
  refine J.box rfl rfl rfl (fun b2 => ?_)
  refine J.box rfl rfl rfl (fun b3 => ?_)
  refine J.assign rfl rfl ?_
  refine J.nil ?_
  refine JX.thenN (hK0 _ _ ?_)
  refine JC.seq (fun K1 hK1 => ?_)
  refine JC.seq (fun K2 hK2 => ?_)
  refine JC.region ?_
  refine J.fieldAddr Ty.fd73_0 rfl rfl ?_
  refine J.loadA (vs := cI a.who) Ty.a23 Ty.s23 rfl rfl (fun w1 hw => Cells.of_block (hw.own ((b2, cb (cP a) 73)) (by repeat first | exact .head _ | apply List.Mem.tail | apply List.mem_append_right)) rfl) rfl ?_
  refine J.fieldAddr Ty.fd73_0 rfl rfl ?_
  refine J.loadA (vs := cI b.who) Ty.a23 Ty.s23 rfl rfl (fun w1 hw => Cells.of_block (hw.own ((b3, cb (cP b) 73)) (by repeat first | exact .head _ | apply List.Mem.tail | apply List.mem_append_right)) rfl) rfl ?_
  refine J.callB (v := .int .i64 (cmpI a.who b.who)) (fun w1 w2 hw hb => hw.step hb) Ty.bd65 rfl rfl (fun w1 hw => compare_spec a.who b.who w1) ?_
  refine J.assign rfl rfl ?_
  refine J.nil ?_
  refine JX.thenN (hK2 _ _ ?_)
  refine JC.seq (fun K3 hK3 => ?_)
  refine JC.region ?_
  refine J.move rfl rfl ?_
  refine J.bin rfl rfl rfl rfl ?_
  refine J.nil ?_
  refine JX.thenN (hK3 _ _ ?_)
  refine JC.cond rfl (fun h0 => ?_) (fun h0 => ?_)
  · skip
    have hc : cmpI a.who b.who ≠ 0 := by simpa using h0
    refine JC.seq (fun K4 hK4 => ?_)
    refine JC.region ?_
    refine J.move rfl rfl ?_
    refine J.bin rfl rfl rfl rfl ?_
    refine J.assign rfl rfl ?_
    refine J.nil ?_
    refine JX.thenN (hK4 _ _ ?_)
    refine JC.ret ?_
    refine JX.thenR ?_
    refine JX.ret1 rfl rfl (fun w hw => ?_)
    refine ⟨?_, (hw.drop (List.nil_sublist _)).below⟩
    unfold ltQ
    first | rw [if_pos hc] | rw [if_neg hc]
  · skip
    have hc : ¬ cmpI a.who b.who ≠ 0 := by simpa using h0
    refine JC.skip ?_
    refine JX.thenN (hK1 _ _ ?_)
    refine JC.seq (fun K5 hK5 => ?_)
    refine JC.region ?_
    refine J.fieldAddr Ty.fd73_1 rfl rfl ?_
    refine J.load1 (v := .int .i64 a.n) Ty.a2 rfl (fun w1 hw => by rw [cell_of (hw.own ((b2, cb (cP a) 73)) (by repeat first | exact .head _ | apply List.Mem.tail | apply List.mem_append_right))]; rfl) rfl ?_
    refine J.fieldAddr Ty.fd73_1 rfl rfl ?_
    refine J.load1 (v := .int .i64 b.n) Ty.a2 rfl (fun w1 hw => by rw [cell_of (hw.own ((b3, cb (cP b) 73)) (by repeat first | exact .head _ | apply List.Mem.tail | apply List.mem_append_right))]; rfl) rfl ?_
    refine J.bin rfl rfl rfl rfl ?_
    refine J.assign rfl rfl ?_
    refine J.nil ?_
    refine JX.thenN (hK5 _ _ ?_)
    refine JC.ret ?_
    refine JX.ret1 rfl rfl (fun w hw => ?_)
    refine ⟨?_, (hw.drop (List.nil_sublist _)).below⟩
    unfold ltQ
    first | rw [if_pos hc] | rw [if_neg hc]

set_option maxHeartbeats 1000000 in
theorem order_spec (a b : CV) (w : World) :
    Calls Try.prog 55 [.agg (cC a).toArray, .agg (cC b).toArray].toArray w fun r w' => r = .returned (.int .i64 (ordC a b)) ∧ Bel w w' := by
  refine calls_of_J (args := [.agg (cC a).toArray, .agg (cC b).toArray]) (e := [(0, .agg (cC a).toArray), (1, .agg (cC b).toArray)]) Try.func55 rfl rfl ⟨rfl, rfl, trivial⟩ (St.start w) ?_
  refine JC.seq (fun K0 hK0 => ?_)
  refine JC.region ?_
  refine J.box rfl rfl rfl (fun b2 => ?_)
  refine J.box rfl rfl rfl (fun b3 => ?_)
  refine J.assign rfl rfl ?_
  refine J.nil ?_
  refine JX.thenN (hK0 _ _ ?_)
  refine JC.seq (fun K1 hK1 => ?_)
  refine JC.seq (fun K2 hK2 => ?_)
  refine JC.region ?_
  refine J.fieldAddr Ty.fd75_0 rfl rfl ?_
  refine J.loadA (vs := cI a.id) Ty.a23 Ty.s23 rfl rfl (fun w1 hw => Cells.of_block (hw.own ((b2, cb (cC a) 75)) (by repeat first | exact .head _ | apply List.Mem.tail | apply List.mem_append_right)) rfl) rfl ?_
  refine J.fieldAddr Ty.fd75_0 rfl rfl ?_
  refine J.loadA (vs := cI b.id) Ty.a23 Ty.s23 rfl rfl (fun w1 hw => Cells.of_block (hw.own ((b3, cb (cC b) 75)) (by repeat first | exact .head _ | apply List.Mem.tail | apply List.mem_append_right)) rfl) rfl ?_
  refine J.callB (v := .int .i64 (cmpI a.id b.id)) (fun w1 w2 hw hb => hw.step hb) Ty.bd65 rfl rfl (fun w1 hw => compare_spec a.id b.id w1) ?_
  refine J.assign rfl rfl ?_
  refine J.nil ?_
  refine JX.thenN (hK2 _ _ ?_)
  refine JC.seq (fun K3 hK3 => ?_)
  refine JC.region ?_
  refine J.move rfl rfl ?_
  refine J.bin rfl rfl rfl rfl ?_
  refine J.nil ?_
  refine JX.thenN (hK3 _ _ ?_)
  refine JC.cond rfl (fun h0 => ?_) (fun h0 => ?_)
  · skip
    have c0 : cmpI a.id b.id ≠ 0 := by simpa using h0
    refine JC.seq (fun K4 hK4 => ?_)
    refine JC.region ?_
    refine J.move rfl rfl ?_
    refine J.assign rfl rfl ?_
    refine J.nil ?_
    refine JX.thenN (hK4 _ _ ?_)
    refine JC.ret ?_
    refine JX.thenR ?_
    refine JX.ret1 rfl rfl (fun w hw => ?_)
    refine ⟨?_, (hw.drop (List.nil_sublist _)).below⟩
    unfold ordC
    first | rw [if_pos c0] | rw [if_neg c0, if_pos c1] | rw [if_neg c0, if_neg c1, if_pos c2] | rw [if_neg c0, if_neg c1, if_neg c2, if_pos c3] | rw [if_neg c0, if_neg c1, if_neg c2, if_neg c3, if_pos c4] | rw [if_neg c0, if_neg c1, if_neg c2, if_neg c3, if_neg c4]
  · skip
    have c0 : ¬ cmpI a.id b.id ≠ 0 := by simpa using h0
    refine JC.skip ?_
    refine JX.thenN (hK1 _ _ ?_)
    refine JC.seq (fun K5 hK5 => ?_)
    refine JC.block ?_
    refine JC.seq (fun K6 hK6 => ?_)
    refine JC.region ?_
    refine J.fieldAddr Ty.fd75_1 rfl rfl ?_
    refine J.load1 (v := .int .i64 a.leg) Ty.a3 rfl (fun w1 hw => by rw [cell_of (hw.own ((b2, cb (cC a) 75)) (by repeat first | exact .head _ | apply List.Mem.tail | apply List.mem_append_right))]; rfl) rfl ?_
    refine J.fieldAddr Ty.fd75_1 rfl rfl ?_
    refine J.load1 (v := .int .i64 b.leg) Ty.a3 rfl (fun w1 hw => by rw [cell_of (hw.own ((b3, cb (cC b) 75)) (by repeat first | exact .head _ | apply List.Mem.tail | apply List.mem_append_right))]; rfl) rfl ?_
    refine J.bin rfl rfl rfl rfl ?_
    refine J.assign rfl rfl ?_
    refine J.nil ?_
    refine JX.thenN (hK6 _ _ ?_)
    refine JC.cond rfl (fun h1 => ?_) (fun h1 => ?_)
    · skip
      have c1 : a.leg ≠ b.leg := by simpa using h1
      refine JC.seq (fun K7 hK7 => ?_)
      refine JC.region ?_
      refine J.fieldAddr Ty.fd75_1 rfl rfl ?_
      refine J.load1 (v := .int .i64 a.leg) Ty.a3 rfl (fun w1 hw => by rw [cell_of (hw.own ((b2, cb (cC a) 75)) (by repeat first | exact .head _ | apply List.Mem.tail | apply List.mem_append_right))]; rfl) rfl ?_
      refine J.fieldAddr Ty.fd75_1 rfl rfl ?_
      refine J.load1 (v := .int .i64 b.leg) Ty.a3 rfl (fun w1 hw => by rw [cell_of (hw.own ((b3, cb (cC b) 75)) (by repeat first | exact .head _ | apply List.Mem.tail | apply List.mem_append_right))]; rfl) rfl ?_
      refine J.callB (v := .int .i64 (cmpZ a.leg b.leg)) (fun w1 w2 hw hb => hw.step hb) Ty.bd73 rfl rfl (fun w1 hw => cmpInt_spec a.leg b.leg w1) ?_
      refine J.assign rfl rfl ?_
      refine J.nil ?_
      refine JX.thenN (hK7 _ _ ?_)
      refine JC.ret ?_
      refine JX.blockR ?_
      refine JX.thenR ?_
      refine JX.ret1 rfl rfl (fun w hw => ?_)
      refine ⟨?_, (hw.drop (List.nil_sublist _)).below⟩
      unfold ordC
      first | rw [if_pos c0] | rw [if_neg c0, if_pos c1] | rw [if_neg c0, if_neg c1, if_pos c2] | rw [if_neg c0, if_neg c1, if_neg c2, if_pos c3] | rw [if_neg c0, if_neg c1, if_neg c2, if_neg c3, if_pos c4] | rw [if_neg c0, if_neg c1, if_neg c2, if_neg c3, if_neg c4]
    · skip
      have c1 : ¬ a.leg ≠ b.leg := by simpa using h1
      refine JC.seq (fun K8 hK8 => ?_)
      refine JC.region ?_
      refine J.fieldAddr Ty.fd75_1 rfl rfl ?_
      refine J.load1 (v := .int .i64 a.leg) Ty.a3 rfl (fun w1 hw => by rw [cell_of (hw.own ((b2, cb (cC a) 75)) (by repeat first | exact .head _ | apply List.Mem.tail | apply List.mem_append_right))]; rfl) rfl ?_
      refine J.bin rfl rfl rfl rfl ?_
      refine J.assign rfl rfl ?_
      refine J.nil ?_
      refine JX.thenN (hK8 _ _ ?_)
      refine JC.cond rfl (fun h2 => ?_) (fun h2 => ?_)
      · skip
        have c2 : a.leg ≠ 1 := by simpa using h2
        refine JC.seq (fun K9 hK9 => ?_)
        refine JC.region ?_
        refine J.fieldAddr Ty.fd75_2 rfl rfl ?_
        refine J.load1 (v := .int .i64 a.n) Ty.a3 rfl (fun w1 hw => by rw [cell_of (hw.own ((b2, cb (cC a) 75)) (by repeat first | exact .head _ | apply List.Mem.tail | apply List.mem_append_right))]; rfl) rfl ?_
        refine J.fieldAddr Ty.fd75_2 rfl rfl ?_
        refine J.load1 (v := .int .i64 b.n) Ty.a3 rfl (fun w1 hw => by rw [cell_of (hw.own ((b3, cb (cC b) 75)) (by repeat first | exact .head _ | apply List.Mem.tail | apply List.mem_append_right))]; rfl) rfl ?_
        refine J.callB (v := .int .i64 (cmpZ a.n b.n)) (fun w1 w2 hw hb => hw.step hb) Ty.bd73 rfl rfl (fun w1 hw => cmpInt_spec a.n b.n w1) ?_
        refine J.assign rfl rfl ?_
        refine J.nil ?_
        refine JX.thenN (hK9 _ _ ?_)
        refine JC.ret ?_
        refine JX.blockR ?_
        refine JX.thenR ?_
        refine JX.ret1 rfl rfl (fun w hw => ?_)
        refine ⟨?_, (hw.drop (List.nil_sublist _)).below⟩
        unfold ordC
        first | rw [if_pos c0] | rw [if_neg c0, if_pos c1] | rw [if_neg c0, if_neg c1, if_pos c2] | rw [if_neg c0, if_neg c1, if_neg c2, if_pos c3] | rw [if_neg c0, if_neg c1, if_neg c2, if_neg c3, if_pos c4] | rw [if_neg c0, if_neg c1, if_neg c2, if_neg c3, if_neg c4]
      · skip
        have c2 : ¬ a.leg ≠ 1 := by simpa using h2
        refine JC.seq (fun K10 hK10 => ?_)
        refine JC.region ?_
        refine J.fieldAddr Ty.fd75_3 rfl rfl ?_
        refine J.loadA (vs := cP a.p) Ty.a73 Ty.s73 rfl rfl (fun w1 hw => Cells.of_block (hw.own ((b2, cb (cC a) 75)) (by repeat first | exact .head _ | apply List.Mem.tail | apply List.mem_append_right)) rfl) rfl ?_
        refine J.fieldAddr Ty.fd75_3 rfl rfl ?_
        refine J.loadA (vs := cP b.p) Ty.a73 Ty.s73 rfl rfl (fun w1 hw => Cells.of_block (hw.own ((b3, cb (cC b) 75)) (by repeat first | exact .head _ | apply List.Mem.tail | apply List.mem_append_right)) rfl) rfl ?_
        refine J.callB (v := .bool (ltQ a.p b.p)) (fun w1 w2 hw hb => hw.step hb) Ty.bd74 rfl rfl (fun w1 hw => tless_spec a.p b.p w1) ?_
        refine J.assign rfl rfl ?_
        refine J.nil ?_
        refine JX.thenN (hK10 _ _ ?_)
        refine JC.cond rfl (fun h3 => ?_) (fun h3 => ?_)
        · skip
          have c3 : ltQ a.p b.p = true := h3
          refine JC.seq (fun K11 hK11 => ?_)
          refine JC.region ?_
          refine J.assign rfl rfl ?_
          refine J.nil ?_
          refine JX.thenN (hK11 _ _ ?_)
          refine JC.ret ?_
          refine JX.blockR ?_
          refine JX.thenR ?_
          refine JX.ret1 rfl rfl (fun w hw => ?_)
          refine ⟨?_, (hw.drop (List.nil_sublist _)).below⟩
          unfold ordC
          first | rw [if_pos c0] | rw [if_neg c0, if_pos c1] | rw [if_neg c0, if_neg c1, if_pos c2] | rw [if_neg c0, if_neg c1, if_neg c2, if_pos c3] | rw [if_neg c0, if_neg c1, if_neg c2, if_neg c3, if_pos c4] | rw [if_neg c0, if_neg c1, if_neg c2, if_neg c3, if_neg c4]
        · skip
          have c3 : ¬ ltQ a.p b.p = true := by rw [h3]; decide
          refine JC.seq (fun K12 hK12 => ?_)
          refine JC.region ?_
          refine J.fieldAddr Ty.fd75_3 rfl rfl ?_
          refine J.loadA (vs := cP b.p) Ty.a73 Ty.s73 rfl rfl (fun w1 hw => Cells.of_block (hw.own ((b3, cb (cC b) 75)) (by repeat first | exact .head _ | apply List.Mem.tail | apply List.mem_append_right)) rfl) rfl ?_
          refine J.fieldAddr Ty.fd75_3 rfl rfl ?_
          refine J.loadA (vs := cP a.p) Ty.a73 Ty.s73 rfl rfl (fun w1 hw => Cells.of_block (hw.own ((b2, cb (cC a) 75)) (by repeat first | exact .head _ | apply List.Mem.tail | apply List.mem_append_right)) rfl) rfl ?_
          refine J.callB (v := .bool (ltQ b.p a.p)) (fun w1 w2 hw hb => hw.step hb) Ty.bd74 rfl rfl (fun w1 hw => tless_spec b.p a.p w1) ?_
          refine J.assign rfl rfl ?_
          refine J.nil ?_
          refine JX.thenN (hK12 _ _ ?_)
          refine JC.cond rfl (fun h4 => ?_) (fun h4 => ?_)
          · skip
            have c4 : ltQ b.p a.p = true := h4
            refine JC.seq (fun K13 hK13 => ?_)
            refine JC.region ?_
            refine J.assign rfl rfl ?_
            refine J.nil ?_
            refine JX.thenN (hK13 _ _ ?_)
            refine JC.ret ?_
            refine JX.blockR ?_
            refine JX.thenR ?_
            refine JX.ret1 rfl rfl (fun w hw => ?_)
            refine ⟨?_, (hw.drop (List.nil_sublist _)).below⟩
            unfold ordC
            first | rw [if_pos c0] | rw [if_neg c0, if_pos c1] | rw [if_neg c0, if_neg c1, if_pos c2] | rw [if_neg c0, if_neg c1, if_neg c2, if_pos c3] | rw [if_neg c0, if_neg c1, if_neg c2, if_neg c3, if_pos c4] | rw [if_neg c0, if_neg c1, if_neg c2, if_neg c3, if_neg c4]
          · skip
            have c4 : ¬ ltQ b.p a.p = true := by rw [h4]; decide
            refine JC.skip ?_
            refine JX.blockN ?_
            refine JX.thenN (hK5 _ _ ?_)
            refine JC.seq (fun K14 hK14 => ?_)
            refine JC.region ?_
            refine J.assign rfl rfl ?_
            refine J.nil ?_
            refine JX.thenN (hK14 _ _ ?_)
            refine JC.ret ?_
            refine JX.ret1 rfl rfl (fun w hw => ?_)
            refine ⟨?_, (hw.drop (List.nil_sublist _)).below⟩
            unfold ordC
            first | rw [if_pos c0] | rw [if_neg c0, if_pos c1] | rw [if_neg c0, if_neg c1, if_pos c2] | rw [if_neg c0, if_neg c1, if_neg c2, if_pos c3] | rw [if_neg c0, if_neg c1, if_neg c2, if_neg c3, if_pos c4] | rw [if_neg c0, if_neg c1, if_neg c2, if_neg c3, if_neg c4]

end Go.Proofs.Ytbafhclandendaa
/-
  Sorting by insertion, at candidates: contract.
-/
namespace Go.Proofs.Ytbafhclandendaa
open Go.J Go.RowKit
set_option linter.unusedVariables false
set_option linter.unusedSimpArgs false
set_option maxRecDepth 8000
theorem fC_len (xs : List CV) : (fC xs).length = xs.length * 35 := fG_length (c := cC) (sz := 35) (fun _ => rfl) xs
theorem fC_take (xs : List CV) (n : Nat) : fC (xs.take n) = (fC xs).take (n * 35) := by
  induction xs generalizing n with
  | nil => simp
  | cons x xs ih =>
    cases n with
    | zero => simp
    | succ n =>
      rw [List.take_succ_cons, show fC (x :: xs.take n) = cC x ++ fC (xs.take n) from rfl, ih, show fC (x :: xs) = cC x ++ fC xs from rfl, show (n + 1) * 35 = (cC x).length + n * 35 by rw [cC_len]; omega, List.take_length_add_append]
theorem fC_drop (xs : List CV) (n : Nat) : fC (xs.drop n) = (fC xs).drop (n * 35) := by
  induction xs generalizing n with
  | nil => simp
  | cons x xs ih =>
    cases n with
    | zero => simp
    | succ n =>
      rw [List.drop_succ_cons, ih, show fC (x :: xs) = cC x ++ fC xs from rfl, show (n + 1) * 35 = (cC x).length + n * 35 by rw [cC_len]; omega, List.drop_length_add_append]
theorem set_C {xs : List CV} {sp : List Value} {i o : Nat} {y : CV} (hi : i < xs.length) (ho : o = i * 35) : setMany (fC xs ++ sp) o (cC y) = fC (xs.set i y) ++ sp := by
  subst ho
  have hl := fC_len xs
  rw [setMany_eq _ _ _ (by rw [cC_len, List.length_append]; omega), cC_len, List.take_append_of_le_length (by omega), List.drop_append_of_le_length (by omega), List.set_eq_take_append_cons_drop, if_pos hi]
  rw [← fC_take, show i * 35 + 35 = (i + 1) * 35 by omega, ← fC_drop]
  simp only [fC, List.flatMap_append, List.flatMap_cons, List.append_assoc]
theorem rowC_own {w0 w : World} {S : List Nat} {l : List (Nat × Obj)} {q n c : Nat} {xs : List CV} {sp : List Value} (hw : St w0 S l w) (hm : (q, cb (fC xs ++ sp) 75) ∈ l) (hn : xs.length = n) (hc : n ≤ c) : Row w (.slice (some ⟨q, 0, none⟩) n c) n (fC xs) :=
  Row.own (cs := fC xs ++ sp) (tb := 75) (fr := (0, 0)) hw hm (by simp) hc
theorem get_mid {α : Type} (l r : List α) (x : α) : (l ++ x :: r)[l.length]? = some x := by simp
theorem get_mid2 {α : Type} (l r : List α) (x y : α) : (l ++ x :: y :: r)[l.length + 1]? = some y := by simp
theorem swap_mid {α : Type} (l r : List α) (x y : α) : ((l ++ x :: y :: r).set (l.length + 1) x).set l.length y = l ++ y :: x :: r := by
  simp [List.set_append]
theorem srt_one (L : List CV) : Srt ltC (L.take 1) := by
  match L with
  | [] => exact .nil
  | x :: l => exact List.pairwise_singleton _ _
structure InS where
  j : Nat
  U : List CV
  V : List CV

set_option maxHeartbeats 2000000 in
theorem insertion_spec (q n c : Nat) (P L T : List CV) (sp : List Value) (w : World) (hw0 : Own w [(q, cb (fC (P ++ (L ++ T)) ++ sp) 75)]) (hn : (P ++ (L ++ T)).length = n) (hnc : n ≤ c) (hnb : n ≤ 1099511627776) :
    Calls Try.prog 81 [.slice (some ⟨q, 0, none⟩) n c, .int .i64 ((P.length : Nat) : Int), .int .i64 (((P.length + L.length) : Nat) : Int), .func (.func 55) #[] #[]].toArray w fun r w' => ∃ S : List CV, r = .returned (.tuple #[]) ∧ (SE ltC L S ∧ Srt ltC S) ∧ St w [q] [(q, cb (fC (P ++ (S ++ T)) ++ sp) 75)] w' := by
  have hPn : P.length + L.length + T.length = n := by simp only [List.length_append] at hn; omega
  refine calls_of_J (args := [.slice (some ⟨q, 0, none⟩) n c, .int .i64 ((P.length : Nat) : Int), .int .i64 (((P.length + L.length) : Nat) : Int), .func (.func 55) #[] #[]]) (e := [(0, .slice (some ⟨q, 0, none⟩) n c), (1, .int .i64 ((P.length : Nat) : Int)), (2, .int .i64 (((P.length + L.length) : Nat) : Int)), (3, .func (.func 55) #[] #[])]) Try.func81 rfl rfl ⟨rfl, rfl, rfl, rfl, trivial⟩ (hw0.st) ?_
  refine JC.seq (fun K0 hK0 => ?_)
  refine JC.region ?_
  refine J.move rfl rfl ?_
  refine J.addN rfl rfl (by omega) (by omega) rfl ?_
  refine J.name 11 rfl (show _ = Value.int .i64 (((P.length + 1) : Nat) : Int) from congrArg (Value.int .i64) (by omega)) ?_
  refine J.assign rfl rfl ?_
  refine J.nil ?_
  refine JX.thenN (hK0 _ _ ?_)
  refine JC.block ?_
  refine JC.conseq (JC.cov (f := (fun st => [(0, .slice (some ⟨q, 0, none⟩) n c), (1, .int .i64 ((P.length : Nat) : Int)), (2, .int .i64 (((P.length + L.length) : Nat) : Int)), (3, .func (.func 55) #[] #[]), (8, .int .i64 (((P.length + st.1) : Nat) : Int))]) ((1, L.take 1) : Nat × List CV)) ⟨rfl, rfl, rfl, rfl, rfl, trivial⟩ (JC.loop (α := Nat × List CV) (fun st => [(0, .slice (some ⟨q, 0, none⟩) n c), (1, .int .i64 ((P.length : Nat) : Int)), (2, .int .i64 (((P.length + L.length) : Nat) : Int)), (3, .func (.func 55) #[] #[]), (8, .int .i64 (((P.length + st.1) : Nat) : Int))]) (fun st w' => (1 ≤ st.1 ∧ SE ltC (L.take st.1) st.2 ∧ Srt ltC st.2) ∧ St w [q] [(q, cb (fC (P ++ (st.2 ++ (L.drop st.1 ++ T))) ++ sp) 75)] w') (fun st => L.length - st.1) ((1, L.take 1) : Nat × List CV) (fun st => ?_))) (fun w hw => ⟨⟨Nat.le_refl _, SE.refl _, srt_one L⟩, by rw [show P ++ (L.take 1 ++ (L.drop 1 ++ T)) = P ++ (L ++ T) by rw [← List.append_assoc (L.take 1), List.take_append_drop]]; exact hw⟩)
  obtain ⟨k, S⟩ := st
  refine JC.pr (fun hI => ?_)
  obtain ⟨hk1, hse, hsrt⟩ := hI
  try simp only at hk1 hse hsrt ⊢
  have hSl := hse.length swoC
  rw [List.length_take] at hSl
  refine JC.seq (fun K1 hK1 => ?_)
  refine JC.seq (fun K2 hK2 => ?_)
  refine JC.region ?_
  refine J.move rfl rfl ?_
  refine J.move rfl rfl ?_
  refine J.bin rfl rfl rfl rfl ?_
  refine J.nil ?_
  refine JX.thenN (hK2 _ _ ?_)
  refine JC.cond rfl (fun h0 => ?_) (fun h0 => ?_)
  · skip
    have hkl : k < L.length := by simp at h0; omega
    obtain ⟨xe, hx⟩ : ∃ y, L[k]? = some y := ⟨_, List.getElem?_eq_getElem hkl⟩
    have hxd : L.drop k = xe :: L.drop (k + 1) := by rw [List.drop_eq_getElem_cons hkl, (List.getElem?_eq_some_iff.1 hx).2]
    refine JC.skip ?_
    refine JX.thenN (hK1 _ _ ?_)
    refine JC.seq (fun K3 hK3 => ?_)
    refine JC.block ?_
    refine JC.seq (fun K4 hK4 => ?_)
    refine JC.region ?_
    refine J.move rfl rfl ?_
    refine J.assign rfl rfl ?_
    refine J.nil ?_
    refine JX.thenN (hK4 _ _ ?_)
    refine JC.block ?_
    refine JC.conseq (JC.cov (f := (fun st => [(0, .slice (some ⟨q, 0, none⟩) n c), (1, .int .i64 ((P.length : Nat) : Int)), (2, .int .i64 (((P.length + L.length) : Nat) : Int)), (3, .func (.func 55) #[] #[]), (8, .int .i64 (((P.length + k) : Nat) : Int)), (9, .int .i64 ((st.j : Nat) : Int))]) (⟨P.length + k, S, []⟩ : InS)) ⟨rfl, rfl, rfl, rfl, rfl, rfl, trivial⟩ (JC.loop (α := InS) (fun st => [(0, .slice (some ⟨q, 0, none⟩) n c), (1, .int .i64 ((P.length : Nat) : Int)), (2, .int .i64 (((P.length + L.length) : Nat) : Int)), (3, .func (.func 55) #[] #[]), (8, .int .i64 (((P.length + k) : Nat) : Int)), (9, .int .i64 ((st.j : Nat) : Int))]) (fun st w' => (st.j = P.length + st.U.length ∧ SE ltC (L.take (k + 1)) (st.U ++ xe :: st.V) ∧ Srt ltC (st.U ++ st.V) ∧ ∀ v, v ∈ st.V → ltC xe v) ∧ St w [q] [(q, cb (fC (P ++ ((st.U ++ xe :: st.V) ++ (L.drop (k + 1) ++ T))) ++ sp) 75)] w') (fun st => st.j) (⟨P.length + k, S, []⟩ : InS) (fun st => ?_))) (fun w hw => ⟨⟨by show P.length + k = P.length + S.length; omega, by rw [List.take_add_one, hx]; exact hse.app (SE.refl [xe]), by rw [List.append_nil]; exact hsrt, by simp⟩, by rw [hxd] at hw; simpa [List.append_assoc] using hw⟩)
    obtain ⟨j, U, V⟩ := st
    refine JC.pr (fun hI => ?_)
    obtain ⟨hj, hse2, hUV, hV⟩ := hI
    try simp only at hj hse2 hUV hV ⊢
    refine JC.seq (fun K5 hK5 => ?_)
    refine JC.seq (fun K6 hK6 => ?_)
    rcases List.eq_nil_or_concat U with hU0 | ⟨U0, u, hU0⟩
    · skip
      subst hU0
      obtain rfl : j = P.length := by simpa using hj
      have hU : ∀ u, ([] : List CV).getLast? = some u → ¬ ltC xe u := by simp
      apply JC.drawX (α := Nat × Unit) 17 (fun x => match x with | ⟨xu, uu⟩ => [.int .i64 ((P.length : Nat) : Int), .int .i64 ((P.length : Nat) : Int), .bool false, .bool false, undef, undef, undef, undef, undef, undef, undef, undef, undef, undef, undef, undef, .bool false]) (fun m x => match x with | ⟨xu, uu⟩ => fun w1 => (True) ∧ St w [q] ((q, cb (fC (P ++ (([] ++ xe :: V) ++ (L.drop (k + 1) ++ T))) ++ sp) 75) :: []) w1) Ty.mixed rfl rfl rfl (by kernel_rfl) rfl rfl ?hinit ?hstep ?htail
      case hinit => exact fun w1 hw => ⟨(0, ()), trivial, hw.drew⟩
      case hstep =>
        refine ⟨fun m x hm hp => ?_, fun m x hm hp => ?_, fun m x hm hp => ?_, fun m x hm hp => ?_, fun m x hm hp => ?_, fun m x hm hp => ?_, fun m x hm hp => ?_, fun m x hm hp => ?_, fun m x hm hp => ?_, fun m x hm hp => ?_, fun m x hm hp => ?_, fun m x hm hp => ?_, fun m x hm hp => ?_, fun m x hm hp => ?_, fun m x hm hp => ?_, fun m x hm hp => ?_, fun m x hm hp => ?_, trivial⟩
        · skip
          obtain ⟨xu, uu⟩ := x
          show J _ _ _ _ _ (_) _
          refine J.pr (fun hF => ?_)
          refine J.move rfl rfl ?_
          exact J.finX rfl (fun _ hw => ⟨⟨xu, uu⟩, rfl, fun _ _ _ => rfl, hF, hw⟩)
        · skip
          obtain ⟨xu, uu⟩ := x
          show J _ _ _ _ _ (_) _
          refine J.pr (fun hF => ?_)
          refine J.move rfl rfl ?_
          exact J.finX rfl (fun _ hw => ⟨⟨xu, uu⟩, rfl, fun _ _ _ => rfl, hF, hw⟩)
        · skip
          obtain ⟨xu, uu⟩ := x
          show J _ _ _ _ _ ((19, .int .i64 ((P.length : Nat) : Int)) :: (18, .int .i64 ((P.length : Nat) : Int)) :: _) _
          refine J.pr (fun hF => ?_)
          refine J.bin rfl rfl rfl rfl ?_
          refine J.name 20 rfl (show _ = Value.bool false by simp) ?_
          exact J.finX rfl (fun _ hw => ⟨⟨xu, uu⟩, rfl, fun _ _ _ => rfl, hF, hw⟩)
        · skip
          obtain ⟨xu, uu⟩ := x
          show J _ _ _ _ _ ((20, .bool false) :: _) _
          refine J.pr (fun hF => ?_)
          refine J.move rfl rfl ?_
          exact J.finX rfl (fun _ hw => ⟨⟨xu, uu⟩, rfl, fun _ _ _ => rfl, hF, hw⟩)
        · skip
          obtain ⟨xu, uu⟩ := x
          show J _ _ _ _ _ ((21, .bool false) :: _) _
          refine J.pr (fun hF => ?_)
          first | refine J.skip rfl rfl rfl rfl rfl ?_ | refine J.skipU rfl rfl rfl rfl ?_ | (refine J.unguard rfl rfl rfl ?_; refine J.move rfl rfl ?_)
          exact J.finX rfl (fun _ hw => ⟨⟨xu, uu⟩, rfl, fun _ _ _ => rfl, hF, hw⟩)
        · skip
          obtain ⟨xu, uu⟩ := x
          show J _ _ _ _ _ ((21, .bool false) :: _) _
          refine J.pr (fun hF => ?_)
          first | refine J.skip rfl rfl rfl rfl rfl ?_ | refine J.skipU rfl rfl rfl rfl ?_ | (refine J.unguard rfl rfl rfl ?_; refine J.move rfl rfl ?_)
          exact J.finX rfl (fun _ hw => ⟨⟨xu, uu⟩, rfl, fun _ _ _ => rfl, hF, hw⟩)
        · skip
          obtain ⟨xu, uu⟩ := x
          show J _ _ _ _ _ ((21, .bool false) :: _) _
          refine J.pr (fun hF => ?_)
          first | refine J.skip rfl rfl rfl rfl rfl ?_ | refine J.skipU rfl rfl rfl rfl ?_ | (refine J.unguard rfl rfl rfl ?_; refine J.move rfl rfl ?_)
          exact J.finX rfl (fun _ hw => ⟨⟨xu, uu⟩, rfl, fun _ _ _ => rfl, hF, hw⟩)
        · skip
          obtain ⟨xu, uu⟩ := x
          show J _ _ _ _ _ ((21, .bool false) :: (24, undef) :: (23, undef) :: _) _
          refine J.pr (fun hF => ?_)
          first | refine J.skip rfl rfl rfl rfl rfl ?_ | refine J.skipU rfl rfl rfl rfl ?_ | (refine J.unguard rfl rfl rfl ?_; refine J.indexAddrS Ty.el68 Ty.s75 rfl rfl (by omega) (by omega) rfl ?_)
          exact J.finX rfl (fun _ hw => ⟨⟨xu, uu⟩, rfl, fun _ _ _ => rfl, hF, hw⟩)
        · skip
          obtain ⟨xu, uu⟩ := x
          show J _ _ _ _ _ ((21, .bool false) :: (25, undef) :: _) _
          refine J.pr (fun hF => ?_)
          first | refine J.skip rfl rfl rfl rfl rfl ?_ | refine J.skipU rfl rfl rfl rfl ?_ | (refine J.unguard rfl rfl rfl ?_; refine J.loadOA Ty.a75 Ty.s75 rfl (by repeat first | exact .head _ | apply List.Mem.tail | apply List.mem_append_right) (by exact rfl) rfl rfl ?_)
          exact J.finX rfl (fun _ hw => ⟨⟨xu, uu⟩, rfl, fun _ _ _ => rfl, hF, hw⟩)
        · skip
          obtain ⟨xu, uu⟩ := x
          show J _ _ _ _ _ ((21, .bool false) :: _) _
          refine J.pr (fun hF => ?_)
          first | refine J.skip rfl rfl rfl rfl rfl ?_ | refine J.skipU rfl rfl rfl rfl ?_ | (refine J.unguard rfl rfl rfl ?_; refine J.move rfl rfl ?_)
          exact J.finX rfl (fun _ hw => ⟨⟨xu, uu⟩, rfl, fun _ _ _ => rfl, hF, hw⟩)
        · skip
          obtain ⟨xu, uu⟩ := x
          show J _ _ _ _ _ ((21, .bool false) :: _) _
          refine J.pr (fun hF => ?_)
          first | refine J.skip rfl rfl rfl rfl rfl ?_ | refine J.skipU rfl rfl rfl rfl ?_ | (refine J.unguard rfl rfl rfl ?_; refine J.move rfl rfl ?_)
          exact J.finX rfl (fun _ hw => ⟨⟨xu, uu⟩, rfl, fun _ _ _ => rfl, hF, hw⟩)
        · skip
          obtain ⟨xu, uu⟩ := x
          show J _ _ _ _ _ ((21, .bool false) :: (28, undef) :: _) _
          refine J.pr (fun hF => ?_)
          first | refine J.skip rfl rfl rfl rfl rfl ?_ | refine J.skipU rfl rfl rfl rfl ?_ | (refine J.unguard rfl rfl rfl ?_; (first | refine J.subN rfl rfl (by omega) (by omega) rfl ?_ | refine J.bin rfl rfl rfl rfl ?_))
          exact J.finX rfl (fun _ hw => ⟨⟨xu, uu⟩, rfl, fun _ _ _ => rfl, hF, hw⟩)
        · skip
          obtain ⟨xu, uu⟩ := x
          show J _ _ _ _ _ ((21, .bool false) :: (29, undef) :: (27, undef) :: _) _
          refine J.pr (fun hF => ?_)
          first | refine J.skip rfl rfl rfl rfl rfl ?_ | refine J.skipU rfl rfl rfl rfl ?_ | (refine J.unguard rfl rfl rfl ?_; refine J.indexAddrS Ty.el68 Ty.s75 rfl rfl (by omega) (by omega) rfl ?_)
          exact J.finX rfl (fun _ hw => ⟨⟨xu, uu⟩, rfl, fun _ _ _ => rfl, hF, hw⟩)
        · skip
          obtain ⟨xu, uu⟩ := x
          show J _ _ _ _ _ ((21, .bool false) :: (30, undef) :: _) _
          refine J.pr (fun hF => ?_)
          first | refine J.skip rfl rfl rfl rfl rfl ?_ | refine J.skipU rfl rfl rfl rfl ?_ | (refine J.unguard rfl rfl rfl ?_; refine J.loadOA Ty.a75 Ty.s75 rfl (by repeat first | exact .head _ | apply List.Mem.tail | apply List.mem_append_right) (by exact rfl) rfl rfl ?_)
          exact J.finX rfl (fun _ hw => ⟨⟨xu, uu⟩, rfl, fun _ _ _ => rfl, hF, hw⟩)
        · skip
          obtain ⟨xu, uu⟩ := x
          show J _ _ _ _ _ ((21, .bool false) :: (21, .bool false) :: (31, undef) :: (26, undef) :: (22, undef) :: _) _
          refine J.pr (fun hF => ?_)
          first | refine J.skip rfl rfl rfl rfl rfl ?_ | refine J.skipU rfl rfl rfl rfl ?_ | (refine J.unguard rfl rfl rfl ?_; fail)
          exact J.finX rfl (fun _ hw => ⟨⟨xu, uu⟩, rfl, fun _ _ _ => rfl, hF, hw⟩)
        · skip
          obtain ⟨xu, uu⟩ := x
          show J _ _ _ _ _ ((21, .bool false) :: (32, undef) :: _) _
          refine J.pr (fun hF => ?_)
          first | refine J.skip rfl rfl rfl rfl rfl ?_ | refine J.skipU rfl rfl rfl rfl ?_ | (refine J.unguard rfl rfl rfl ?_; refine J.bin rfl rfl rfl rfl ?_)
          exact J.finX rfl (fun _ hw => ⟨⟨xu, uu⟩, rfl, fun _ _ _ => rfl, hF, hw⟩)
        · skip
          obtain ⟨xu, uu⟩ := x
          show J _ _ _ _ _ ((33, undef) :: (21, .bool false) :: _) _
          refine J.pr (fun hF => ?_)
          (first | refine J.pickT rfl rfl rfl ?_ | refine J.pickF rfl rfl rfl ?_)
          exact J.finX rfl (fun _ hw => ⟨⟨xu, uu⟩, rfl, fun _ _ _ => rfl, hF, hw⟩)
      case htail =>
        intro x
        obtain ⟨xu, uu⟩ := x
        show J _ _ _ _ _ ((34, .bool false) :: (33, undef) :: (32, undef) :: (31, undef) :: (30, undef) :: (29, undef) :: (28, undef) :: (27, undef) :: (26, undef) :: (25, undef) :: (24, undef) :: (23, undef) :: (22, undef) :: (21, .bool false) :: (20, .bool false) :: (19, .int .i64 ((P.length : Nat) : Int)) :: (18, .int .i64 ((P.length : Nat) : Int)) :: _) (fun w1 => (True) ∧ St w [q] ((q, cb (fC (P ++ (([] ++ xe :: V) ++ (L.drop (k + 1) ++ T))) ++ sp) 75) :: []) w1)
        refine J.pr (fun hF => ?_)
        refine J.nil ?_
        refine JX.thenN (hK6 _ _ ?_)
        first | refine JC.condF rfl ?_ | refine JC.cond rfl (fun h => by first | (exfalso; simp at h; omega) | (simp at h)) (fun _ => ?_)
        refine JC.exit ?_
        refine JX.thenE ?_
        refine JX.thenE ?_
        refine JX.blockE ?_
        refine JX.blockN ?_
        refine JX.thenN (hK3 _ _ ?_)
        refine JC.region ?_
        refine J.move rfl rfl ?_
        refine J.addN rfl rfl (by omega) (by omega) rfl ?_
        refine J.name 16 rfl (show _ = Value.int .i64 (((P.length + (k + 1)) : Nat) : Int) from congrArg (Value.int .i64) (by omega)) ?_
        refine J.assign rfl rfl ?_
        refine J.nil ?_
        refine JX.thenN ?_
        refine JX.again ((k + 1, ([] : List CV) ++ xe :: V) : Nat × List CV) ?_ ?_ ?_
        · simp only; omega
        · exact ⟨rfl, rfl, rfl, rfl, rfl, trivial⟩
        · exact fun w1 hw => ⟨⟨by show 1 ≤ k + 1; omega, hse2, ins_done swoC hUV hV hU⟩, hw⟩
    · skip
      rw [List.concat_eq_append] at hU0
      subst hU0
      obtain ⟨k0, rfl⟩ : ∃ k0, j = k0 + 1 := ⟨j - 1, by simp at hj; omega⟩
      have hk0 : k0 = (P ++ U0).length := by simp at hj ⊢; omega
      have hk2 : k0 = P.length + U0.length := by rw [hk0, List.length_append]
      have e0 : P ++ (((U0 ++ [u]) ++ xe :: V) ++ (L.drop (k + 1) ++ T)) = (P ++ U0) ++ u :: xe :: (V ++ (L.drop (k + 1) ++ T)) := by simp [List.append_assoc]
      rw [e0]
      have hl2 := hse2.length swoC
      simp only [List.length_take, List.length_append, List.length_cons, List.length_nil] at hl2
      have hnx : ((P ++ U0) ++ u :: xe :: (V ++ (L.drop (k + 1) ++ T))).length = n := by simp only [List.length_append, List.length_cons, List.length_drop]; omega
      have gu : ((P ++ U0) ++ u :: xe :: (V ++ (L.drop (k + 1) ++ T)))[k0]? = some u := by rw [hk0]; exact get_mid _ _ _
      have gx : ((P ++ U0) ++ u :: xe :: (V ++ (L.drop (k + 1) ++ T)))[k0 + 1]? = some xe := by rw [hk0]; exact get_mid2 _ _ _ _
      have hkn : k0 + 1 < n := by rw [← hnx]; exact (List.getElem?_eq_some_iff.1 gx).1
      apply JC.drawX (α := Nat × Unit) 17 (fun x => match x with | ⟨xu, uu⟩ => [.int .i64 (((k0 + 1) : Nat) : Int), .int .i64 ((P.length : Nat) : Int), .bool true, .bool true, .func (.func 55) #[] #[], .slice (some ⟨q, 0, none⟩) n c, .int .i64 (((k0 + 1) : Nat) : Int), .pointer (some ⟨q, 0 + (((k0 + 1) : Nat) : Int).toNat * 35, none⟩), .agg (cC xe).toArray, .slice (some ⟨q, 0, none⟩) n c, .int .i64 (((k0 + 1) : Nat) : Int), .int .i64 ((k0 : Nat) : Int), .pointer (some ⟨q, 0 + ((k0 : Nat) : Int).toNat * 35, none⟩), .agg (cC u).toArray, .int .i64 (ordC xe u), .bool (decide (ltC xe u)), .bool (decide (ltC xe u))]) (fun m x => match x with | ⟨xu, uu⟩ => fun w1 => (True) ∧ St w [q] ((q, cb (fC ((P ++ U0) ++ u :: xe :: (V ++ (L.drop (k + 1) ++ T))) ++ sp) 75) :: []) w1) Ty.mixed rfl rfl rfl (by kernel_rfl) rfl rfl ?hinit ?hstep ?htail
      case hinit => exact fun w1 hw => ⟨(0, ()), trivial, hw.drew⟩
      case hstep =>
        refine ⟨fun m x hm hp => ?_, fun m x hm hp => ?_, fun m x hm hp => ?_, fun m x hm hp => ?_, fun m x hm hp => ?_, fun m x hm hp => ?_, fun m x hm hp => ?_, fun m x hm hp => ?_, fun m x hm hp => ?_, fun m x hm hp => ?_, fun m x hm hp => ?_, fun m x hm hp => ?_, fun m x hm hp => ?_, fun m x hm hp => ?_, fun m x hm hp => ?_, fun m x hm hp => ?_, fun m x hm hp => ?_, trivial⟩
        · skip
          obtain ⟨xu, uu⟩ := x
          show J _ _ _ _ _ (_) _
          refine J.pr (fun hF => ?_)
          refine J.move rfl rfl ?_
          exact J.finX rfl (fun _ hw => ⟨⟨xu, uu⟩, rfl, fun _ _ _ => rfl, hF, hw⟩)
        · skip
          obtain ⟨xu, uu⟩ := x
          show J _ _ _ _ _ (_) _
          refine J.pr (fun hF => ?_)
          refine J.move rfl rfl ?_
          exact J.finX rfl (fun _ hw => ⟨⟨xu, uu⟩, rfl, fun _ _ _ => rfl, hF, hw⟩)
        · skip
          obtain ⟨xu, uu⟩ := x
          show J _ _ _ _ _ ((19, .int .i64 ((P.length : Nat) : Int)) :: (18, .int .i64 (((k0 + 1) : Nat) : Int)) :: _) _
          refine J.pr (fun hF => ?_)
          refine J.bin rfl rfl rfl rfl ?_
          refine J.name 20 rfl (show _ = Value.bool true by simp; omega) ?_
          exact J.finX rfl (fun _ hw => ⟨⟨xu, uu⟩, rfl, fun _ _ _ => rfl, hF, hw⟩)
        · skip
          obtain ⟨xu, uu⟩ := x
          show J _ _ _ _ _ ((20, .bool true) :: _) _
          refine J.pr (fun hF => ?_)
          refine J.move rfl rfl ?_
          exact J.finX rfl (fun _ hw => ⟨⟨xu, uu⟩, rfl, fun _ _ _ => rfl, hF, hw⟩)
        · skip
          obtain ⟨xu, uu⟩ := x
          show J _ _ _ _ _ ((21, .bool true) :: _) _
          refine J.pr (fun hF => ?_)
          first | refine J.skip rfl rfl rfl rfl rfl ?_ | refine J.skipU rfl rfl rfl rfl ?_ | (refine J.unguard rfl rfl rfl ?_; refine J.move rfl rfl ?_)
          exact J.finX rfl (fun _ hw => ⟨⟨xu, uu⟩, rfl, fun _ _ _ => rfl, hF, hw⟩)
        · skip
          obtain ⟨xu, uu⟩ := x
          show J _ _ _ _ _ ((21, .bool true) :: _) _
          refine J.pr (fun hF => ?_)
          first | refine J.skip rfl rfl rfl rfl rfl ?_ | refine J.skipU rfl rfl rfl rfl ?_ | (refine J.unguard rfl rfl rfl ?_; refine J.move rfl rfl ?_)
          exact J.finX rfl (fun _ hw => ⟨⟨xu, uu⟩, rfl, fun _ _ _ => rfl, hF, hw⟩)
        · skip
          obtain ⟨xu, uu⟩ := x
          show J _ _ _ _ _ ((21, .bool true) :: _) _
          refine J.pr (fun hF => ?_)
          first | refine J.skip rfl rfl rfl rfl rfl ?_ | refine J.skipU rfl rfl rfl rfl ?_ | (refine J.unguard rfl rfl rfl ?_; refine J.move rfl rfl ?_)
          exact J.finX rfl (fun _ hw => ⟨⟨xu, uu⟩, rfl, fun _ _ _ => rfl, hF, hw⟩)
        · skip
          obtain ⟨xu, uu⟩ := x
          show J _ _ _ _ _ ((21, .bool true) :: (24, .int .i64 (((k0 + 1) : Nat) : Int)) :: (23, .slice (some ⟨q, 0, none⟩) n c) :: _) _
          refine J.pr (fun hF => ?_)
          refine J.unguard rfl rfl rfl ?_
          refine J.indexAddrS Ty.el68 Ty.s75 rfl rfl (by omega) (by omega) rfl ?_
          exact J.finX rfl (fun _ hw => ⟨⟨xu, uu⟩, rfl, fun _ _ _ => rfl, hF, hw⟩)
        · skip
          obtain ⟨xu, uu⟩ := x
          show J _ _ _ _ _ ((21, .bool true) :: (25, .pointer (some ⟨q, 0 + (((k0 + 1) : Nat) : Int).toNat * 35, none⟩)) :: _) _
          refine J.pr (fun hF => ?_)
          refine J.unguard rfl rfl rfl ?_
          refine J.loadA (vs := cC xe) Ty.a75 Ty.s75 rfl rfl (fun w1 hw => rowG_at (c := cC) (sz := 35) (fun _ => rfl) (rowC_own (xs := (P ++ U0) ++ u :: xe :: (V ++ (L.drop (k + 1) ++ T))) hw (.head _) hnx hnc) gx (by rw [Int.toNat_natCast])) rfl ?_
          exact J.finX rfl (fun _ hw => ⟨⟨xu, uu⟩, rfl, fun _ _ _ => rfl, hF, hw⟩)
        · skip
          obtain ⟨xu, uu⟩ := x
          show J _ _ _ _ _ ((21, .bool true) :: _) _
          refine J.pr (fun hF => ?_)
          first | refine J.skip rfl rfl rfl rfl rfl ?_ | refine J.skipU rfl rfl rfl rfl ?_ | (refine J.unguard rfl rfl rfl ?_; refine J.move rfl rfl ?_)
          exact J.finX rfl (fun _ hw => ⟨⟨xu, uu⟩, rfl, fun _ _ _ => rfl, hF, hw⟩)
        · skip
          obtain ⟨xu, uu⟩ := x
          show J _ _ _ _ _ ((21, .bool true) :: _) _
          refine J.pr (fun hF => ?_)
          first | refine J.skip rfl rfl rfl rfl rfl ?_ | refine J.skipU rfl rfl rfl rfl ?_ | (refine J.unguard rfl rfl rfl ?_; refine J.move rfl rfl ?_)
          exact J.finX rfl (fun _ hw => ⟨⟨xu, uu⟩, rfl, fun _ _ _ => rfl, hF, hw⟩)
        · skip
          obtain ⟨xu, uu⟩ := x
          show J _ _ _ _ _ ((21, .bool true) :: (28, .int .i64 (((k0 + 1) : Nat) : Int)) :: _) _
          refine J.pr (fun hF => ?_)
          refine J.unguard rfl rfl rfl ?_
          refine J.subN rfl rfl (by omega) (by omega) rfl ?_
          refine J.name 29 rfl (show _ = Value.int .i64 ((k0 : Nat) : Int) from congrArg (Value.int .i64) (by omega)) ?_
          exact J.finX rfl (fun _ hw => ⟨⟨xu, uu⟩, rfl, fun _ _ _ => rfl, hF, hw⟩)
        · skip
          obtain ⟨xu, uu⟩ := x
          show J _ _ _ _ _ ((21, .bool true) :: (29, .int .i64 ((k0 : Nat) : Int)) :: (27, .slice (some ⟨q, 0, none⟩) n c) :: _) _
          refine J.pr (fun hF => ?_)
          refine J.unguard rfl rfl rfl ?_
          refine J.indexAddrS Ty.el68 Ty.s75 rfl rfl (by omega) (by omega) rfl ?_
          exact J.finX rfl (fun _ hw => ⟨⟨xu, uu⟩, rfl, fun _ _ _ => rfl, hF, hw⟩)
        · skip
          obtain ⟨xu, uu⟩ := x
          show J _ _ _ _ _ ((21, .bool true) :: (30, .pointer (some ⟨q, 0 + ((k0 : Nat) : Int).toNat * 35, none⟩)) :: _) _
          refine J.pr (fun hF => ?_)
          refine J.unguard rfl rfl rfl ?_
          refine J.loadA (vs := cC u) Ty.a75 Ty.s75 rfl rfl (fun w1 hw => rowG_at (c := cC) (sz := 35) (fun _ => rfl) (rowC_own (xs := (P ++ U0) ++ u :: xe :: (V ++ (L.drop (k + 1) ++ T))) hw (.head _) hnx hnc) gu (by rw [Int.toNat_natCast])) rfl ?_
          exact J.finX rfl (fun _ hw => ⟨⟨xu, uu⟩, rfl, fun _ _ _ => rfl, hF, hw⟩)
        · skip
          obtain ⟨xu, uu⟩ := x
          show J _ _ _ _ _ ((21, .bool true) :: (21, .bool true) :: (31, .agg (cC u).toArray) :: (26, .agg (cC xe).toArray) :: (22, .func (.func 55) #[] #[]) :: _) _
          refine J.pr (fun hF => ?_)
          refine J.unguard rfl rfl rfl ?_
          refine J.callVB (v := .int .i64 (ordC xe u)) (fun w1 w2 hw hb => hw.step hb) Ty.bd55 rfl rfl rfl (fun w1 hw => order_spec xe u w1) ?_
          exact J.finX rfl (fun _ hw => ⟨⟨xu, uu⟩, rfl, fun _ _ _ => rfl, hF, hw⟩)
        · skip
          obtain ⟨xu, uu⟩ := x
          show J _ _ _ _ _ ((21, .bool true) :: (32, .int .i64 (ordC xe u)) :: _) _
          refine J.pr (fun hF => ?_)
          refine J.unguard rfl rfl rfl ?_
          refine J.bin rfl rfl rfl rfl ?_
          refine J.name 33 rfl (show _ = Value.bool (decide (ltC xe u)) from rfl) ?_
          exact J.finX rfl (fun _ hw => ⟨⟨xu, uu⟩, rfl, fun _ _ _ => rfl, hF, hw⟩)
        · skip
          obtain ⟨xu, uu⟩ := x
          show J _ _ _ _ _ ((33, .bool (decide (ltC xe u))) :: (21, .bool true) :: _) _
          refine J.pr (fun hF => ?_)
          (first | refine J.pickT rfl rfl rfl ?_ | refine J.pickF rfl rfl rfl ?_)
          exact J.finX rfl (fun _ hw => ⟨⟨xu, uu⟩, rfl, fun _ _ _ => rfl, hF, hw⟩)
      case htail =>
        intro x
        obtain ⟨xu, uu⟩ := x
        show J _ _ _ _ _ ((34, .bool (decide (ltC xe u))) :: (33, .bool (decide (ltC xe u))) :: (32, .int .i64 (ordC xe u)) :: (31, .agg (cC u).toArray) :: (30, .pointer (some ⟨q, 0 + ((k0 : Nat) : Int).toNat * 35, none⟩)) :: (29, .int .i64 ((k0 : Nat) : Int)) :: (28, .int .i64 (((k0 + 1) : Nat) : Int)) :: (27, .slice (some ⟨q, 0, none⟩) n c) :: (26, .agg (cC xe).toArray) :: (25, .pointer (some ⟨q, 0 + (((k0 + 1) : Nat) : Int).toNat * 35, none⟩)) :: (24, .int .i64 (((k0 + 1) : Nat) : Int)) :: (23, .slice (some ⟨q, 0, none⟩) n c) :: (22, .func (.func 55) #[] #[]) :: (21, .bool true) :: (20, .bool true) :: (19, .int .i64 ((P.length : Nat) : Int)) :: (18, .int .i64 (((k0 + 1) : Nat) : Int)) :: _) (fun w1 => (True) ∧ St w [q] ((q, cb (fC ((P ++ U0) ++ u :: xe :: (V ++ (L.drop (k + 1) ++ T))) ++ sp) 75) :: []) w1)
        refine J.pr (fun hF => ?_)
        refine J.nil ?_
        refine JX.thenN (hK6 _ _ ?_)
        refine JC.cond rfl (fun h1 => ?_) (fun h1 => ?_)
        · skip
          have hlt : ltC xe u := by simpa using h1
          refine JC.skip ?_
          refine JX.thenN (hK5 _ _ ?_)
          refine JC.seq (fun K7 hK7 => ?_)
          refine JC.block ?_
          apply JC.drawX (α := Nat × Unit) 16 (fun x => match x with | ⟨xu, uu⟩ => [.slice (some ⟨q, 0, none⟩) n c, .int .i64 (((k0 + 1) : Nat) : Int), .slice (some ⟨q, 0, none⟩) n c, .int .i64 (((k0 + 1) : Nat) : Int), .int .i64 ((k0 : Nat) : Int), .slice (some ⟨q, 0, none⟩) n c, .int .i64 (((k0 + 1) : Nat) : Int), .int .i64 ((k0 : Nat) : Int), .pointer (some ⟨q, 0 + ((k0 : Nat) : Int).toNat * 35, none⟩), .agg (cC u).toArray, .slice (some ⟨q, 0, none⟩) n c, .int .i64 (((k0 + 1) : Nat) : Int), .pointer (some ⟨q, 0 + (((k0 + 1) : Nat) : Int).toNat * 35, none⟩), .agg (cC xe).toArray, .pointer (some ⟨q, 0 + (((k0 + 1) : Nat) : Int).toNat * 35, none⟩), undef]) (fun m x => match x with | ⟨xu, uu⟩ => fun w1 => ((m 15 = true → m 9 = true ∧ m 13 = true)) ∧ St w [q] ((q, cb (bif m 15 then fC (((P ++ U0) ++ u :: xe :: (V ++ (L.drop (k + 1) ++ T))).set ((k0 + 1)) u) ++ sp else fC ((P ++ U0) ++ u :: xe :: (V ++ (L.drop (k + 1) ++ T))) ++ sp) 75) :: []) w1) Ty.mixed rfl rfl rfl (by kernel_rfl) rfl rfl ?hinit ?hstep ?htail
          case hinit => exact fun w1 hw => ⟨(0, ()), fun h => (by cases h), hw.drew⟩
          case hstep =>
            refine ⟨fun m x hm hp => ?_, fun m x hm hp => ?_, fun m x hm hp => ?_, fun m x hm hp => ?_, fun m x hm hp => ?_, fun m x hm hp => ?_, fun m x hm hp => ?_, fun m x hm hp => ?_, fun m x hm hp => ?_, fun m x hm hp => ?_, fun m x hm hp => ?_, fun m x hm hp => ?_, fun m x hm hp => ?_, fun m x hm hp => ?_, fun m x hm hp => ?_, fun m x hm hp => ?_, trivial⟩
            · skip
              obtain ⟨xu, uu⟩ := x
              show J _ _ _ _ _ (_) _
              refine J.pr (fun hF => ?_)
              refine J.move rfl rfl ?_
              exact J.finX rfl (fun _ hw => ⟨⟨xu, uu⟩, rfl, fun _ _ _ => rfl, hF, hw⟩)
            · skip
              obtain ⟨xu, uu⟩ := x
              show J _ _ _ _ _ (_) _
              refine J.pr (fun hF => ?_)
              refine J.move rfl rfl ?_
              exact J.finX rfl (fun _ hw => ⟨⟨xu, uu⟩, rfl, fun _ _ _ => rfl, hF, hw⟩)
            · skip
              obtain ⟨xu, uu⟩ := x
              show J _ _ _ _ _ (_) _
              refine J.pr (fun hF => ?_)
              refine J.move rfl rfl ?_
              exact J.finX rfl (fun _ hw => ⟨⟨xu, uu⟩, rfl, fun _ _ _ => rfl, hF, hw⟩)
            · skip
              obtain ⟨xu, uu⟩ := x
              show J _ _ _ _ _ (_) _
              refine J.pr (fun hF => ?_)
              refine J.move rfl rfl ?_
              exact J.finX rfl (fun _ hw => ⟨⟨xu, uu⟩, rfl, fun _ _ _ => rfl, hF, hw⟩)
            · skip
              obtain ⟨xu, uu⟩ := x
              show J _ _ _ _ _ ((40, .int .i64 (((k0 + 1) : Nat) : Int)) :: _) _
              refine J.pr (fun hF => ?_)
              refine J.subN rfl rfl (by omega) (by omega) rfl ?_
              refine J.name 41 rfl (show _ = Value.int .i64 ((k0 : Nat) : Int) from congrArg (Value.int .i64) (by omega)) ?_
              exact J.finX rfl (fun _ hw => ⟨⟨xu, uu⟩, rfl, fun _ _ _ => rfl, hF, hw⟩)
            · skip
              obtain ⟨xu, uu⟩ := x
              show J _ _ _ _ _ (_) _
              refine J.pr (fun hF => ?_)
              refine J.move rfl rfl ?_
              exact J.finX rfl (fun _ hw => ⟨⟨xu, uu⟩, rfl, fun _ _ _ => rfl, hF, hw⟩)
            · skip
              obtain ⟨xu, uu⟩ := x
              show J _ _ _ _ _ (_) _
              refine J.pr (fun hF => ?_)
              refine J.move rfl rfl ?_
              exact J.finX rfl (fun _ hw => ⟨⟨xu, uu⟩, rfl, fun _ _ _ => rfl, hF, hw⟩)
            · skip
              obtain ⟨xu, uu⟩ := x
              show J _ _ _ _ _ ((43, .int .i64 (((k0 + 1) : Nat) : Int)) :: _) _
              refine J.pr (fun hF => ?_)
              refine J.subN rfl rfl (by omega) (by omega) rfl ?_
              refine J.name 44 rfl (show _ = Value.int .i64 ((k0 : Nat) : Int) from congrArg (Value.int .i64) (by omega)) ?_
              exact J.finX rfl (fun _ hw => ⟨⟨xu, uu⟩, rfl, fun _ _ _ => rfl, hF, hw⟩)
            · skip
              obtain ⟨xu, uu⟩ := x
              show J _ _ _ _ _ ((44, .int .i64 ((k0 : Nat) : Int)) :: (42, .slice (some ⟨q, 0, none⟩) n c) :: _) _
              refine J.pr (fun hF => ?_)
              refine J.indexAddrS Ty.el68 Ty.s75 rfl rfl (by omega) (by omega) rfl ?_
              exact J.finX rfl (fun _ hw => ⟨⟨xu, uu⟩, rfl, fun _ _ _ => rfl, hF, hw⟩)
            · skip
              obtain ⟨xu, uu⟩ := x
              show J _ _ _ _ _ ((45, .pointer (some ⟨q, 0 + ((k0 : Nat) : Int).toNat * 35, none⟩)) :: _) _
              refine J.pr (fun hF => ?_)
              have h15 : m 15 = false := by cases h : m 15 with
                | false => rfl
                | true => rw [(hF h).1] at hm; cases hm
              refine J.conseq (I' := St w [q] ((q, cb (fC ((P ++ U0) ++ u :: xe :: (V ++ (L.drop (k + 1) ++ T))) ++ sp) 75) :: [])) ?_ (fun w1 hw => by simp only [h15, cond_false] at hw; exact hw)
              refine J.loadA (vs := cC u) Ty.a75 Ty.s75 rfl rfl (fun w1 hw => rowG_at (c := cC) (sz := 35) (fun _ => rfl) (rowC_own (xs := (P ++ U0) ++ u :: xe :: (V ++ (L.drop (k + 1) ++ T))) hw (.head _) hnx hnc) gu (by rw [Int.toNat_natCast])) rfl ?_
              refine J.nil (JX.finB rfl (fun w1 hw => ⟨⟨⟨xu, uu⟩, rfl, fun j h1 h2 => ?_, ?_⟩, trivial⟩))
              · match j, h1 with
                | 0, _ => (first | rfl | trivial)
                | 1, _ => (first | rfl | trivial)
                | 2, _ => (first | rfl | trivial)
                | 3, _ => (first | rfl | trivial)
                | 4, _ => (first | rfl | trivial)
                | 5, _ => (first | rfl | trivial)
                | 6, _ => (first | rfl | trivial)
                | 7, _ => (first | rfl | trivial)
                | 8, _ => (first | rfl | trivial)
                | 9, _ => (first | rfl | trivial)
                | 10, _ => (first | rfl | trivial)
                | 11, _ => (first | rfl | trivial)
                | 12, _ => (first | rfl | trivial)
                | 13, _ => (first | rfl | trivial)
                | 14, _ => (first | rfl | trivial)
                | 15, _ => (first | rfl | trivial)
                | j + 16, h1 => omega
              show ((m 15 = true → true = true ∧ m 13 = true)) ∧ St w [q] ((q, cb (bif m 15 then fC (((P ++ U0) ++ u :: xe :: (V ++ (L.drop (k + 1) ++ T))).set ((k0 + 1)) u) ++ sp else fC ((P ++ U0) ++ u :: xe :: (V ++ (L.drop (k + 1) ++ T))) ++ sp) 75) :: []) w1
              simp only [h15, cond_false] at hw ⊢
              exact ⟨fun h => (by first | (rw [h15] at h; cases h) | cases h), hw⟩
            · skip
              obtain ⟨xu, uu⟩ := x
              show J _ _ _ _ _ (_) _
              refine J.pr (fun hF => ?_)
              refine J.move rfl rfl ?_
              exact J.finX rfl (fun _ hw => ⟨⟨xu, uu⟩, rfl, fun _ _ _ => rfl, hF, hw⟩)
            · skip
              obtain ⟨xu, uu⟩ := x
              show J _ _ _ _ _ (_) _
              refine J.pr (fun hF => ?_)
              refine J.move rfl rfl ?_
              exact J.finX rfl (fun _ hw => ⟨⟨xu, uu⟩, rfl, fun _ _ _ => rfl, hF, hw⟩)
            · skip
              obtain ⟨xu, uu⟩ := x
              show J _ _ _ _ _ ((48, .int .i64 (((k0 + 1) : Nat) : Int)) :: (47, .slice (some ⟨q, 0, none⟩) n c) :: _) _
              refine J.pr (fun hF => ?_)
              refine J.indexAddrS Ty.el68 Ty.s75 rfl rfl (by omega) (by omega) rfl ?_
              exact J.finX rfl (fun _ hw => ⟨⟨xu, uu⟩, rfl, fun _ _ _ => rfl, hF, hw⟩)
            · skip
              obtain ⟨xu, uu⟩ := x
              show J _ _ _ _ _ ((49, .pointer (some ⟨q, 0 + (((k0 + 1) : Nat) : Int).toNat * 35, none⟩)) :: _) _
              refine J.pr (fun hF => ?_)
              have h15 : m 15 = false := by cases h : m 15 with
                | false => rfl
                | true => rw [(hF h).2] at hm; cases hm
              refine J.conseq (I' := St w [q] ((q, cb (fC ((P ++ U0) ++ u :: xe :: (V ++ (L.drop (k + 1) ++ T))) ++ sp) 75) :: [])) ?_ (fun w1 hw => by simp only [h15, cond_false] at hw; exact hw)
              refine J.loadA (vs := cC xe) Ty.a75 Ty.s75 rfl rfl (fun w1 hw => rowG_at (c := cC) (sz := 35) (fun _ => rfl) (rowC_own (xs := (P ++ U0) ++ u :: xe :: (V ++ (L.drop (k + 1) ++ T))) hw (.head _) hnx hnc) gx (by rw [Int.toNat_natCast])) rfl ?_
              refine J.nil (JX.finB rfl (fun w1 hw => ⟨⟨⟨xu, uu⟩, rfl, fun j h1 h2 => ?_, ?_⟩, trivial⟩))
              · match j, h1 with
                | 0, _ => (first | rfl | trivial)
                | 1, _ => (first | rfl | trivial)
                | 2, _ => (first | rfl | trivial)
                | 3, _ => (first | rfl | trivial)
                | 4, _ => (first | rfl | trivial)
                | 5, _ => (first | rfl | trivial)
                | 6, _ => (first | rfl | trivial)
                | 7, _ => (first | rfl | trivial)
                | 8, _ => (first | rfl | trivial)
                | 9, _ => (first | rfl | trivial)
                | 10, _ => (first | rfl | trivial)
                | 11, _ => (first | rfl | trivial)
                | 12, _ => (first | rfl | trivial)
                | 13, _ => (first | rfl | trivial)
                | 14, _ => (first | rfl | trivial)
                | 15, _ => (first | rfl | trivial)
                | j + 16, h1 => omega
              show ((m 15 = true → m 9 = true ∧ true = true)) ∧ St w [q] ((q, cb (bif m 15 then fC (((P ++ U0) ++ u :: xe :: (V ++ (L.drop (k + 1) ++ T))).set ((k0 + 1)) u) ++ sp else fC ((P ++ U0) ++ u :: xe :: (V ++ (L.drop (k + 1) ++ T))) ++ sp) 75) :: []) w1
              simp only [h15, cond_false] at hw ⊢
              exact ⟨fun h => (by first | (rw [h15] at h; cases h) | cases h), hw⟩
            · skip
              obtain ⟨xu, uu⟩ := x
              show J _ _ _ _ _ ((50, .agg (cC xe).toArray) :: (46, .agg (cC u).toArray) :: (45, .pointer (some ⟨q, 0 + ((k0 : Nat) : Int).toNat * 35, none⟩)) :: (44, .int .i64 ((k0 : Nat) : Int)) :: (43, .int .i64 (((k0 + 1) : Nat) : Int)) :: (42, .slice (some ⟨q, 0, none⟩) n c) :: (38, .int .i64 (((k0 + 1) : Nat) : Int)) :: (37, .slice (some ⟨q, 0, none⟩) n c) :: (38, .int .i64 (((k0 + 1) : Nat) : Int)) :: (37, .slice (some ⟨q, 0, none⟩) n c) :: _) _
              have hp9 : m 9 = true := predsT hp (by kernel_rfl)
              have hp13 : m 13 = true := predsT hp (by kernel_rfl)
              refine J.pr (fun hF => ?_)
              refine J.indexAddrS Ty.el68 Ty.s75 rfl rfl (by omega) (by omega) rfl ?_
              exact J.finX rfl (fun _ hw => ⟨⟨xu, uu⟩, rfl, fun _ _ _ => rfl, hF, hw⟩)
            · skip
              obtain ⟨xu, uu⟩ := x
              show J _ _ _ _ _ ((50, .agg (cC xe).toArray) :: (46, .agg (cC u).toArray) :: (45, .pointer (some ⟨q, 0 + ((k0 : Nat) : Int).toNat * 35, none⟩)) :: (44, .int .i64 ((k0 : Nat) : Int)) :: (43, .int .i64 (((k0 + 1) : Nat) : Int)) :: (42, .slice (some ⟨q, 0, none⟩) n c) :: (38, .int .i64 (((k0 + 1) : Nat) : Int)) :: (37, .slice (some ⟨q, 0, none⟩) n c) :: (46, .agg (cC u).toArray) :: (51, .pointer (some ⟨q, 0 + (((k0 + 1) : Nat) : Int).toNat * 35, none⟩)) :: _) _
              have hp9 : m 9 = true := predsT hp (by kernel_rfl)
              have hp9 : m 9 = true := predsT hp (by kernel_rfl)
              have hp13 : m 13 = true := predsT hp (by kernel_rfl)
              refine J.pr (fun hF => ?_)
              refine J.conseq (I' := St w [q] ((q, cb (fC ((P ++ U0) ++ u :: xe :: (V ++ (L.drop (k + 1) ++ T))) ++ sp) 75) :: [])) ?_ (fun w1 hw => by simp only [hm, cond_false] at hw; exact hw)
              refine J.storeO (cs := fC ((P ++ U0) ++ u :: xe :: (V ++ (L.drop (k + 1) ++ T))) ++ sp) (vs := cC u) (l' := (q, cb (fC (((P ++ U0) ++ u :: xe :: (V ++ (L.drop (k + 1) ++ T))).set ((k0 + 1)) u) ++ sp) 75) :: []) Ty.s75 rfl rfl rfl rfl (one_cC _) (by rw [set_C (i := (k0 + 1)) (by omega) (by rw [Int.toNat_natCast]; omega)]; exact .here) (by rw [List.length_append, fC_len, hnx]; omega) ?_
              refine J.nil (JX.finN undef (fun w1 hw => ⟨⟨xu, uu⟩, rfl, fun j h1 h2 => ?_, ?_⟩))
              · match j, h1 with
                | 0, _ => (first | rfl | trivial)
                | 1, _ => (first | rfl | trivial)
                | 2, _ => (first | rfl | trivial)
                | 3, _ => (first | rfl | trivial)
                | 4, _ => (first | rfl | trivial)
                | 5, _ => (first | rfl | trivial)
                | 6, _ => (first | rfl | trivial)
                | 7, _ => (first | rfl | trivial)
                | 8, _ => (first | rfl | trivial)
                | 9, _ => (first | rfl | trivial)
                | 10, _ => (first | rfl | trivial)
                | 11, _ => (first | rfl | trivial)
                | 12, _ => (first | rfl | trivial)
                | 13, _ => (first | rfl | trivial)
                | 14, _ => (first | rfl | trivial)
                | 15, _ => (first | rfl | trivial)
                | j + 16, h1 => omega
              show ((true = true → m 9 = true ∧ m 13 = true)) ∧ St w [q] ((q, cb (bif true then fC (((P ++ U0) ++ u :: xe :: (V ++ (L.drop (k + 1) ++ T))).set ((k0 + 1)) u) ++ sp else fC ((P ++ U0) ++ u :: xe :: (V ++ (L.drop (k + 1) ++ T))) ++ sp) 75) :: []) w1
              simp only [cond_true] at hw ⊢
              exact ⟨fun _ => ⟨hp9, hp13⟩, hw⟩
          case htail =>
            intro x
            obtain ⟨xu, uu⟩ := x
            show J _ _ _ _ _ ((51, .pointer (some ⟨q, 0 + (((k0 + 1) : Nat) : Int).toNat * 35, none⟩)) :: (50, .agg (cC xe).toArray) :: (49, .pointer (some ⟨q, 0 + (((k0 + 1) : Nat) : Int).toNat * 35, none⟩)) :: (48, .int .i64 (((k0 + 1) : Nat) : Int)) :: (47, .slice (some ⟨q, 0, none⟩) n c) :: (46, .agg (cC u).toArray) :: (45, .pointer (some ⟨q, 0 + ((k0 : Nat) : Int).toNat * 35, none⟩)) :: (44, .int .i64 ((k0 : Nat) : Int)) :: (43, .int .i64 (((k0 + 1) : Nat) : Int)) :: (42, .slice (some ⟨q, 0, none⟩) n c) :: (41, .int .i64 ((k0 : Nat) : Int)) :: (40, .int .i64 (((k0 + 1) : Nat) : Int)) :: (39, .slice (some ⟨q, 0, none⟩) n c) :: (38, .int .i64 (((k0 + 1) : Nat) : Int)) :: (37, .slice (some ⟨q, 0, none⟩) n c) :: _) (fun w1 => ((true = true → true = true ∧ true = true)) ∧ St w [q] ((q, cb (bif true then fC (((P ++ U0) ++ u :: xe :: (V ++ (L.drop (k + 1) ++ T))).set ((k0 + 1)) u) ++ sp else fC ((P ++ U0) ++ u :: xe :: (V ++ (L.drop (k + 1) ++ T))) ++ sp) 75) :: []) w1)
            refine J.pr (fun hF => ?_)
            refine J.conseq (I' := St w [q] ((q, cb (fC (((P ++ U0) ++ u :: xe :: (V ++ (L.drop (k + 1) ++ T))).set ((k0 + 1)) u) ++ sp) 75) :: [])) ?_ (fun w1 hw => by simp only [cond_true] at hw; exact hw)
            refine J.indexAddrS Ty.el68 Ty.s75 rfl rfl (by omega) (by omega) rfl ?_
            refine J.storeO (cs := fC (((P ++ U0) ++ u :: xe :: (V ++ (L.drop (k + 1) ++ T))).set ((k0 + 1)) u) ++ sp) (vs := cC xe) (l' := (q, cb (fC ((P ++ U0) ++ xe :: u :: (V ++ (L.drop (k + 1) ++ T))) ++ sp) 75) :: []) Ty.s75 rfl rfl rfl rfl (one_cC _) (by rw [set_C (i := k0) (by rw [List.length_set]; omega) (by rw [Int.toNat_natCast]; omega), show k0 = (P ++ U0).length from hk0, swap_mid]; exact .here) (by rw [List.length_append, fC_len, List.length_set, hnx]; omega) ?_
            refine J.nil ?_
            refine JX.blockN ?_
            refine JX.thenN (hK7 _ _ ?_)
            refine JC.region ?_
            refine J.move rfl rfl ?_
            refine J.subN rfl rfl (by omega) (by omega) rfl ?_
            refine J.name 36 rfl (show _ = Value.int .i64 ((k0 : Nat) : Int) from congrArg (Value.int .i64) (by omega)) ?_
            refine J.assign rfl rfl ?_
            refine J.nil ?_
            refine JX.thenN ?_
            refine JX.again (⟨k0, U0, u :: V⟩ : InS) ?_ ?_ ?_
            · simp only; omega
            · exact ⟨rfl, rfl, rfl, rfl, rfl, rfl, trivial⟩
            · exact fun w1 hw => ⟨⟨by show k0 = P.length + U0.length; omega, hse2.trans (ins_swap swoC hlt), by simpa [List.append_assoc] using hUV, fun v hv => (List.mem_cons.1 hv).elim (fun e => by rw [e]; exact hlt) (hV v)⟩, by simpa [List.append_assoc] using hw⟩
        · skip
          have hlt : ¬ ltC xe u := by simpa using h1
          have hU : ∀ y, (U0 ++ [u]).getLast? = some y → ¬ ltC xe y := by
            intro y hy
            rw [List.getLast?_concat] at hy
            cases hy
            exact hlt
          refine JC.conseq (I' := St w [q] [(q, cb (fC (P ++ (((U0 ++ [u]) ++ xe :: V) ++ (L.drop (k + 1) ++ T))) ++ sp) 75)]) ?_ (fun w1 hw => by rw [e0]; exact hw)
          refine JC.exit ?_
          refine JX.thenE ?_
          refine JX.thenE ?_
          refine JX.blockE ?_
          refine JX.blockN ?_
          refine JX.thenN (hK3 _ _ ?_)
          refine JC.region ?_
          refine J.move rfl rfl ?_
          refine J.addN rfl rfl (by omega) (by omega) rfl ?_
          refine J.name 16 rfl (show _ = Value.int .i64 (((P.length + (k + 1)) : Nat) : Int) from congrArg (Value.int .i64) (by omega)) ?_
          refine J.assign rfl rfl ?_
          refine J.nil ?_
          refine JX.thenN ?_
          refine JX.again ((k + 1, (U0 ++ [u]) ++ xe :: V) : Nat × List CV) ?_ ?_ ?_
          · simp only; omega
          · exact ⟨rfl, rfl, rfl, rfl, rfl, trivial⟩
          · exact fun w1 hw => ⟨⟨by show 1 ≤ k + 1; omega, hse2, ins_done swoC hUV hV hU⟩, hw⟩
  · skip
    have hge : L.length ≤ k := by simp at h0; omega
    rw [List.take_of_length_le hge] at hse
    refine JC.exit ?_
    refine JX.thenE ?_
    refine JX.thenE ?_
    refine JX.blockE ?_
    refine JX.end0 rfl (fun w1 hw => ?_)
    refine ⟨S, rfl, ⟨hse, hsrt⟩, ?_⟩
    rw [List.drop_eq_nil_of_le hge, List.nil_append] at hw
    exact hw

end Go.Proofs.Ytbafhclandendaa
/-
  Ranges of candidates that change places; rotating: contracts.
-/
namespace Go.Proofs.Ytbafhclandendaa
open Go.J Go.RowKit
set_option linter.unusedVariables false
set_option linter.unusedSimpArgs false
set_option maxRecDepth 8000
theorem get_far {α : Type} (l m r : List α) (x y : α) : (l ++ x :: (m ++ y :: r))[l.length + 1 + m.length]? = some y := by
  rw [List.getElem?_append_right (by omega), show l.length + 1 + m.length - l.length = m.length + 1 by omega, List.getElem?_cons_succ, List.getElem?_append_right (by omega), Nat.sub_self, List.getElem?_cons_zero]
theorem swap_far {α : Type} (l m r : List α) (x y : α) : ((l ++ x :: (m ++ y :: r)).set l.length y).set (l.length + 1 + m.length) x = l ++ y :: (m ++ x :: r) := by
  rw [List.set_append_right _ _ (Nat.le_refl _), Nat.sub_self, List.set_cons_zero, List.set_append_right _ _ (by omega), show l.length + 1 + m.length - l.length = m.length + 1 by omega, List.set_cons_succ, List.set_append_right _ _ (Nat.le_refl _), Nat.sub_self, List.set_cons_zero]
/-- two ranges, of which the first i have changed places -/
def swR (P A M B T : List CV) (i : Nat) : List CV := P ++ ((B.take i ++ A.drop i) ++ (M ++ ((A.take i ++ B.drop i) ++ T)))
theorem swR_len (P A M B T : List CV) (i : Nat) (h : A.length = B.length) : (swR P A M B T i).length = P.length + A.length + M.length + B.length + T.length := by
  unfold swR
  simp only [List.length_append, List.length_take, List.length_drop]
  omega
theorem swR_at {P A M B T : List CV} {i : Nat} {x y : CV} (hx : A[i]? = some x) (hy : B[i]? = some y) : swR P A M B T i = (P ++ B.take i) ++ x :: ((A.drop (i + 1) ++ (M ++ A.take i)) ++ y :: (B.drop (i + 1) ++ T)) := by
  have h1 := (List.getElem?_eq_some_iff.1 hx)
  have h2 := (List.getElem?_eq_some_iff.1 hy)
  unfold swR
  rw [List.drop_eq_getElem_cons h1.1, List.drop_eq_getElem_cons h2.1, h1.2, h2.2]
  simp only [List.append_assoc, List.cons_append]
theorem swR_next {P A M B T : List CV} {i : Nat} {x y : CV} (hx : A[i]? = some x) (hy : B[i]? = some y) : swR P A M B T (i + 1) = (P ++ B.take i) ++ y :: ((A.drop (i + 1) ++ (M ++ A.take i)) ++ x :: (B.drop (i + 1) ++ T)) := by
  unfold swR
  rw [List.take_add_one, List.take_add_one, hx, hy]
  simp only [List.append_assoc, Option.toList_some, List.cons_append, List.nil_append]
structure RoS where
  P : List CV
  X : List CV
  Y : List CV
  T : List CV
theorem split_at {α : Type} (l : List α) {k : Nat} (h : k ≤ l.length) : ∃ a b, l = a ++ b ∧ a.length = k ∧ b.length = l.length - k := ⟨l.take k, l.drop k, (List.take_append_drop _ _).symm, by rw [List.length_take]; omega, by rw [List.length_drop]⟩

set_option maxHeartbeats 2000000 in
theorem swapRange_spec (q n c : Nat) (P A M B T : List CV) (sp : List Value) (w : World) (hw0 : Own w [(q, cb (fC (P ++ (A ++ (M ++ (B ++ T)))) ++ sp) 75)]) (hAB : A.length = B.length) (hn : P.length + A.length + M.length + B.length + T.length = n) (hnc : n ≤ c) (hnb : n ≤ 1099511627776) :
    Calls Try.prog 101 [.slice (some ⟨q, 0, none⟩) n c, .int .i64 ((P.length : Nat) : Int), .int .i64 (((P.length + A.length + M.length) : Nat) : Int), .int .i64 ((A.length : Nat) : Int), .func (.func 55) #[] #[]].toArray w fun r w' => r = .returned (.tuple #[]) ∧ St w [q] [(q, cb (fC (P ++ (B ++ (M ++ (A ++ T)))) ++ sp) 75)] w' := by
  refine calls_of_J (args := [.slice (some ⟨q, 0, none⟩) n c, .int .i64 ((P.length : Nat) : Int), .int .i64 (((P.length + A.length + M.length) : Nat) : Int), .int .i64 ((A.length : Nat) : Int), .func (.func 55) #[] #[]]) (e := [(0, .slice (some ⟨q, 0, none⟩) n c), (1, .int .i64 ((P.length : Nat) : Int)), (2, .int .i64 (((P.length + A.length + M.length) : Nat) : Int)), (3, .int .i64 ((A.length : Nat) : Int)), (4, .func (.func 55) #[] #[])]) Try.func101 rfl rfl ⟨rfl, rfl, rfl, rfl, rfl, trivial⟩ (hw0.st) ?_
  refine JC.seq (fun K0 hK0 => ?_)
  refine JC.region ?_
  refine J.assign rfl rfl ?_
  refine J.nil ?_
  refine JX.thenN (hK0 _ _ ?_)
  refine JC.block ?_
  refine JC.conseq (JC.cov (f := (fun i => [(0, .slice (some ⟨q, 0, none⟩) n c), (1, .int .i64 ((P.length : Nat) : Int)), (2, .int .i64 (((P.length + A.length + M.length) : Nat) : Int)), (3, .int .i64 ((A.length : Nat) : Int)), (10, .int .i64 ((i : Nat) : Int))]) 0) ⟨rfl, rfl, rfl, rfl, rfl, trivial⟩ (JC.loop (α := Nat) (fun i => [(0, .slice (some ⟨q, 0, none⟩) n c), (1, .int .i64 ((P.length : Nat) : Int)), (2, .int .i64 (((P.length + A.length + M.length) : Nat) : Int)), (3, .int .i64 ((A.length : Nat) : Int)), (10, .int .i64 ((i : Nat) : Int))]) (fun i w' => (i ≤ A.length) ∧ St w [q] [(q, cb (fC (swR P A M B T i) ++ sp) 75)] w') (fun i => A.length - i) 0 (fun i => ?_))) (fun w hw => ⟨Nat.zero_le _, by rw [show swR P A M B T 0 = P ++ (A ++ (M ++ (B ++ T))) by simp [swR]]; exact hw⟩)
  refine JC.pr (fun hi => ?_)
  refine JC.seq (fun K1 hK1 => ?_)
  refine JC.seq (fun K2 hK2 => ?_)
  refine JC.region ?_
  refine J.move rfl rfl ?_
  refine J.move rfl rfl ?_
  refine J.bin rfl rfl rfl rfl ?_
  refine J.nil ?_
  refine JX.thenN (hK2 _ _ ?_)
  refine JC.cond rfl (fun h0 => ?_) (fun h0 => ?_)
  · skip
    have hlt : i < A.length := by simp at h0; omega
    obtain ⟨xe, hxe⟩ : ∃ y, A[i]? = some y := ⟨_, List.getElem?_eq_getElem hlt⟩
    obtain ⟨ye, hye⟩ : ∃ y, B[i]? = some y := ⟨_, List.getElem?_eq_getElem (by omega)⟩
    have e0 := swR_at (P := P) (M := M) (T := T) hxe hye
    rw [e0]
    have hnx : ((P ++ B.take i) ++ xe :: ((A.drop (i + 1) ++ (M ++ A.take i)) ++ ye :: (B.drop (i + 1) ++ T))).length = n := by rw [← e0, swR_len _ _ _ _ _ _ hAB]; exact hn
    have hl1 : (P ++ B.take i).length = P.length + i := by rw [List.length_append, List.length_take]; omega
    have hl2 : (A.drop (i + 1) ++ (M ++ A.take i)).length = A.length + M.length - 1 := by simp only [List.length_append, List.length_drop, List.length_take]; omega
    have gx : ((P ++ B.take i) ++ xe :: ((A.drop (i + 1) ++ (M ++ A.take i)) ++ ye :: (B.drop (i + 1) ++ T)))[(P.length + i)]? = some xe := by rw [← hl1]; exact get_mid _ _ _
    have gy : ((P ++ B.take i) ++ xe :: ((A.drop (i + 1) ++ (M ++ A.take i)) ++ ye :: (B.drop (i + 1) ++ T)))[(P.length + A.length + M.length + i)]? = some ye := by
      rw [show P.length + A.length + M.length + i = (P ++ B.take i).length + 1 + (A.drop (i + 1) ++ (M ++ A.take i)).length by omega]
      exact get_far _ _ _ _ _
    refine JC.skip ?_
    refine JX.thenN (hK1 _ _ ?_)
    refine JC.seq (fun K3 hK3 => ?_)
    refine JC.block ?_
    apply JC.drawX (α := Nat × Unit) 22 (fun x => match x with | ⟨xu, uu⟩ => [.slice (some ⟨q, 0, none⟩) n c, .int .i64 ((P.length : Nat) : Int), .int .i64 ((i : Nat) : Int), .int .i64 (((P.length + i) : Nat) : Int), .slice (some ⟨q, 0, none⟩) n c, .int .i64 (((P.length + A.length + M.length) : Nat) : Int), .int .i64 ((i : Nat) : Int), .int .i64 (((P.length + A.length + M.length + i) : Nat) : Int), .slice (some ⟨q, 0, none⟩) n c, .int .i64 (((P.length + A.length + M.length) : Nat) : Int), .int .i64 ((i : Nat) : Int), .int .i64 (((P.length + A.length + M.length + i) : Nat) : Int), .pointer (some ⟨q, 0 + (((P.length + A.length + M.length + i) : Nat) : Int).toNat * 35, none⟩), .agg (cC ye).toArray, .slice (some ⟨q, 0, none⟩) n c, .int .i64 ((P.length : Nat) : Int), .int .i64 ((i : Nat) : Int), .int .i64 (((P.length + i) : Nat) : Int), .pointer (some ⟨q, 0 + (((P.length + i) : Nat) : Int).toNat * 35, none⟩), .agg (cC xe).toArray, .pointer (some ⟨q, 0 + (((P.length + i) : Nat) : Int).toNat * 35, none⟩), undef]) (fun m x => match x with | ⟨xu, uu⟩ => fun w1 => ((m 21 = true → m 13 = true ∧ m 19 = true)) ∧ St w [q] ((q, cb (bif m 21 then fC (((P ++ B.take i) ++ xe :: ((A.drop (i + 1) ++ (M ++ A.take i)) ++ ye :: (B.drop (i + 1) ++ T))).set ((P.length + i)) ye) ++ sp else fC ((P ++ B.take i) ++ xe :: ((A.drop (i + 1) ++ (M ++ A.take i)) ++ ye :: (B.drop (i + 1) ++ T))) ++ sp) 75) :: []) w1) Ty.mixed rfl rfl rfl (by kernel_rfl) rfl rfl ?hinit ?hstep ?htail
    case hinit => exact fun w1 hw => ⟨(0, ()), fun h => (by cases h), hw.drew⟩
    case hstep =>
      refine ⟨fun m x hm hp => ?_, fun m x hm hp => ?_, fun m x hm hp => ?_, fun m x hm hp => ?_, fun m x hm hp => ?_, fun m x hm hp => ?_, fun m x hm hp => ?_, fun m x hm hp => ?_, fun m x hm hp => ?_, fun m x hm hp => ?_, fun m x hm hp => ?_, fun m x hm hp => ?_, fun m x hm hp => ?_, fun m x hm hp => ?_, fun m x hm hp => ?_, fun m x hm hp => ?_, fun m x hm hp => ?_, fun m x hm hp => ?_, fun m x hm hp => ?_, fun m x hm hp => ?_, fun m x hm hp => ?_, fun m x hm hp => ?_, trivial⟩
      · skip
        obtain ⟨xu, uu⟩ := x
        show J _ _ _ _ _ (_) _
        refine J.pr (fun hF => ?_)
        refine J.move rfl rfl ?_
        exact J.finX rfl (fun _ hw => ⟨⟨xu, uu⟩, rfl, fun _ _ _ => rfl, hF, hw⟩)
      · skip
        obtain ⟨xu, uu⟩ := x
        show J _ _ _ _ _ (_) _
        refine J.pr (fun hF => ?_)
        refine J.move rfl rfl ?_
        exact J.finX rfl (fun _ hw => ⟨⟨xu, uu⟩, rfl, fun _ _ _ => rfl, hF, hw⟩)
      · skip
        obtain ⟨xu, uu⟩ := x
        show J _ _ _ _ _ (_) _
        refine J.pr (fun hF => ?_)
        refine J.move rfl rfl ?_
        exact J.finX rfl (fun _ hw => ⟨⟨xu, uu⟩, rfl, fun _ _ _ => rfl, hF, hw⟩)
      · skip
        obtain ⟨xu, uu⟩ := x
        show J _ _ _ _ _ ((18, .int .i64 ((i : Nat) : Int)) :: (17, .int .i64 ((P.length : Nat) : Int)) :: _) _
        refine J.pr (fun hF => ?_)
        refine J.addN rfl rfl (by omega) (by omega) rfl ?_
        refine J.name 19 rfl (show _ = Value.int .i64 (((P.length + i) : Nat) : Int) from congrArg (Value.int .i64) (by omega)) ?_
        exact J.finX rfl (fun _ hw => ⟨⟨xu, uu⟩, rfl, fun _ _ _ => rfl, hF, hw⟩)
      · skip
        obtain ⟨xu, uu⟩ := x
        show J _ _ _ _ _ (_) _
        refine J.pr (fun hF => ?_)
        refine J.move rfl rfl ?_
        exact J.finX rfl (fun _ hw => ⟨⟨xu, uu⟩, rfl, fun _ _ _ => rfl, hF, hw⟩)
      · skip
        obtain ⟨xu, uu⟩ := x
        show J _ _ _ _ _ (_) _
        refine J.pr (fun hF => ?_)
        refine J.move rfl rfl ?_
        exact J.finX rfl (fun _ hw => ⟨⟨xu, uu⟩, rfl, fun _ _ _ => rfl, hF, hw⟩)
      · skip
        obtain ⟨xu, uu⟩ := x
        show J _ _ _ _ _ (_) _
        refine J.pr (fun hF => ?_)
        refine J.move rfl rfl ?_
        exact J.finX rfl (fun _ hw => ⟨⟨xu, uu⟩, rfl, fun _ _ _ => rfl, hF, hw⟩)
      · skip
        obtain ⟨xu, uu⟩ := x
        show J _ _ _ _ _ ((22, .int .i64 ((i : Nat) : Int)) :: (21, .int .i64 (((P.length + A.length + M.length) : Nat) : Int)) :: _) _
        refine J.pr (fun hF => ?_)
        refine J.addN rfl rfl (by omega) (by omega) rfl ?_
        refine J.name 23 rfl (show _ = Value.int .i64 (((P.length + A.length + M.length + i) : Nat) : Int) from congrArg (Value.int .i64) (by omega)) ?_
        exact J.finX rfl (fun _ hw => ⟨⟨xu, uu⟩, rfl, fun _ _ _ => rfl, hF, hw⟩)
      · skip
        obtain ⟨xu, uu⟩ := x
        show J _ _ _ _ _ (_) _
        refine J.pr (fun hF => ?_)
        refine J.move rfl rfl ?_
        exact J.finX rfl (fun _ hw => ⟨⟨xu, uu⟩, rfl, fun _ _ _ => rfl, hF, hw⟩)
      · skip
        obtain ⟨xu, uu⟩ := x
        show J _ _ _ _ _ (_) _
        refine J.pr (fun hF => ?_)
        refine J.move rfl rfl ?_
        exact J.finX rfl (fun _ hw => ⟨⟨xu, uu⟩, rfl, fun _ _ _ => rfl, hF, hw⟩)
      · skip
        obtain ⟨xu, uu⟩ := x
        show J _ _ _ _ _ (_) _
        refine J.pr (fun hF => ?_)
        refine J.move rfl rfl ?_
        exact J.finX rfl (fun _ hw => ⟨⟨xu, uu⟩, rfl, fun _ _ _ => rfl, hF, hw⟩)
      · skip
        obtain ⟨xu, uu⟩ := x
        show J _ _ _ _ _ ((26, .int .i64 ((i : Nat) : Int)) :: (25, .int .i64 (((P.length + A.length + M.length) : Nat) : Int)) :: _) _
        refine J.pr (fun hF => ?_)
        refine J.addN rfl rfl (by omega) (by omega) rfl ?_
        refine J.name 27 rfl (show _ = Value.int .i64 (((P.length + A.length + M.length + i) : Nat) : Int) from congrArg (Value.int .i64) (by omega)) ?_
        exact J.finX rfl (fun _ hw => ⟨⟨xu, uu⟩, rfl, fun _ _ _ => rfl, hF, hw⟩)
      · skip
        obtain ⟨xu, uu⟩ := x
        show J _ _ _ _ _ ((27, .int .i64 (((P.length + A.length + M.length + i) : Nat) : Int)) :: (24, .slice (some ⟨q, 0, none⟩) n c) :: _) _
        refine J.pr (fun hF => ?_)
        refine J.indexAddrS Ty.el68 Ty.s75 rfl rfl (by omega) (by omega) rfl ?_
        exact J.finX rfl (fun _ hw => ⟨⟨xu, uu⟩, rfl, fun _ _ _ => rfl, hF, hw⟩)
      · skip
        obtain ⟨xu, uu⟩ := x
        show J _ _ _ _ _ ((28, .pointer (some ⟨q, 0 + (((P.length + A.length + M.length + i) : Nat) : Int).toNat * 35, none⟩)) :: _) _
        refine J.pr (fun hF => ?_)
        have h21 : m 21 = false := by cases h : m 21 with
          | false => rfl
          | true => rw [(hF h).1] at hm; cases hm
        refine J.conseq (I' := St w [q] ((q, cb (fC ((P ++ B.take i) ++ xe :: ((A.drop (i + 1) ++ (M ++ A.take i)) ++ ye :: (B.drop (i + 1) ++ T))) ++ sp) 75) :: [])) ?_ (fun w1 hw => by simp only [h21, cond_false] at hw; exact hw)
        refine J.loadA (vs := cC ye) Ty.a75 Ty.s75 rfl rfl (fun w1 hw => rowG_at (c := cC) (sz := 35) (fun _ => rfl) (rowC_own (xs := (P ++ B.take i) ++ xe :: ((A.drop (i + 1) ++ (M ++ A.take i)) ++ ye :: (B.drop (i + 1) ++ T))) hw (.head _) hnx hnc) gy (by rw [Int.toNat_natCast])) rfl ?_
        refine J.nil (JX.finB rfl (fun w1 hw => ⟨⟨⟨xu, uu⟩, rfl, fun j h1 h2 => ?_, ?_⟩, trivial⟩))
        · match j, h1 with
          | 0, _ => (first | rfl | trivial)
          | 1, _ => (first | rfl | trivial)
          | 2, _ => (first | rfl | trivial)
          | 3, _ => (first | rfl | trivial)
          | 4, _ => (first | rfl | trivial)
          | 5, _ => (first | rfl | trivial)
          | 6, _ => (first | rfl | trivial)
          | 7, _ => (first | rfl | trivial)
          | 8, _ => (first | rfl | trivial)
          | 9, _ => (first | rfl | trivial)
          | 10, _ => (first | rfl | trivial)
          | 11, _ => (first | rfl | trivial)
          | 12, _ => (first | rfl | trivial)
          | 13, _ => (first | rfl | trivial)
          | 14, _ => (first | rfl | trivial)
          | 15, _ => (first | rfl | trivial)
          | 16, _ => (first | rfl | trivial)
          | 17, _ => (first | rfl | trivial)
          | 18, _ => (first | rfl | trivial)
          | 19, _ => (first | rfl | trivial)
          | 20, _ => (first | rfl | trivial)
          | 21, _ => (first | rfl | trivial)
          | j + 22, h1 => omega
        show ((m 21 = true → true = true ∧ m 19 = true)) ∧ St w [q] ((q, cb (bif m 21 then fC (((P ++ B.take i) ++ xe :: ((A.drop (i + 1) ++ (M ++ A.take i)) ++ ye :: (B.drop (i + 1) ++ T))).set ((P.length + i)) ye) ++ sp else fC ((P ++ B.take i) ++ xe :: ((A.drop (i + 1) ++ (M ++ A.take i)) ++ ye :: (B.drop (i + 1) ++ T))) ++ sp) 75) :: []) w1
        simp only [h21, cond_false] at hw ⊢
        exact ⟨fun h => (by first | (rw [h21] at h; cases h) | cases h), hw⟩
      · skip
        obtain ⟨xu, uu⟩ := x
        show J _ _ _ _ _ (_) _
        refine J.pr (fun hF => ?_)
        refine J.move rfl rfl ?_
        exact J.finX rfl (fun _ hw => ⟨⟨xu, uu⟩, rfl, fun _ _ _ => rfl, hF, hw⟩)
      · skip
        obtain ⟨xu, uu⟩ := x
        show J _ _ _ _ _ (_) _
        refine J.pr (fun hF => ?_)
        refine J.move rfl rfl ?_
        exact J.finX rfl (fun _ hw => ⟨⟨xu, uu⟩, rfl, fun _ _ _ => rfl, hF, hw⟩)
      · skip
        obtain ⟨xu, uu⟩ := x
        show J _ _ _ _ _ (_) _
        refine J.pr (fun hF => ?_)
        refine J.move rfl rfl ?_
        exact J.finX rfl (fun _ hw => ⟨⟨xu, uu⟩, rfl, fun _ _ _ => rfl, hF, hw⟩)
      · skip
        obtain ⟨xu, uu⟩ := x
        show J _ _ _ _ _ ((32, .int .i64 ((i : Nat) : Int)) :: (31, .int .i64 ((P.length : Nat) : Int)) :: _) _
        refine J.pr (fun hF => ?_)
        refine J.addN rfl rfl (by omega) (by omega) rfl ?_
        refine J.name 33 rfl (show _ = Value.int .i64 (((P.length + i) : Nat) : Int) from congrArg (Value.int .i64) (by omega)) ?_
        exact J.finX rfl (fun _ hw => ⟨⟨xu, uu⟩, rfl, fun _ _ _ => rfl, hF, hw⟩)
      · skip
        obtain ⟨xu, uu⟩ := x
        show J _ _ _ _ _ ((33, .int .i64 (((P.length + i) : Nat) : Int)) :: (30, .slice (some ⟨q, 0, none⟩) n c) :: _) _
        refine J.pr (fun hF => ?_)
        refine J.indexAddrS Ty.el68 Ty.s75 rfl rfl (by omega) (by omega) rfl ?_
        exact J.finX rfl (fun _ hw => ⟨⟨xu, uu⟩, rfl, fun _ _ _ => rfl, hF, hw⟩)
      · skip
        obtain ⟨xu, uu⟩ := x
        show J _ _ _ _ _ ((34, .pointer (some ⟨q, 0 + (((P.length + i) : Nat) : Int).toNat * 35, none⟩)) :: _) _
        refine J.pr (fun hF => ?_)
        have h21 : m 21 = false := by cases h : m 21 with
          | false => rfl
          | true => rw [(hF h).2] at hm; cases hm
        refine J.conseq (I' := St w [q] ((q, cb (fC ((P ++ B.take i) ++ xe :: ((A.drop (i + 1) ++ (M ++ A.take i)) ++ ye :: (B.drop (i + 1) ++ T))) ++ sp) 75) :: [])) ?_ (fun w1 hw => by simp only [h21, cond_false] at hw; exact hw)
        refine J.loadA (vs := cC xe) Ty.a75 Ty.s75 rfl rfl (fun w1 hw => rowG_at (c := cC) (sz := 35) (fun _ => rfl) (rowC_own (xs := (P ++ B.take i) ++ xe :: ((A.drop (i + 1) ++ (M ++ A.take i)) ++ ye :: (B.drop (i + 1) ++ T))) hw (.head _) hnx hnc) gx (by rw [Int.toNat_natCast])) rfl ?_
        refine J.nil (JX.finB rfl (fun w1 hw => ⟨⟨⟨xu, uu⟩, rfl, fun j h1 h2 => ?_, ?_⟩, trivial⟩))
        · match j, h1 with
          | 0, _ => (first | rfl | trivial)
          | 1, _ => (first | rfl | trivial)
          | 2, _ => (first | rfl | trivial)
          | 3, _ => (first | rfl | trivial)
          | 4, _ => (first | rfl | trivial)
          | 5, _ => (first | rfl | trivial)
          | 6, _ => (first | rfl | trivial)
          | 7, _ => (first | rfl | trivial)
          | 8, _ => (first | rfl | trivial)
          | 9, _ => (first | rfl | trivial)
          | 10, _ => (first | rfl | trivial)
          | 11, _ => (first | rfl | trivial)
          | 12, _ => (first | rfl | trivial)
          | 13, _ => (first | rfl | trivial)
          | 14, _ => (first | rfl | trivial)
          | 15, _ => (first | rfl | trivial)
          | 16, _ => (first | rfl | trivial)
          | 17, _ => (first | rfl | trivial)
          | 18, _ => (first | rfl | trivial)
          | 19, _ => (first | rfl | trivial)
          | 20, _ => (first | rfl | trivial)
          | 21, _ => (first | rfl | trivial)
          | j + 22, h1 => omega
        show ((m 21 = true → m 13 = true ∧ true = true)) ∧ St w [q] ((q, cb (bif m 21 then fC (((P ++ B.take i) ++ xe :: ((A.drop (i + 1) ++ (M ++ A.take i)) ++ ye :: (B.drop (i + 1) ++ T))).set ((P.length + i)) ye) ++ sp else fC ((P ++ B.take i) ++ xe :: ((A.drop (i + 1) ++ (M ++ A.take i)) ++ ye :: (B.drop (i + 1) ++ T))) ++ sp) 75) :: []) w1
        simp only [h21, cond_false] at hw ⊢
        exact ⟨fun h => (by first | (rw [h21] at h; cases h) | cases h), hw⟩
      · skip
        obtain ⟨xu, uu⟩ := x
        show J _ _ _ _ _ ((35, .agg (cC xe).toArray) :: (29, .agg (cC ye).toArray) :: (28, .pointer (some ⟨q, 0 + (((P.length + A.length + M.length + i) : Nat) : Int).toNat * 35, none⟩)) :: (27, .int .i64 (((P.length + A.length + M.length + i) : Nat) : Int)) :: (26, .int .i64 ((i : Nat) : Int)) :: (25, .int .i64 (((P.length + A.length + M.length) : Nat) : Int)) :: (24, .slice (some ⟨q, 0, none⟩) n c) :: (19, .int .i64 (((P.length + i) : Nat) : Int)) :: (18, .int .i64 ((i : Nat) : Int)) :: (17, .int .i64 ((P.length : Nat) : Int)) :: (16, .slice (some ⟨q, 0, none⟩) n c) :: (19, .int .i64 (((P.length + i) : Nat) : Int)) :: (16, .slice (some ⟨q, 0, none⟩) n c) :: _) _
        have hp13 : m 13 = true := predsT hp (by kernel_rfl)
        have hp19 : m 19 = true := predsT hp (by kernel_rfl)
        refine J.pr (fun hF => ?_)
        refine J.indexAddrS Ty.el68 Ty.s75 rfl rfl (by omega) (by omega) rfl ?_
        exact J.finX rfl (fun _ hw => ⟨⟨xu, uu⟩, rfl, fun _ _ _ => rfl, hF, hw⟩)
      · skip
        obtain ⟨xu, uu⟩ := x
        show J _ _ _ _ _ ((35, .agg (cC xe).toArray) :: (29, .agg (cC ye).toArray) :: (28, .pointer (some ⟨q, 0 + (((P.length + A.length + M.length + i) : Nat) : Int).toNat * 35, none⟩)) :: (27, .int .i64 (((P.length + A.length + M.length + i) : Nat) : Int)) :: (26, .int .i64 ((i : Nat) : Int)) :: (25, .int .i64 (((P.length + A.length + M.length) : Nat) : Int)) :: (24, .slice (some ⟨q, 0, none⟩) n c) :: (19, .int .i64 (((P.length + i) : Nat) : Int)) :: (18, .int .i64 ((i : Nat) : Int)) :: (17, .int .i64 ((P.length : Nat) : Int)) :: (16, .slice (some ⟨q, 0, none⟩) n c) :: (29, .agg (cC ye).toArray) :: (36, .pointer (some ⟨q, 0 + (((P.length + i) : Nat) : Int).toNat * 35, none⟩)) :: _) _
        have hp13 : m 13 = true := predsT hp (by kernel_rfl)
        have hp13 : m 13 = true := predsT hp (by kernel_rfl)
        have hp19 : m 19 = true := predsT hp (by kernel_rfl)
        refine J.pr (fun hF => ?_)
        refine J.conseq (I' := St w [q] ((q, cb (fC ((P ++ B.take i) ++ xe :: ((A.drop (i + 1) ++ (M ++ A.take i)) ++ ye :: (B.drop (i + 1) ++ T))) ++ sp) 75) :: [])) ?_ (fun w1 hw => by simp only [hm, cond_false] at hw; exact hw)
        refine J.storeO (cs := fC ((P ++ B.take i) ++ xe :: ((A.drop (i + 1) ++ (M ++ A.take i)) ++ ye :: (B.drop (i + 1) ++ T))) ++ sp) (vs := cC ye) (l' := (q, cb (fC (((P ++ B.take i) ++ xe :: ((A.drop (i + 1) ++ (M ++ A.take i)) ++ ye :: (B.drop (i + 1) ++ T))).set ((P.length + i)) ye) ++ sp) 75) :: []) Ty.s75 rfl rfl rfl rfl (one_cC _) (by rw [set_C (i := (P.length + i)) (by omega) (by rw [Int.toNat_natCast]; omega)]; exact .here) (by rw [List.length_append, fC_len, hnx]; omega) ?_
        refine J.nil (JX.finN undef (fun w1 hw => ⟨⟨xu, uu⟩, rfl, fun j h1 h2 => ?_, ?_⟩))
        · match j, h1 with
          | 0, _ => (first | rfl | trivial)
          | 1, _ => (first | rfl | trivial)
          | 2, _ => (first | rfl | trivial)
          | 3, _ => (first | rfl | trivial)
          | 4, _ => (first | rfl | trivial)
          | 5, _ => (first | rfl | trivial)
          | 6, _ => (first | rfl | trivial)
          | 7, _ => (first | rfl | trivial)
          | 8, _ => (first | rfl | trivial)
          | 9, _ => (first | rfl | trivial)
          | 10, _ => (first | rfl | trivial)
          | 11, _ => (first | rfl | trivial)
          | 12, _ => (first | rfl | trivial)
          | 13, _ => (first | rfl | trivial)
          | 14, _ => (first | rfl | trivial)
          | 15, _ => (first | rfl | trivial)
          | 16, _ => (first | rfl | trivial)
          | 17, _ => (first | rfl | trivial)
          | 18, _ => (first | rfl | trivial)
          | 19, _ => (first | rfl | trivial)
          | 20, _ => (first | rfl | trivial)
          | 21, _ => (first | rfl | trivial)
          | j + 22, h1 => omega
        show ((true = true → m 13 = true ∧ m 19 = true)) ∧ St w [q] ((q, cb (bif true then fC (((P ++ B.take i) ++ xe :: ((A.drop (i + 1) ++ (M ++ A.take i)) ++ ye :: (B.drop (i + 1) ++ T))).set ((P.length + i)) ye) ++ sp else fC ((P ++ B.take i) ++ xe :: ((A.drop (i + 1) ++ (M ++ A.take i)) ++ ye :: (B.drop (i + 1) ++ T))) ++ sp) 75) :: []) w1
        simp only [cond_true] at hw ⊢
        exact ⟨fun _ => ⟨hp13, hp19⟩, hw⟩
    case htail =>
      intro x
      obtain ⟨xu, uu⟩ := x
      show J _ _ _ _ _ ((36, .pointer (some ⟨q, 0 + (((P.length + i) : Nat) : Int).toNat * 35, none⟩)) :: (35, .agg (cC xe).toArray) :: (34, .pointer (some ⟨q, 0 + (((P.length + i) : Nat) : Int).toNat * 35, none⟩)) :: (33, .int .i64 (((P.length + i) : Nat) : Int)) :: (32, .int .i64 ((i : Nat) : Int)) :: (31, .int .i64 ((P.length : Nat) : Int)) :: (30, .slice (some ⟨q, 0, none⟩) n c) :: (29, .agg (cC ye).toArray) :: (28, .pointer (some ⟨q, 0 + (((P.length + A.length + M.length + i) : Nat) : Int).toNat * 35, none⟩)) :: (27, .int .i64 (((P.length + A.length + M.length + i) : Nat) : Int)) :: (26, .int .i64 ((i : Nat) : Int)) :: (25, .int .i64 (((P.length + A.length + M.length) : Nat) : Int)) :: (24, .slice (some ⟨q, 0, none⟩) n c) :: (23, .int .i64 (((P.length + A.length + M.length + i) : Nat) : Int)) :: (22, .int .i64 ((i : Nat) : Int)) :: (21, .int .i64 (((P.length + A.length + M.length) : Nat) : Int)) :: (20, .slice (some ⟨q, 0, none⟩) n c) :: (19, .int .i64 (((P.length + i) : Nat) : Int)) :: (18, .int .i64 ((i : Nat) : Int)) :: (17, .int .i64 ((P.length : Nat) : Int)) :: (16, .slice (some ⟨q, 0, none⟩) n c) :: _) (fun w1 => ((true = true → true = true ∧ true = true)) ∧ St w [q] ((q, cb (bif true then fC (((P ++ B.take i) ++ xe :: ((A.drop (i + 1) ++ (M ++ A.take i)) ++ ye :: (B.drop (i + 1) ++ T))).set ((P.length + i)) ye) ++ sp else fC ((P ++ B.take i) ++ xe :: ((A.drop (i + 1) ++ (M ++ A.take i)) ++ ye :: (B.drop (i + 1) ++ T))) ++ sp) 75) :: []) w1)
      refine J.pr (fun hF => ?_)
      refine J.conseq (I' := St w [q] ((q, cb (fC (((P ++ B.take i) ++ xe :: ((A.drop (i + 1) ++ (M ++ A.take i)) ++ ye :: (B.drop (i + 1) ++ T))).set ((P.length + i)) ye) ++ sp) 75) :: [])) ?_ (fun w1 hw => by simp only [cond_true] at hw; exact hw)
      refine J.indexAddrS Ty.el68 Ty.s75 rfl rfl (by omega) (by omega) rfl ?_
      refine J.storeO (cs := fC (((P ++ B.take i) ++ xe :: ((A.drop (i + 1) ++ (M ++ A.take i)) ++ ye :: (B.drop (i + 1) ++ T))).set ((P.length + i)) ye) ++ sp) (vs := cC xe) (l' := (q, cb (fC ((P ++ B.take i) ++ ye :: ((A.drop (i + 1) ++ (M ++ A.take i)) ++ xe :: (B.drop (i + 1) ++ T))) ++ sp) 75) :: []) Ty.s75 rfl rfl rfl rfl (one_cC _) (by rw [set_C (i := (P.length + A.length + M.length + i)) (by rw [List.length_set]; omega) (by rw [Int.toNat_natCast]; omega), show P.length + A.length + M.length + i = (P ++ B.take i).length + 1 + (A.drop (i + 1) ++ (M ++ A.take i)).length by omega, show P.length + i = (P ++ B.take i).length by omega, swap_far]; exact .here) (by rw [List.length_append, fC_len, List.length_set, hnx]; omega) ?_
      refine J.nil ?_
      refine JX.blockN ?_
      refine JX.thenN (hK3 _ _ ?_)
      refine JC.region ?_
      refine J.move rfl rfl ?_
      refine J.addN rfl rfl (by omega) (by omega) rfl ?_
      refine J.name 15 rfl (show _ = Value.int .i64 (((i + 1) : Nat) : Int) from congrArg (Value.int .i64) (by omega)) ?_
      refine J.assign rfl rfl ?_
      refine J.nil ?_
      refine JX.thenN ?_
      refine JX.again (i + 1) ?_ ?_ ?_
      · omega
      · exact ⟨rfl, rfl, rfl, rfl, rfl, trivial⟩
      · exact fun w1 hw => ⟨hlt, by rw [swR_next hxe hye]; exact hw⟩
  · skip
    have hge : i = A.length := by simp at h0; omega
    refine JC.exit ?_
    refine JX.thenE ?_
    refine JX.thenE ?_
    refine JX.blockE ?_
    refine JX.end0 rfl (fun w1 hw => ?_)
    refine ⟨rfl, ?_⟩
    rw [hge, show swR P A M B T A.length = P ++ (B ++ (M ++ (A ++ T))) by unfold swR; rw [hAB, List.take_length, List.drop_length, ← hAB, List.take_length, List.drop_length]; simp] at hw
    exact hw

set_option maxHeartbeats 2000000 in
theorem rotate_spec (q n c : Nat) (P L R T : List CV) (sp : List Value) (w : World) (hw0 : Own w [(q, cb (fC (P ++ (L ++ (R ++ T))) ++ sp) 75)]) (hL0 : 0 < L.length) (hR0 : 0 < R.length) (hn : P.length + L.length + R.length + T.length = n) (hnc : n ≤ c) (hnb : n ≤ 1099511627776) (mm bb : Nat) (hmm : P.length + L.length = mm) (hbb : mm + R.length = bb) :
    Calls Try.prog 95 [.slice (some ⟨q, 0, none⟩) n c, .int .i64 ((P.length : Nat) : Int), .int .i64 ((mm : Nat) : Int), .int .i64 ((bb : Nat) : Int), .func (.func 55) #[] #[]].toArray w fun r w' => r = .returned (.tuple #[]) ∧ St w [q] [(q, cb (fC (P ++ (R ++ (L ++ T))) ++ sp) 75)] w' := by
  refine calls_of_J (args := [.slice (some ⟨q, 0, none⟩) n c, .int .i64 ((P.length : Nat) : Int), .int .i64 ((mm : Nat) : Int), .int .i64 ((bb : Nat) : Int), .func (.func 55) #[] #[]]) (e := [(0, .slice (some ⟨q, 0, none⟩) n c), (1, .int .i64 ((P.length : Nat) : Int)), (2, .int .i64 ((mm : Nat) : Int)), (3, .int .i64 ((bb : Nat) : Int)), (4, .func (.func 55) #[] #[])]) Try.func95 rfl rfl ⟨rfl, rfl, rfl, rfl, rfl, trivial⟩ (hw0.st) ?_
  refine JC.seq (fun K0 hK0 => ?_)
  refine JC.region ?_
  refine J.move rfl rfl ?_
  refine J.move rfl rfl ?_
  refine J.subN rfl rfl (by omega) (by omega) rfl ?_
  refine J.name 14 rfl (show _ = Value.int .i64 ((L.length : Nat) : Int) from congrArg (Value.int .i64) (by omega)) ?_
  refine J.assign rfl rfl ?_
  refine J.nil ?_
  refine JX.thenN (hK0 _ _ ?_)
  refine JC.seq (fun K1 hK1 => ?_)
  refine JC.region ?_
  refine J.move rfl rfl ?_
  refine J.move rfl rfl ?_
  refine J.subN rfl rfl (by omega) (by omega) rfl ?_
  refine J.name 17 rfl (show _ = Value.int .i64 ((R.length : Nat) : Int) from congrArg (Value.int .i64) (by omega)) ?_
  refine J.assign rfl rfl ?_
  refine J.nil ?_
  refine JX.thenN (hK1 _ _ ?_)
  refine JC.seq (fun K2 hK2 => ?_)
  refine JC.block ?_
  refine JC.conseq (JC.cov (f := (fun st => [(0, .slice (some ⟨q, 0, none⟩) n c), (2, .int .i64 ((mm : Nat) : Int)), (4, .func (.func 55) #[] #[]), (10, .int .i64 ((st.X.length : Nat) : Int)), (11, .int .i64 ((st.Y.length : Nat) : Int))]) (⟨P, L, R, T⟩ : RoS)) ⟨rfl, rfl, rfl, rfl, rfl, trivial⟩ (JC.loop (α := RoS) (fun st => [(0, .slice (some ⟨q, 0, none⟩) n c), (2, .int .i64 ((mm : Nat) : Int)), (4, .func (.func 55) #[] #[]), (10, .int .i64 ((st.X.length : Nat) : Int)), (11, .int .i64 ((st.Y.length : Nat) : Int))]) (fun st w' => (st.P.length + st.X.length = mm ∧ 0 < st.X.length ∧ 0 < st.Y.length ∧ st.P ++ (st.Y ++ (st.X ++ st.T)) = P ++ (R ++ (L ++ T)) ∧ st.P.length + st.X.length + st.Y.length + st.T.length = n) ∧ St w [q] [(q, cb (fC (st.P ++ (st.X ++ (st.Y ++ st.T))) ++ sp) 75)] w') (fun st => st.X.length + st.Y.length) (⟨P, L, R, T⟩ : RoS) (fun st => ?_))) (fun w hw => ⟨⟨hmm, hL0, hR0, rfl, hn⟩, hw⟩)
  obtain ⟨Pi, X, Y, Ti⟩ := st
  refine JC.pr (fun hI => ?_)
  obtain ⟨hm1, hX, hY, hfin, hni⟩ := hI
  try simp only at hm1 hX hY hfin hni ⊢
  refine JC.seq (fun K3 hK3 => ?_)
  refine JC.seq (fun K4 hK4 => ?_)
  refine JC.region ?_
  refine J.move rfl rfl ?_
  refine J.move rfl rfl ?_
  refine J.bin rfl rfl rfl rfl ?_
  refine J.nil ?_
  refine JX.thenN (hK4 _ _ ?_)
  refine JC.cond rfl (fun h0 => ?_) (fun h0 => ?_)
  · skip
    have hcne : X.length ≠ Y.length := by
      have h9 : ¬ ((X.length : Int) = Y.length) := by simpa using h0
      omega
    refine JC.skip ?_
    refine JX.thenN (hK3 _ _ ?_)
    refine JC.block ?_
    refine JC.seq (fun K5 hK5 => ?_)
    refine JC.region ?_
    refine J.move rfl rfl ?_
    refine J.move rfl rfl ?_
    refine J.bin rfl rfl rfl rfl ?_
    refine J.nil ?_
    refine JX.thenN (hK5 _ _ ?_)
    refine JC.cond rfl (fun h1 => ?_) (fun h1 => ?_)
    · skip
      have hcc : Y.length < X.length := by simpa using h1
      refine JC.seq (fun K6 hK6 => ?_)
      obtain ⟨X1, X2, hXe, hX1, hX2⟩ := split_at X (k := Y.length) (by omega)
      subst hXe
      simp only [List.length_append] at hm1 hX hni hX2 hcc
      refine JC.conseq (I' := St w [q] [(q, cb (fC (Pi ++ (X1 ++ (X2 ++ (Y ++ Ti)))) ++ sp) 75)]) ?_ (fun w1 hw => by simpa only [List.append_assoc] using hw)
      refine JC.region ?_
      refine J.move rfl rfl ?_
      refine J.move rfl rfl ?_
      refine J.move rfl rfl ?_
      refine J.subN rfl rfl (by simp only [List.length_append]; omega) (by simp only [List.length_append]; omega) rfl ?_
      refine J.name 27 rfl (show _ = .int .i64 ((Pi.length : Nat) : Int) from congrArg (Value.int .i64) (by simp only [List.length_append]; omega)) ?_
      refine J.move rfl rfl ?_
      refine J.name 28 rfl (show _ = .int .i64 (((Pi.length + X1.length + X2.length) : Nat) : Int) from congrArg (Value.int .i64) (by omega)) ?_
      refine J.move rfl rfl ?_
      refine J.name 29 rfl (show _ = .int .i64 ((X1.length : Nat) : Int) from congrArg (Value.int .i64) (by omega)) ?_
      refine J.move rfl rfl ?_
      refine J.callS (α := Unit) (V := fun _ => .tuple #[]) (Pr := fun _ => True) (L := fun _ => [(q, cb (fC (Pi ++ (Y ++ (X2 ++ (X1 ++ Ti)))) ++ sp) 75)]) (l1 := [(q, cb (fC (Pi ++ (X1 ++ (X2 ++ (Y ++ Ti)))) ++ sp) 75)]) (l := []) Ty.bd101 rfl rfl (fun w1 hw => (swapRange_spec q n c Pi X1 X2 Y Ti sp w1 hw.owns (by omega) (by simp only [List.length_append, List.length_nil] at *; omega) hnc hnb).mono fun _ _ ⟨h1, h2⟩ => ⟨(), h1, trivial, h2⟩) (fun _ _ => ?_)
      simp only [List.append_nil]
      refine J.nil ?_
      refine JX.thenN (hK6 _ _ ?_)
      refine JC.region ?_
      refine J.move rfl rfl ?_
      refine J.move rfl rfl ?_
      refine J.subN rfl rfl (by simp only [List.length_append]; omega) (by simp only [List.length_append]; omega) rfl ?_
      refine J.name 34 rfl (show _ = .int .i64 ((X2.length : Nat) : Int) from congrArg (Value.int .i64) (by simp only [List.length_append]; omega)) ?_
      refine J.assign rfl rfl ?_
      refine J.nil ?_
      refine JX.blockN ?_
      refine JX.thenN ?_
      refine JX.again (⟨Pi ++ Y, X2, X1, Ti⟩ : RoS) ?_ ?_ ?_
      · simp only [List.length_append]; omega
      · exact ⟨rfl, rfl, rfl, rfl, congrArg (fun k : Nat => some (Value.int .i64 ((k : Nat) : Int))) hX1.symm, trivial⟩
      · exact fun w1 hw => ⟨⟨by simp only [List.length_append]; omega, by simp only; omega, by simp only; omega, by simpa only [List.append_assoc] using hfin, by simp only [List.length_append]; omega⟩, by simpa only [List.append_assoc] using hw⟩
    · skip
      have hcc : X.length < Y.length := by
        have h9 : ¬ Y.length < X.length := by simpa using h1
        omega
      refine JC.seq (fun K7 hK7 => ?_)
      obtain ⟨Y1, Y2, hYe, hY1, hY2⟩ := split_at Y (k := Y.length - X.length) (by omega)
      have hY3 : Y2.length = X.length := by omega
      subst hYe
      simp only [List.length_append] at hm1 hY hni hY1 hY2 hcc hcne
      refine JC.conseq (I' := St w [q] [(q, cb (fC (Pi ++ (X ++ (Y1 ++ (Y2 ++ Ti)))) ++ sp) 75)]) ?_ (fun w1 hw => by simpa only [List.append_assoc] using hw)
      refine JC.region ?_
      refine J.move rfl rfl ?_
      refine J.move rfl rfl ?_
      refine J.move rfl rfl ?_
      refine J.subN rfl rfl (by omega) (by omega) rfl ?_
      refine J.name 38 rfl (show _ = Value.int .i64 ((Pi.length : Nat) : Int) from congrArg (Value.int .i64) (by omega)) ?_
      refine J.move rfl rfl ?_
      refine J.move rfl rfl ?_
      refine J.addN rfl rfl (by simp only [List.length_append]; omega) (by simp only [List.length_append]; omega) rfl ?_
      refine J.name 41 rfl (show _ = .int .i64 (((mm + Y1.length + Y2.length) : Nat) : Int) from congrArg (Value.int .i64) (by simp only [List.length_append]; omega)) ?_
      refine J.move rfl rfl ?_
      refine J.subN rfl rfl (by omega) (by omega) rfl ?_
      refine J.name 43 rfl (show _ = Value.int .i64 (((Pi.length + X.length + Y1.length) : Nat) : Int) from congrArg (Value.int .i64) (by omega)) ?_
      refine J.move rfl rfl ?_
      refine J.move rfl rfl ?_
      refine J.callS (α := Unit) (V := fun _ => .tuple #[]) (Pr := fun _ => True) (L := fun _ => [(q, cb (fC (Pi ++ (Y2 ++ (Y1 ++ (X ++ Ti)))) ++ sp) 75)]) (l1 := [(q, cb (fC (Pi ++ (X ++ (Y1 ++ (Y2 ++ Ti)))) ++ sp) 75)]) (l := []) Ty.bd101 rfl rfl (fun w1 hw => (swapRange_spec q n c Pi X Y1 Y2 Ti sp w1 hw.owns (by omega) (by simp only [List.length_append, List.length_nil] at *; omega) hnc hnb).mono fun _ _ ⟨h1, h2⟩ => ⟨(), h1, trivial, h2⟩) (fun _ _ => ?_)
      simp only [List.append_nil]
      refine J.nil ?_
      refine JX.thenN (hK7 _ _ ?_)
      refine JC.region ?_
      refine J.move rfl rfl ?_
      refine J.move rfl rfl ?_
      refine J.subN rfl rfl (by simp only [List.length_append]; omega) (by simp only [List.length_append]; omega) rfl ?_
      refine J.name 49 rfl (show _ = .int .i64 ((Y1.length : Nat) : Int) from congrArg (Value.int .i64) (by simp only [List.length_append]; omega)) ?_
      refine J.assign rfl rfl ?_
      refine J.nil ?_
      refine JX.blockN ?_
      refine JX.thenN ?_
      refine JX.again (⟨Pi, Y2, Y1, X ++ Ti⟩ : RoS) ?_ ?_ ?_
      · simp only [List.length_append]; omega
      · exact ⟨rfl, rfl, rfl, congrArg (fun k : Nat => some (Value.int .i64 ((k : Nat) : Int))) hY3.symm, rfl, trivial⟩
      · exact fun w1 hw => ⟨⟨by simp only [List.length_append]; omega, by simp only; omega, by simp only; omega, by simpa only [List.append_assoc] using hfin, by simp only [List.length_append]; omega⟩, by simpa only [List.append_assoc] using hw⟩
  · skip
    have hceq : X.length = Y.length := by
      have h9 : ((X.length : Int) = Y.length) := by simpa using h0
      omega
    refine JC.exit ?_
    refine JX.thenE ?_
    refine JX.thenE ?_
    refine JX.blockE ?_
    refine JX.thenN (hK2 _ _ ?_)
    refine JC.conseq (I' := St w [q] [(q, cb (fC (Pi ++ (X ++ (([] : List CV) ++ (Y ++ Ti)))) ++ sp) 75)]) ?_ (fun w1 hw => by simpa only [List.append_assoc, List.nil_append] using hw)
    refine JC.region ?_
    refine J.move rfl rfl ?_
    refine J.move rfl rfl ?_
    refine J.move rfl rfl ?_
    refine J.subN rfl rfl (by omega) (by omega) rfl ?_
    refine J.name 53 rfl (show _ = Value.int .i64 ((Pi.length : Nat) : Int) from congrArg (Value.int .i64) (by omega)) ?_
    refine J.move rfl rfl ?_
    refine J.name 54 rfl (show _ = .int .i64 (((Pi.length + X.length + ([] : List CV).length) : Nat) : Int) from congrArg (Value.int .i64) (by simp only [List.length_nil]; omega)) ?_
    refine J.move rfl rfl ?_
    refine J.move rfl rfl ?_
    refine J.callS (α := Unit) (V := fun _ => .tuple #[]) (Pr := fun _ => True) (L := fun _ => [(q, cb (fC (Pi ++ (Y ++ (([] : List CV) ++ (X ++ Ti)))) ++ sp) 75)]) (l1 := [(q, cb (fC (Pi ++ (X ++ (([] : List CV) ++ (Y ++ Ti)))) ++ sp) 75)]) (l := []) Ty.bd101 rfl rfl (fun w1 hw => (swapRange_spec q n c Pi X ([] : List CV) Y Ti sp w1 hw.owns (by omega) (by simp only [List.length_append, List.length_nil] at *; omega) hnc hnb).mono fun _ _ ⟨h1, h2⟩ => ⟨(), h1, trivial, h2⟩) (fun _ _ => ?_)
    simp only [List.append_nil]
    refine J.nil ?_
    refine JX.end0 rfl (fun w1 hw => ?_)
    refine ⟨rfl, ?_⟩
    simp only [List.nil_append] at hw
    rw [hfin] at hw
    exact hw

end Go.Proofs.Ytbafhclandendaa
