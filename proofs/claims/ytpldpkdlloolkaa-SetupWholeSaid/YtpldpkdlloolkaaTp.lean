/-
  A Setup that comes to a place of a simple trail: what Take answers, in one: contract.
-/
import Derived.Test.YtpldpkdlloolkaaTn
namespace Go.Proofs.Ytpldpkdlloolkaa
open Go.J Go.RowKit
set_option linter.unusedVariables false
set_option linter.unusedSimpArgs false
set_option maxRecDepth 8000
structure WX where
  out : Value
  mine : Bool
  hl : List (Nat × Obj)
  es : Array MapEntry
  ck : Nat
/-- the hop to place i, or none -/
structure HopAt (W : List Int) (i : Nat) (p : PV) (first last : IDV) (out : Value) (mine : Bool) (hl : List (Nat × Obj)) : Prop where
  on : ∀ n, W[i]? = some n → ∃ (h : Nat) (ha : Option Addr) (hc : Nat) (lp : List (Nat × Obj)), out = .slice (some ⟨h, 0, none⟩) 1 1 ∧ hl = (h, cb (cH n (cF 4 p first last (.slice ha W.length hc))) 54) :: lp ∧ Vec 3 1 (.slice ha W.length hc) W.length (W.map iV) lp
  off : W[i]? = none → out = nilV ∧ mine = true
abbrev naW (W : List Int) (i : Nat) : Int := (-1 :: W).getD i (-1)
abbrev nbW (W : List Int) (i : Nat) : Int := W.getD (i + 1) (-1)
abbrev OP6 : List Bool := [true, true, true, true, true, true]
theorem open06 {n : Int} (h : 0 ≤ n ∧ n < 6) : openQ OP6 n = true := by
  have : n = 0 ∨ n = 1 ∨ n = 2 ∨ n = 3 ∨ n = 4 ∨ n = 5 := by omega
  rcases this with rfl | rfl | rfl | rfl | rfl | rfl <;> rfl
theorem nodup_get {W : List Int} (hnd : W.Nodup) {i j : Nat} (hi : i < W.length) (hj : j < W.length) (hne : j ≠ i) : W[j] ≠ W[i] := by
  have h := List.pairwise_iff_getElem.1 hnd
  rcases Nat.lt_or_ge j i with h1 | h1
  · exact h j i hj hi h1
  · exact fun e => h i j hi hj (by omega) e.symm
theorem place_nodup {W : List Int} (hnd : W.Nodup) {i : Nat} (hi : i < W.length) : placeP W W[i] = (i : Int) :=
  place_at hi (fun j hj => by
    rw [List.getElem?_eq_getElem (by omega)]
    intro e
    simp only [Option.some.injEq] at e
    exact nodup_get hnd hi (by omega) (by omega) e) rfl
theorem take_whole (t mb : Nat) (w : World) (hw0 : Own w [(t, tabO 3 mb), (mb, .map #[] 0)]) (W : List Int) (hnd : W.Nodup) (hran : ∀ n, n ∈ W → 0 ≤ n ∧ n < 6) (h6 : W.length < 1000) (i : Nat) (hi1 : 1 ≤ i) (hi2 : i < W.length) (p : PV) (hp : okN p.n)
    (first last : IDV) (hne : first ≠ last) (hlast : i + 1 = W.length → last = idW W[i]) (v : Value) (hr : Row w v W.length (W.map iV)) (hoff : Off [t, mb] v (W.map iV)) (ov : Value) (hro : Row w ov OP6.length (OP6.map bV)) (hoffo : Off [t, mb] ov (OP6.map bV)) :
    Calls Try.prog 19 [.pointer (some ⟨t, 0, none⟩), .agg (cW W[i] (idW W[i])).toArray, .int .i64 (W[i - 1]'(by omega)), .agg (cF 4 p first last v).toArray, ov].toArray w fun r w' =>
      ∃ x : WX, r = .returned (.agg (cD x.out x.mine false).toArray) ∧ (HopAt W (i + 1) p first last x.out x.mine x.hl ∧ Tab [(⟨p, first, last, naW W i, nbW W i⟩ : EV)] x.es x.ck) ∧ St w [t, mb] (x.hl ++ [(t, tabO 3 mb), (mb, .map x.es x.ck)]) w' := by
  have hb := hran W[i] (List.getElem_mem _)
  have hb1 := hran (W[i - 1]'(by omega)) (List.getElem_mem _)
  have hna : naW W i = W[i - 1]'(by omega) := by
    obtain ⟨j, rfl⟩ : ∃ j, i = j + 1 := ⟨i - 1, by omega⟩
    simp [naW, List.getD_eq_getElem?_getD, List.getElem?_eq_getElem (show j < W.length by omega)]
  have hfrom : W[i - 1]? = some (W[i - 1]'(by omega)) := List.getElem?_eq_getElem _
  rcases Nat.lt_or_ge (i + 1) W.length with hl | hl
  · have hb2 := hran W[i + 1] (List.getElem_mem _)
    have hnb : nbW W i = W[i + 1] := by simp [nbW, List.getD_eq_getElem?_getD, List.getElem?_eq_getElem hl]
    rw [hna, hnb]
    have hR : rightP (⟨p, first, last, W[i - 1]'(by omega), W[i + 1]⟩ : EV) := ⟨hne, ⟨by simp only; omega, by simp only; omega⟩, ⟨by simp only; omega, by simp only; omega⟩, fun e => nodup_get hnd (i := i + 1) (j := i - 1) hl (by omega) (by omega) e⟩
    refine (take_on t mb 3 [] #[] 0 w hw0 Tab.nil W[i] (W[i - 1]'(by omega)) (idW W[i]) first last p hp (okN_small (by omega) (by omega)) v W hr hoff (by omega) i hi1 hi2 (place_nodup hnd hi2) hfrom hnd ov OP6 hro hoffo (by decide) W[i + 1] (List.getElem?_eq_getElem hl) (open06 hb2) (tadd_nil hR (by decide))).mono fun r w' hx => ?_
    obtain ⟨x, h1, ⟨h2, h3⟩, h4⟩ := hx
    refine ⟨⟨.slice (some ⟨x.h, 0, none⟩) 1 1, false, (x.h, cb (cH W[i + 1] (cF 4 p first last (.slice x.a W.length x.c))) 54) :: x.lp, x.es, x.ck⟩, h1, ⟨⟨fun n hn => ?_, fun hn => ?_⟩, h3⟩, h4⟩
    · rw [List.getElem?_eq_getElem hl] at hn
      cases hn
      exact ⟨x.h, x.a, x.c, x.lp, rfl, rfl, h2⟩
    · rw [List.getElem?_eq_getElem hl] at hn; cases hn
  · have hnb : nbW W i = -1 := by simp [nbW, List.getD_eq_getElem?_getD, List.getElem?_eq_none hl]
    rw [hna, hnb]
    have hR : rightP (⟨p, first, last, W[i - 1]'(by omega), -1⟩ : EV) := ⟨hne, ⟨by simp only; omega, by simp only; omega⟩, (show okTN (-1) by decide), by simp only; omega⟩
    refine (take_last t mb 3 [] #[] 0 w hw0 Tab.nil W[i] (W[i - 1]'(by omega)) (idW W[i]) first last p hp (okN_small (by omega) (by omega)) v W hr hoff (by omega) i hi1 hi2 (place_nodup hnd hi2) hfrom hnd ov OP6 hro hoffo (by decide) (by omega) (hlast (by omega)) (tadd_nil hR (by decide))).mono fun r w' hx => ?_
    obtain ⟨y, h1, h3, h4⟩ := hx
    exact ⟨⟨nilV, true, [], y.1, y.2⟩, h1, ⟨⟨fun n hn => (by rw [List.getElem?_eq_none hl] at hn; cases hn), fun _ => ⟨rfl, rfl⟩⟩, h3⟩, h4⟩

end Go.Proofs.Ytpldpkdlloolkaa
