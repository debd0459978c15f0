/-
  Start behind its table, for any way that is good: contracts.
-/
import Derived.Test.YtpldpkdlloolkaaVg
namespace Go.Proofs.Ytpldpkdlloolkaa
open Go.J Go.RowKit
set_option linter.unusedVariables false
set_option linter.unusedSimpArgs false
set_option maxRecDepth 8000
theorem good_way {n : Int} {me b : IDV} {way : List Int} (h : ¬ badW n me b way) {n1 : Int} (hn1 : way[1]? = some n1) : ∃ rest, way = n :: n1 :: rest ∧ rest.length ≤ 62 ∧ way.Nodup ∧ b ≠ me := by
  have hc1 : ¬ way.length < 2 := fun x => h (.inl x)
  have hc2 : ¬ 64 < way.length := fun x => h (.inr (.inl x))
  have hc3 : way.Nodup := Classical.not_not.1 fun x => h (.inr (.inr (.inl x)))
  have hc4 : way[0]? = some n := Classical.not_not.1 fun x => h (.inr (.inr (.inr (.inl x))))
  have hc5 : ¬ b = me := fun x => h (.inr (.inr (.inr (.inr x))))
  match way, hc1, hc2, hc4, hn1, hc3 with
  | a :: c :: rest, _, h2, h4, h5, h3 =>
    simp only [List.getElem?_cons_zero, List.getElem?_cons_succ, Option.some.injEq] at h4 h5
    subst h4
    subst h5
    exact ⟨rest, rfl, by simp at h2; omega, h3, hc5⟩
theorem way_cell {w : World} {wv : Value} {way : List Int} (hr : Row w wv way.length (way.map iV)) (h0 : 0 < way.length) : ∃ q o c, wv = .slice (some ⟨q, o, none⟩) way.length c := by
  obtain ⟨q, o, c, h, _, _⟩ := Row.some hr (by simpa using h0)
  exact ⟨q, o, c, h⟩

theorem start_full2 (t mb : Nat) (most : Int) (L : List EV) (es : Array MapEntry) (clock : Nat) (w : World) (hw0 : Own w [(t, tabO most mb), (mb, .map es clock)]) (hT : Tab L es clock) (n : Int) (me b : IDV) (p : PV) (hp : okN p.n) (wv : Value) (way : List Int) (hr : Row w wv way.length (way.map iV)) (hoff : Off [t, mb] wv (way.map iV)) (hgood : ¬ badW n me b way) (n1 : Int) (hn1 : way[1]? = some n1) (ov : Value) (os : List Bool) (hro : Row w ov os.length (os.map bV)) (hoffo : Off [t, mb] ov (os.map bV)) (hlo : os.length < 4611686018427387904) (hop : openQ os n1 = true) {e : Int} {L' : List EV} (hadd : tadd L most (⟨p, me, b, -1, n1⟩ : EV) = (e, L')) (he : e ≠ 0) :
    Calls Try.prog 18 [.pointer (some ⟨t, 0, none⟩), .agg (cW n me).toArray, .agg (cP p).toArray, .agg (cI b).toArray, wv, ov].toArray w fun r w' => ∃ y : Array MapEntry × Nat, r = .returned (.tuple #[.agg (cD nilV false (e == 5)).toArray, .int .i64 e]) ∧ Tab L' y.1 y.2 ∧ St w [t, mb] [(t, tabO most mb), (mb, .map y.1 y.2)] w' := by
  obtain ⟨rest, rfl, hl, hnd, hne⟩ := good_way hgood hn1
  obtain ⟨q, o, c, rfl⟩ := way_cell hr (by simp)
  exact start_full t mb most L es clock w hw0 hT n n1 me b p hp q o c rest hr hoff hl hnd hne ov os hro hoffo hlo hop hadd he
theorem start_ok2 (t mb : Nat) (most : Int) (L : List EV) (es : Array MapEntry) (clock : Nat) (w : World) (hw0 : Own w [(t, tabO most mb), (mb, .map es clock)]) (hT : Tab L es clock) (n : Int) (me b : IDV) (p : PV) (hp : okN p.n) (wv : Value) (way : List Int) (hr : Row w wv way.length (way.map iV)) (hoff : Off [t, mb] wv (way.map iV)) (hgood : ¬ badW n me b way) (n1 : Int) (hn1 : way[1]? = some n1) (ov : Value) (os : List Bool) (hro : Row w ov os.length (os.map bV)) (hoffo : Off [t, mb] ov (os.map bV)) (hlo : os.length < 4611686018427387904) (hop : openQ os n1 = true) {L' : List EV} (hadd : tadd L most (⟨p, me, b, -1, n1⟩ : EV) = (0, L')) :
    Calls Try.prog 18 [.pointer (some ⟨t, 0, none⟩), .agg (cW n me).toArray, .agg (cP p).toArray, .agg (cI b).toArray, wv, ov].toArray w fun r w' => ∃ x : OutS, r = .returned (.tuple #[.agg (cD (.slice (some ⟨x.h, 0, none⟩) 1 1) true false).toArray, .int .i64 0]) ∧ (Vec 3 1 (.slice x.a way.length x.c) way.length (way.map iV) x.lp ∧ Tab L' x.es x.ck) ∧ St w [t, mb] ((x.h, cb (cH n1 (cF 4 p me b (.slice x.a way.length x.c))) 54) :: (x.lp ++ [(t, tabO most mb), (mb, .map x.es x.ck)])) w' := by
  obtain ⟨rest, rfl, hl, hnd, hne⟩ := good_way hgood hn1
  obtain ⟨q, o, c, rfl⟩ := way_cell hr (by simp)
  exact start_ok t mb most L es clock w hw0 hT n n1 me b p hp q o c rest hr hoff hl hnd hne ov os hro hoffo hlo hop hadd
/-- the frame of a path that begins, with all its fields -/
def fBeg (p : PV) (me b : IDV) (way : List Int) : FV := ⟨4, p, false, me, b, 0, 0, 0, 0, 0, way, [], zI, 0, zI, [], 0, 0, []⟩
theorem cF_beg (p : PV) (me b : IDV) (way : List Int) (tr : Value) : cF 4 p me b tr = cFG (fBeg p me b way) ⟨tr, nilV, nilV, nilV⟩ := rfl
theorem okBeg {p : PV} {me b : IDV} {way : List Int} (hp : okN p.n) (hl : way.length ≤ 64) : OkF (fBeg p me b way) :=
  ⟨hp, okN_small (by show (-9223372036854775808 : Int) ≤ 0; omega) (by show (0 : Int) < _; omega), okN_small (by show (-9223372036854775808 : Int) ≤ 0; omega) (by show (0 : Int) < _; omega), okN_small (by show (-9223372036854775808 : Int) ≤ 0; omega) (by show (0 : Int) < _; omega), okN_small (by show (-9223372036854775808 : Int) ≤ 0; omega) (by show (0 : Int) < _; omega), okN_small (by show (-9223372036854775808 : Int) ≤ 0; omega) (by show (0 : Int) < _; omega), by show way.length < _; omega, by show (0 : Nat) < _; omega⟩
theorem rowsBeg {w : World} {p : PV} {me b : IDV} {way : List Int} {tr : Value} (h : Row w tr way.length (way.map iV)) : FRows w (fBeg p me b way) ⟨tr, nilV, nilV, nilV⟩ :=
  ⟨h, ⟨none, 0, rfl, Nat.le_refl _, .inl rfl⟩, ⟨none, 0, rfl, Nat.le_refl _, .inl rfl⟩, ⟨none, 0, rfl, Nat.le_refl _, .inl rfl⟩⟩
/-- what `same` answers of two that are one, wherever their blocks lie in a list -/
theorem same_beg {w0 w : World} {S : List Nat} {l : List (Nat × Obj)} (hw : St w0 S l w) {p : PV} {me b : IDV} {way : List Int} (hp : okN p.n) (hl : way.length ≤ 64) {n1 : Int} {h1 h2 c1 c2 : Nat} {a1 a2 : Option Addr} {l1 l2 : List (Nat × Obj)}
    (hv1 : Vec 3 1 (.slice a1 way.length c1) way.length (way.map iV) l1) (hv2 : Vec 3 1 (.slice a2 way.length c2) way.length (way.map iV) l2)
    (hm1 : (h1, cb (cH n1 (cF 4 p me b (.slice a1 way.length c1))) 54) ∈ l) (hm2 : (h2, cb (cH n1 (cF 4 p me b (.slice a2 way.length c2))) 54) ∈ l) (hs1 : ∀ q, q ∈ l1 → q ∈ l) (hs2 : ∀ q, q ∈ l2 → q ∈ l) :
    Calls Try.prog 47 [.agg (cD (.slice (some ⟨h1, 0, none⟩) 1 1) true false).toArray, .agg (cD (.slice (some ⟨h2, 0, none⟩) 1 1) true false).toArray].toArray w fun r w' => r = .returned (.bool true) ∧ Bel w w' :=
  same_one true false n1 (fBeg p me b way) (okBeg hp hl) ⟨.slice a1 way.length c1, nilV, nilV, nilV⟩ ⟨.slice a2 way.length c2, nilV, nilV, nilV⟩ h1 h2 w (rowsBeg (vec_rowM hv1 hw hs1)) (rowsBeg (vec_rowM hv2 hw hs2)) (hw.own _ hm1) (hw.own _ hm2)
end Go.Proofs.Ytpldpkdlloolkaa
