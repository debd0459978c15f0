/-
  Scripts of calls that come in; the document's table beside the program's.
-/
import Derived.Test.YtohldionclgljaaGreatUl
import Derived.Test.YtohldionclgljaaGreatRc
namespace Go.Proofs.YtohldionclgljaaGreat
open Go.J Go.RowKit
set_option linter.unusedVariables false
set_option linter.unusedSimpArgs false
set_option maxRecDepth 4000
theorem ok_zE : okE zE := ⟨okN1 (by decide) (by decide), okN1 (by decide) (by decide), okN1 (by decide) (by decide)⟩
theorem getD_okE {L : List EV} {es : Array MapEntry} {clock : Nat} (hT : Tab L es clock) (p : PV) : okE ((tget L p).getD zE) := by
  cases h : tget L p with
  | none => exact ok_zE
  | some y => exact hT.ok y (List.mem_of_find?_eq_some h)
theorem tget_perm {L M : List EV} (hp : L.Perm M) (hd : L.Pairwise (fun x y => x.p ≠ y.p)) (p : PV) : tget L p = tget M p := by
  have hd2 : M.Pairwise (fun x y => x.p ≠ y.p) := hp.pairwise hd (fun {a b} h => h.symm)
  cases h : tget L p with
  | none =>
    have := tget_none.1 h
    exact (tget_none.2 fun x hx => this x (hp.mem_iff.2 hx)).symm
  | some y =>
    have hy := List.mem_of_find?_eq_some h
    have hpp : y.p = p := by simpa using List.find?_some h
    have := tget_some hd2 (hp.mem_iff.1 hy)
    rw [hpp] at this
    exact this.symm
theorem tget_ordD {L : List EV} (hd : L.Pairwise (fun x y => x.p ≠ y.p)) (p : PV) : tget (ordE L) p = tget L p := (tget_perm (ordE_perm L).symm hd p).symm
theorem insE_perm : ∀ (R : List EV) (x : EV), (insE R x).Perm (R ++ [x])
  | [], x => .refl _
  | y :: R, x => by
    unfold insE
    split
    · exact (insE_perm R x).cons y
    · exact (List.perm_append_comm (l₁ := [x]) (l₂ := y :: R))
theorem insE_sorted {x : EV} : ∀ {R : List EV}, R.Pairwise (fun a b => ltP b.p a.p = false) → (insE R x).Pairwise (fun a b => ltP b.p a.p = false)
  | [], _ => List.pairwise_singleton _ _
  | y :: R, h => by
    have h' := List.pairwise_cons.1 h
    unfold insE
    split
    · rename_i hlt
      refine List.pairwise_cons.2 ⟨fun z hz => ?_, insE_sorted h'.2⟩
      rcases List.mem_append.1 ((insE_perm R x).mem_iff.1 hz) with hz | hz
      · exact h'.1 z hz
      · rw [List.mem_singleton.1 hz]
        exact ltP_asymm hlt
    · rename_i hlt
      have hlt' : ltP y.p x.p = false := by simpa using hlt
      refine List.pairwise_cons.2 ⟨fun z hz => ?_, h⟩
      rcases List.mem_cons.1 hz with rfl | hz
      · exact hlt'
      · have h3 := h'.1 z hz
        rw [Bool.eq_false_iff, Ne, ltP_iff] at hlt' h3 ⊢
        omega
theorem insE_ord {L : List EV} {x : EV} (hd : (L ++ [x]).Pairwise (fun x y => x.p ≠ y.p)) : insE (ordE L) x = ordE (L ++ [x]) := by
  have hp : (insE (ordE L) x).Perm (L ++ [x]) := (insE_perm _ _).trans ((ordE_perm L).append_right [x])
  exact sorted_congr (hp.symm.pairwise hd (fun {a b} h => h.symm)) (hp.trans (ordE_perm _).symm) (insE_sorted (ordE_sorted L)) (ordE_sorted _)
theorem radd_ord {L : List EV} {x : EV} {most : Int} (hd : L.Pairwise (fun x y => x.p ≠ y.p)) : radd (ordE L) most x = ((tadd L most x).1, ordE (tadd L most x).2) := by
  unfold radd tadd
  rw [tget_ordD hd, (ordE_perm L).length_eq]
  by_cases h1 : rightP x
  · have h1' : ¬ ¬ rightP x := fun h => h h1
    simp only [if_neg h1']
    by_cases h2 : (tget L x.p).isSome = true
    · simp only [if_pos h2]
    · simp only [if_neg h2]
      by_cases h3 : most ≤ (L.length : Int)
      · simp only [if_pos h3]
      · simp only [if_neg h3]
        have hno : tget L x.p = none := by
          cases h : tget L x.p with
          | none => rfl
          | some y => rw [h] at h2; simp at h2
        have h4 := tget_none.1 hno
        rw [insE_ord]
        rw [List.pairwise_append]
        exact ⟨hd, List.pairwise_singleton _ _, fun a ha b hb => by rw [List.mem_singleton.1 hb]; exact h4 a ha⟩
  · simp only [if_pos h1]
theorem del_ord {L : List EV} (hd : L.Pairwise (fun x y => x.p ≠ y.p)) (p : PV) : (ordE L).filter (neK p) = ordE (delL L p) := by
  have hs : (ordE L).filter (neK p) = (ordE L).filter (fun y => decide (y.p ≠ p)) := rfl
  have hp : ((ordE L).filter (neK p)).Perm (delL L p) := (ordE_perm L).filter _
  have hd2 : (delL L p).Pairwise (fun x y => x.p ≠ y.p) := hd.sublist List.filter_sublist
  exact sorted_congr (hp.symm.pairwise hd2 (fun {a b} h => h.symm)) (hp.trans (ordE_perm _).symm) ((ordE_sorted L).sublist List.filter_sublist) (ordE_sorted _)
theorem GoodL.del {L : List EV} {most : Int} (h : GoodL L most) (p : PV) : GoodL (delL L p) most :=
  ⟨fun x hx => h.right x (List.mem_filter.1 hx).1, by have := List.length_filter_le (fun y : EV => decide (y.p ≠ p)) L; have h2 := h.len; unfold delL; omega⟩
end Go.Proofs.YtohldionclgljaaGreat
