/-
  TearSweeps: the plain law.
-/
import Derived.Test.YtohldionclgljaaPe
namespace Go.Proofs.Ytohldionclgljaa
open Go.J Go.RowKit
set_option linter.unusedVariables false
set_option linter.unusedSimpArgs false
set_option maxRecDepth 8000
/-- the side that is told of an entry -/
def sdE (n : Int) (x : EV) : Int := if x.na = n then x.nb else x.na
theorem fold_snd {n : Int} : ∀ (l : List EV) (s : TV × List EV), (l.foldl (stepD n) s).2 = s.2.filter (fun y => l.all (fun x => decide (y.p ≠ x.p)))
  | [], s => (List.filter_eq_self.2 fun _ _ => rfl).symm
  | x :: l, s => by
    rw [List.foldl_cons, fold_snd l]
    simp only [stepD, delL, List.filter_filter, List.all_cons]
    congr 1
    funext y
    rw [Bool.and_comm]
theorem same_path {L : List EV} (hd : L.Pairwise (fun x y => x.p ≠ y.p)) {x y : EV} (hx : x ∈ L) (hy : y ∈ L) (h : y.p = x.p) : y = x := by
  have h1 := tget_some hd hx
  have h2 := tget_some hd hy
  rw [h, h1] at h2
  exact (Option.some.inj h2).symm
theorem dead_snd {L : List EV} (hd : L.Pairwise (fun x y => x.p ≠ y.p)) (n : Int) : (deadT L n).2 = L.filter (fun y => !viaB n y) := by
  unfold deadT
  rw [fold_snd]
  refine List.filter_congr fun y hy => ?_
  rw [Bool.eq_iff_iff]
  simp only [List.all_eq_true, decide_eq_true_eq, Bool.not_eq_true']
  constructor
  · intro h
    cases hv : viaB n y with
    | false => rfl
    | true => exact absurd rfl (h y (List.mem_filter.2 ⟨(ordE_perm L).mem_iff.2 hy, hv⟩))
  · intro h x hx e
    obtain ⟨h1, h2⟩ := List.mem_filter.1 hx
    obtain rfl := same_path hd ((ordE_perm L).mem_iff.1 h1) hy e
    rw [h] at h2
    cases h2
theorem dead_over {L : List EV} (hd : L.Pairwise (fun x y => x.p ≠ y.p)) {n : Int} {x : EV} (hx : x ∈ L) (hv : viaB n x = true) : tget (deadT L n).2 x.p = none := by
  rw [dead_snd hd]
  refine tget_none.2 fun y hy e => ?_
  obtain ⟨h1, h2⟩ := List.mem_filter.1 hy
  obtain rfl := same_path hd hx h1 e
  rw [hv] at h2
  cases h2
theorem dead_kept {L : List EV} (hd : L.Pairwise (fun x y => x.p ≠ y.p)) {n : Int} {x : EV} (hx : x ∈ L) (hv : viaB n x = false) : tget (deadT L n).2 x.p = some x := by
  rw [dead_snd hd]
  exact tget_some (List.Pairwise.sublist List.filter_sublist hd) (List.mem_filter.2 ⟨hx, by rw [hv]; rfl⟩)
theorem dead_via {L : List EV} (hd : L.Pairwise (fun x y => x.p ≠ y.p)) (n : Int) : (ordE (deadT L n).2).filter (viaB n) = [] := by
  refine List.filter_eq_nil_iff.2 fun y hy hv => ?_
  have h := (ordE_perm _).mem_iff.1 hy
  rw [dead_snd hd] at h
  have h2 := (List.mem_filter.1 h).2
  rw [hv] at h2
  cases h2
def cntO (p : PV) (s : Int) (o : List (Int × PV)) : Nat := (o.filter (fun q => decide (q.2 = p) && decide (q.1 = s))).length
def cntL (p : PV) (s : Int) (o : List PV) : Nat := (o.filter (fun q => decide (q = p) && decide (s = -1))).length
def tell (p : PV) (s : Int) (T : TV) : Nat := cntO p s T.out + cntL p s T.lost
theorem cntO_le (p : PV) (s : Int) (o : List (Int × PV)) : cntO p s o ≤ o.length := List.length_filter_le _ _
theorem cntL_le (p : PV) (s : Int) (o : List PV) : cntL p s o ≤ o.length := List.length_filter_le _ _
theorem cntO_step {p : PV} {s : Int} {o : List (Int × PV)} {i : Nat} {q : Int × PV} (h : o[i]? = some q) : cntO p s (o.take (i + 1)) = cntO p s (o.take i) + (if q.2 = p ∧ q.1 = s then 1 else 0) := by
  obtain ⟨hi, rfl⟩ := List.getElem?_eq_some_iff.1 h
  unfold cntO
  rw [take_add_one hi, List.filter_append, List.length_append]
  congr 1
  by_cases h1 : o[i].2 = p <;> by_cases h2 : o[i].1 = s <;> simp [h1, h2]
theorem cntL_step {p : PV} {s : Int} {o : List PV} {i : Nat} {q : PV} (h : o[i]? = some q) : cntL p s (o.take (i + 1)) = cntL p s (o.take i) + (if q = p ∧ s = -1 then 1 else 0) := by
  obtain ⟨hi, rfl⟩ := List.getElem?_eq_some_iff.1 h
  unfold cntL
  rw [take_add_one hi, List.filter_append, List.length_append]
  congr 1
  by_cases h1 : o[i] = p <;> by_cases h2 : s = -1 <;> simp [h1, h2]
theorem tell_hop {n : Int} {p q : PV} {s : Int} (hn : -1 ≤ n) (T : TV) : tell p s (hopT n q T) = tell p s T + (if q = p ∧ n = s then 1 else 0) := by
  unfold hopT tell
  split
  · simp only [cntO, List.filter_append, List.length_append]
    by_cases h1 : q = p <;> by_cases h2 : n = s <;> simp [h1, h2] <;> omega
  · have : n = -1 := by omega
    subst this
    simp only [cntL, List.filter_append, List.length_append]
    by_cases h1 : q = p <;> by_cases h2 : s = -1
    · simp [h1, h2]; omega
    · simp [h1, h2]; intro h; exact absurd h.symm h2
    · simp [h1, h2]
    · simp [h1, h2]
theorem tell_fold {n : Int} {p : PV} {s : Int} : ∀ (l : List EV) (S : TV × List EV), (∀ x, x ∈ l → -1 ≤ sdE n x) → tell p s (l.foldl (stepD n) S).1 = tell p s S.1 + (l.filter (fun x => decide (x.p = p) && decide (sdE n x = s))).length
  | [], S, _ => by simp
  | x :: l, S, h => by
    rw [List.foldl_cons, tell_fold l _ (fun y hy => h y (.tail _ hy))]
    have h1 : tell p s (stepD n S x).1 = _ := tell_hop (n := sdE n x) (h x (.head _)) S.1
    rw [h1, List.filter_cons]
    by_cases h1 : x.p = p <;> by_cases h2 : sdE n x = s <;> simp [h1, h2] <;> omega
theorem one_path {n : Int} {x : EV} : ∀ (l : List EV), l.Pairwise (fun x y => x.p ≠ y.p) → x ∈ l → (l.filter (fun y => decide (y.p = x.p) && decide (sdE n y = sdE n x))).length = 1
  | a :: l, hd, hx => by
    obtain ⟨h1, h2⟩ := List.pairwise_cons.1 hd
    rcases List.mem_cons.1 hx with rfl | hx
    · rw [List.filter_cons, if_pos (by simp), List.filter_eq_nil_iff.2 (fun y hy h => by simp at h; exact h1 y hy h.1.symm)]
      rfl
    · rw [List.filter_cons, if_neg (by simp; intro h; exact absurd h (h1 x hx))]
      exact one_path l h2 hx
theorem side_ge {n : Int} {x : EV} (h : rightP x) : -1 ≤ sdE n x := by
  unfold sdE
  have h1 := h.2.1.1
  have h2 := h.2.2.1.1
  split <;> omega
theorem dead_tell {L : List EV} (hd : L.Pairwise (fun x y => x.p ≠ y.p)) (hr : ∀ x, x ∈ L → rightP x) {n : Int} {x : EV} (hx : x ∈ L) (hv : viaB n x = true) : tell x.p (sdE n x) (deadT L n).1 = 1 := by
  unfold deadT
  rw [tell_fold _ _ (fun y hy => side_ge (hr y (vs_mem hy).1)), one_path _ (vs_dist hd n) (List.mem_filter.2 ⟨(ordE_perm L).mem_iff.2 hx, hv⟩)]
  rfl
theorem viaS_step {n : Int} {O : List EV} {i : Nat} {x : EV} (h : O[i]? = some x) : ((O.take (i + 1)).filter (viaB n)).length = ((O.take i).filter (viaB n)).length + (if viaB n x = true then 1 else 0) := by
  obtain ⟨hi, rfl⟩ := List.getElem?_eq_some_iff.1 h
  rw [take_add_one hi, List.filter_append, List.length_append]
  congr 1
  cases h : viaB n O[i] <;> simp [h]
theorem dead_sum (L : List EV) (n : Int) : (deadT L n).1.out.length + (deadT L n).1.lost.length = ((ordE L).filter (viaB n)).length := by
  unfold deadT
  rw [fold_len]
  simp [noT]
theorem cells_in {w : World} {b : Nat} {q : Int × PV} (h : Cells w b 0 (cHp q)) : Cells w b 2 (cP q.2) ∧ Cells w b 0 [iV q.1] ∧ Cells w b 1 [iV 5] :=
  ⟨cells_part (k := 2) h rfl (by rw [cHp_length]; show 2 + 17 ≤ 96; decide), cells_part (k := 0) h rfl (by rw [cHp_length]; show 0 + 1 ≤ 96; decide), cells_part (k := 1) h rfl (by rw [cHp_length]; show 1 + 1 ≤ 96; decide)⟩
end Go.Proofs.Ytohldionclgljaa
