/-
  Who is wanted: the plain law of ring.Want.
-/
import Derived.Test.YtbafhclandendaaKm
namespace Go.Proofs.Ytbafhclandendaa
open Go.J Go.RowKit
set_option linter.unusedVariables false
set_option linter.unusedSimpArgs false
set_option maxRecDepth 4000
/-- how far clockwise ahead of a place -/
noncomputable def eI (me x : IDV) : Nat := valI (subI me x)
theorem dI_self (me : IDV) : dI me me = 0 := by
  unfold dI
  rw [valI_subI]
  have := valI_lt me
  omega
theorem dI_lt (me x : IDV) : dI me x < 2 ^ 128 := valI_lt _
theorem dI_pos {me x : IDV} (h : x ≠ me) : 0 < dI me x := by
  rcases Nat.eq_zero_or_pos (dI me x) with h0 | h0
  · exact absurd (dI_inj (me := me) (h0.trans (dI_self me).symm)) h
  · exact h0
theorem dI_add_eI {me x : IDV} (h : x ≠ me) : dI me x + eI me x = 2 ^ 128 := by
  have h0 := dI_pos h
  unfold dI eI at *
  rw [valI_subI] at *
  rw [valI_subI]
  have h1 := valI_lt me
  have h2 := valI_lt x
  omega
/-- how many are ahead of one, on either way -/
noncomputable def rI (me : IDV) (l : List IDV) (x : IDV) : Nat := l.countP (fun y => decide (dI me y < dI me x))
noncomputable def lI (me : IDV) (l : List IDV) (x : IDV) : Nat := l.countP (fun y => decide (eI me y < eI me x))
noncomputable def wantI (me : IDV) (xs : List IDV) (half : Int) : List IDV :=
  (sortI xs me).filter (fun x => decide ((rI me (sortI xs me) x : Int) < half) || decide ((lI me (sortI xs me) x : Int) < half))
theorem count_at {f : IDV → Nat} : ∀ {ys : List IDV}, ys.Pairwise (fun a b => f a < f b) → ∀ (i : Nat) (h : i < ys.length), ys.countP (fun y => decide (f y < f ys[i])) = i ∧ ys.countP (fun y => decide (f ys[i] < f y)) + i + 1 = ys.length
  | y :: ys, hp, 0, _ => by
    have hp' := List.pairwise_cons.1 hp
    simp only [List.getElem_cons_zero, List.countP_cons, Nat.lt_irrefl, decide_false, Bool.false_eq_true, if_false, Nat.add_zero, List.length_cons]
    constructor
    · rw [List.countP_eq_zero]
      intro a ha
      have := hp'.1 a ha
      simp; omega
    · rw [List.countP_eq_length.2]
      intro a ha
      have := hp'.1 a ha
      simpa using this
  | y :: ys, hp, i + 1, h => by
    have hp' := List.pairwise_cons.1 hp
    have hi : i < ys.length := by simpa using h
    have h1 := hp'.1 ys[i] (List.getElem_mem hi)
    obtain ⟨h2, h3⟩ := count_at hp'.2 i hi
    simp only [List.getElem_cons_succ, List.countP_cons, List.length_cons]
    rw [h2]
    have e1 : (decide (f y < f ys[i])) = true := by simpa using h1
    have e2 : (decide (f ys[i] < f y)) = false := by simp; omega
    rw [if_pos e1, if_neg (by rw [e2]; decide)]
    exact ⟨rfl, by omega⟩
theorem nodup_take {ys : List IDV} (h : ys.Nodup) {i n : Nat} (hi : i < ys.length) : ys[i] ∈ ys.take n ↔ i < n := by
  constructor
  · intro hm
    obtain ⟨j, hj, he⟩ := List.getElem_of_mem hm
    rw [List.length_take] at hj
    rw [List.getElem_take] at he
    have := (List.getElem_inj h).1 he
    omega
  · intro hlt
    have hj : i < (ys.take n).length := by rw [List.length_take]; omega
    have := List.getElem_mem hj
    rw [List.getElem_take] at this
    exact this
theorem nodup_drop {ys : List IDV} (h : ys.Nodup) {i n : Nat} (hi : i < ys.length) : ys[i] ∈ ys.drop n ↔ n ≤ i := by
  constructor
  · intro hm
    obtain ⟨j, hj, he⟩ := List.getElem_of_mem hm
    rw [List.getElem_drop] at he
    have := (List.getElem_inj h).1 he
    omega
  · intro hle
    have hj : i - n < (ys.drop n).length := by rw [List.length_drop]; omega
    have := List.getElem_mem hj
    rw [List.getElem_drop] at this
    simpa [show n + (i - n) = i by omega] using this
theorem eI_lt_iff {me x y : IDV} (hx : x ≠ me) (hy : y ≠ me) : eI me y < eI me x ↔ dI me x < dI me y := by
  have a1 := dI_add_eI hy
  have a2 := dI_add_eI hx
  omega
theorem strict_of {me : IDV} {ys : List IDV} (hnd : ys.Nodup) (hs : ys.Pairwise (fun a b => dI me a ≤ dI me b)) : ys.Pairwise (fun a b => dI me a < dI me b) := by
  refine (hs.and hnd).imp fun {a b} h => ?_
  rcases Nat.lt_or_ge (dI me a) (dI me b) with h1 | h1
  · exact h1
  · exact absurd (dI_inj (Nat.le_antisymm h.1 h1)) h.2
theorem rank_of {me : IDV} {xs ys : List IDV} (hp : ys.Perm (sortI xs me)) (hst : ys.Pairwise (fun a b => dI me a < dI me b)) {i : Nat} (hi : i < ys.length) :
    rI me (sortI xs me) ys[i] = i ∧ lI me (sortI xs me) ys[i] + i + 1 = ys.length := by
  obtain ⟨h1, h2⟩ := count_at hst i hi
  have hme := ((sortI_mem xs me _).1 (hp.mem_iff.1 (List.getElem_mem hi))).2
  constructor
  · unfold rI; rw [← hp.countP_eq]; exact h1
  · unfold lI
    have e : ys.countP (fun y => decide (eI me y < eI me ys[i])) = ys.countP (fun y => decide (dI me ys[i] < dI me y)) := by
      refine List.countP_congr fun y hy => ?_
      have hy2 := ((sortI_mem xs me y).1 (hp.mem_iff.1 hy)).2
      rw [decide_eq_true_eq, decide_eq_true_eq]
      exact eI_lt_iff hme hy2
    rw [← hp.countP_eq, e]
    exact h2
theorem half_arith {half : Int} {n i k r l : Nat} (hn : (n : Int) = min (max half 0) (k : Int)) (hi : i < k) (hr : r = i) (hl : l + i + 1 = k) : ((r : Int) < half ∨ (l : Int) < half) ↔ (i < n ∨ k - n ≤ i) := by
  omega
theorem mem_wantI {me : IDV} {xs : List IDV} {half : Int} {z : IDV} : z ∈ wantI me xs half ↔ z ∈ sortI xs me ∧ ((rI me (sortI xs me) z : Int) < half ∨ (lI me (sortI xs me) z : Int) < half) := by
  unfold wantI
  rw [List.mem_filter, Bool.or_eq_true, decide_eq_true_eq, decide_eq_true_eq]
theorem wantI_asc (me : IDV) (xs : List IDV) (half : Int) : Asc (wantI me xs half) := (sortI_asc xs me).sublist List.filter_sublist
theorem want_of {me : IDV} {xs ys : List IDV} {half : Int} {n : Nat} (hp : ys.Perm (sortI xs me)) (hs : ys.Pairwise (fun a b => dI me a ≤ dI me b)) (hn : (n : Int) = min (max half 0) ((sortI xs me).length : Nat)) :
    sortI (ys.take n ++ ys.drop ((sortI xs me).length - n)) me = wantI me xs half := by
  have hnd : ys.Nodup := hp.nodup_iff.2 (asc_nodup (sortI_asc xs me))
  have hst := strict_of hnd hs
  have hlen := hp.length_eq
  refine (sortI_of (wantI_asc me xs half) fun z => ?_).symm
  rw [mem_wantI, List.mem_append]
  constructor
  · rintro ⟨hz1, hz2⟩
    refine ⟨?_, ((sortI_mem xs me z).1 hz1).2⟩
    obtain ⟨i, hi, rfl⟩ := List.getElem_of_mem (hp.mem_iff.2 hz1)
    obtain ⟨e1, e2⟩ := rank_of hp hst hi
    rw [nodup_take hnd hi, nodup_drop hnd hi]
    exact (half_arith hn (by rw [← hlen]; exact hi) e1 (by rw [← hlen]; exact e2)).1 hz2
  · rintro ⟨hz, hzm⟩
    have hzy : z ∈ ys := by
      rcases hz with h | h
      · exact List.mem_of_mem_take h
      · exact List.mem_of_mem_drop h
    refine ⟨hp.mem_iff.1 hzy, ?_⟩
    obtain ⟨i, hi, rfl⟩ := List.getElem_of_mem hzy
    obtain ⟨e1, e2⟩ := rank_of hp hst hi
    rw [nodup_take hnd hi, nodup_drop hnd hi] at hz
    exact (half_arith hn (by rw [← hlen]; exact hi) e1 (by rw [← hlen]; exact e2)).2 hz
theorem fI_take (xs : List IDV) (n : Nat) : fI (xs.take n) = (fI xs).take (n * 16) := by
  have h : fI xs = fI (xs.take n) ++ fI (xs.drop n) := by rw [← fI_append, List.take_append_drop]
  have hl := fI_length (xs.take n)
  rw [List.length_take] at hl
  rcases Nat.le_total n xs.length with hn | hn
  · rw [h, List.take_left' (by rw [hl, Nat.min_eq_left hn])]
  · rw [List.take_of_length_le hn, List.take_of_length_le (by rw [fI_length]; omega)]
theorem fI_drop (xs : List IDV) (n : Nat) : fI (xs.drop n) = (fI xs).drop (n * 16) := by
  have h : fI xs = fI (xs.take n) ++ fI (xs.drop n) := by rw [← fI_append, List.take_append_drop]
  have hl := fI_length (xs.take n)
  rw [List.length_take] at hl
  rcases Nat.le_total n xs.length with hn | hn
  · rw [h, List.drop_left' (by rw [hl, Nat.min_eq_left hn])]
  · rw [List.drop_of_length_le hn, List.drop_of_length_le (by rw [fI_length]; omega)]; rfl

end Go.Proofs.Ytbafhclandendaa
