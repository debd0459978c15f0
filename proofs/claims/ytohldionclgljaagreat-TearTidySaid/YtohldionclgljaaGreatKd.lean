/-
  slices.SortFunc at identities: contract, by the shelf's.
-/
import Derived.Test.YtohldionclgljaaGreatKc
import Derived.Test.YtohldionclgljaaGreatKs
namespace Go.Proofs.YtohldionclgljaaGreat
open Go.J Go.RowKit
set_option linter.unusedVariables false
set_option linter.unusedSimpArgs false
open Go.Sort Go.Shelf
set_option maxRecDepth 4000
/-- a comparison by numbers -/
def cfN (f : IDV → Nat) (a b : IDV) : Int := if f a < f b then -1 else if f b < f a then 1 else 0
theorem ltOf_cfN (f : IDV → Nat) (a b : IDV) : ltOf (cfN f) a b = decide (f a < f b) := by
  unfold ltOf cfN
  by_cases h1 : f a < f b
  · simp [h1]
  · by_cases h2 : f b < f a <;> simp [h1, h2]
theorem swo_cfN (f : IDV → Nat) : SWO (ltOf (cfN f)) where
  irrefl x := by rw [ltOf_cfN]; simp
  trans x y z h1 h2 := by rw [ltOf_cfN] at *; simp at *; omega
  ntrans x y z h1 h2 := by rw [ltOf_cfN] at *; simp at *; omega
theorem flat_fI (xs : List IDV) : flatK cI 16 xs.toArray = (fI xs).toArray := by
  have hl := fI_length xs
  apply Array.ext
  · simp [hl]
  · intro t h1 h2
    have ht : t < xs.length * 16 := by simpa using h1
    have hi : t / 16 < xs.length := by omega
    have e := get_flatK cI 16 xs.toArray t (by simpa using ht)
    rw [getElem!_pos _ t h1] at e
    rw [e]
    have hx : xs.toArray[t / 16]! = xs[t / 16] := by rw [getElem!_pos xs.toArray (t / 16) (by simpa using hi)]; simp
    rw [hx]
    have hr : t % 16 < (cI xs[t / 16]).length := by show t % 16 < 16; omega
    rw [getElem!_pos (cI xs[t / 16]) (t % 16) hr]
    have e2 := fI_at (List.getElem?_eq_getElem hi)
    have e3 : (cI xs[t / 16])[t % 16]? = (fI xs)[t]? := by
      rw [← e2, List.getElem?_take_of_lt (by omega), List.getElem?_drop, show t / 16 * 16 + t % 16 = t by omega]
    rw [List.getElem?_eq_getElem hr, List.getElem?_eq_getElem (by omega)] at e3
    simpa using Option.some.inj e3
theorem holds_fI {w : World} {q : Nat} {xs : List IDV} {sp : List Value} {t : TypeId} (h : w.heap[q]? = some (cb (fI xs ++ sp) t)) : HoldsK cI 16 w q 0 xs.toArray := by
  intro j hj
  rw [flat_fI] at hj ⊢
  have hj' : j < (fI xs).length := by simpa using hj
  refine ⟨?_, frozen_of h⟩
  rw [cell_of h, Nat.zero_add, List.getElem?_append_left hj', List.getElem?_eq_getElem hj']
  rw [getElem!_pos (fI xs).toArray j hj]
  rfl
theorem sortWorld_st {w : World} {q : Nat} {xs ys : List IDV} {sp : List Value} {t : TypeId} (h : w.heap[q]? = some (cb (fI xs ++ sp) t)) (hl : ys.length = xs.length) (n : Nat) (os : Array Obj) :
    St w [q] [(q, cb (fI ys ++ sp) t)] (sortWorldK cI 16 w q 0 n ys.toArray os) := by
  have hq := lt_of_some h
  have hlx := fI_length xs
  have hly := fI_length ys
  have hheap : (sortWorldK cI 16 w q 0 n ys.toArray os).heap = (w.heap.modify q (onCells (putCells id 0 (flatK cI 16 ys.toArray)))) ++ os := rfl
  refine ⟨rfl, rfl, rfl, by rw [hheap]; simp, Nat.le_add_right _ _, fun b hb hS => ?_, fun p hp => ?_, fun p hp => ?_, by simp⟩
  · rw [hheap, Array.getElem?_append_left (by simpa using hb), Array.getElem?_modify, if_neg (by simp at hS; exact fun e => hS e.symm)]
  · simp only [List.mem_singleton] at hp
    subst hp
    rw [hheap, Array.getElem?_append_left (by simpa using hq), Array.getElem?_modify, if_pos rfl, h]
    simp only [Option.map_some, onCells, flat_fI]
    congr 2
    apply Array.ext
    · simp [putCells, hlx, hly, hl]
    · intro i h1 h2
      have hi : i < (fI ys ++ sp).length := by simpa using h2
      simp only [putCells, Array.getElem_mapIdx, Nat.zero_le, true_and, Nat.zero_add, Nat.sub_zero, id]
      by_cases hin : i < (fI ys).length
      · rw [if_pos (by simpa using hin), getElem!_pos _ i (by simpa using hin)]
        simp [List.getElem_append_left hin]
      · rw [if_neg (by simpa using hin)]
        simp only [List.getElem_toArray]
        rw [List.getElem_append_right (by omega), List.getElem_append_right (by omega)]
        congr 1
        omega
  · simp only [List.mem_singleton] at hp
    subst hp
    left; simp
theorem sort_spec (g : Nat) (cbv : Array Value) (f : IDV → Nat) (hf : ∀ a b, f a = f b → a = b) (hg : bodyT Tryz.prog g = true) (q : Nat) (xs : List IDV) (sp : List Value) (cap : Nat) (l : List (Nat × Obj)) (w : World) (hw0 : Own w ((q, cb (fI xs ++ sp) 24) :: l)) (hlen : xs.length < 4611686018427387904)
    (hc : ∀ (a b : IDV) (W : World), Own W l → Calls Tryz.prog g (#[.agg (cI a).toArray, .agg (cI b).toArray] ++ cbv) W fun r W' => r = .returned (.int .i64 (cfN f a b)) ∧ Bel W W') :
    Calls Tryz.prog 56 [.slice (some ⟨q, 0, none⟩) xs.length cap, .func (.func g) #[] cbv].toArray w fun r w' => ∃ ys : List IDV, r = .returned (.tuple #[]) ∧ (ys.Perm xs ∧ ys.Pairwise (fun a b => f a ≤ f b)) ∧ St w [q] [(q, cb (fI ys ++ sp) 24)] w' := by
  have hb : w.heap[q]? = some (cb (fI xs ++ sp) 24) := hw0.own _ (.head _)
  have hdist := List.pairwise_cons.1 hw0.dist
  have hcmp : CmpLays Tryz.prog g cbv cI 16 (cfN f) q 0 xs.toArray.size w := by
    intro m os dk hd x y
    have hs := sortWorld_st (ys := dk.toList) hb (by simpa using hd) m os
    rw [Array.toArray_toList] at hs
    refine (hc x y _ ⟨fun p hp => ?_, hdist.2⟩).mono fun r w' ⟨h1, h2⟩ => ⟨h1, h2.grown⟩
    rw [hs.keep p.1 (lt_of_some (hw0.own p (.tail _ hp))) (by simp; exact fun e => hdist.1 p hp e.symm)]
    exact hw0.own p (.tail _ hp)
  have hcon := AnyQ.slices_SortFunc_total Tryz.sortI 16 (fun w => Go.J.run_isAgg Ty.a24 w) (fun w => Go.J.run_sizeOf Ty.s24 w) cI (fun _ => rfl) (fun x v hv => by simp [cI] at hv; rcases hv with rfl | rfl | rfl | rfl | rfl | rfl | rfl | rfl | rfl | rfl | rfl | rfl | rfl | rfl | rfl | rfl <;> rfl) (cfN f) (swo_cfN f) g cbv q 0 cap xs.toArray w
    (fun args w => run_callFunc hg w) hcmp (holds_fI hb) (lt_of_some hb) (by simpa using hlen) (fun x y h1 h2 => by rw [ltOf_cfN] at h1 h2; simp at h1 h2; exact hf _ _ (by omega))
  change Calls Tryz.prog 56 _ _ _ at hcon
  rw [List.size_toArray] at hcon
  refine hcon.mono fun r w' ⟨h1, n, os, h2⟩ => ?_
  refine ⟨xs.mergeSort (fun x y => !(ltOf (cfN f)) y x), h1, ⟨List.mergeSort_perm _ _, ?_⟩, ?_⟩
  · have := List.pairwise_mergeSort (le := fun x y => !(ltOf (cfN f)) y x) (fun a b c h1 h2 => by simp [ltOf_cfN] at *; omega) (fun a b => by simp [ltOf_cfN]; omega) xs
    refine this.imp fun {a b} h => ?_
    simp [ltOf_cfN] at h
    exact h
  · rw [h2]
    exact sortWorld_st hb (by simp) n os

end Go.Proofs.YtohldionclgljaaGreat
