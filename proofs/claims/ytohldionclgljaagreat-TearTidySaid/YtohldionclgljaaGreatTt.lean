/-
  What the functions of package trail do, and whether a place is open: contracts.
-/
import Derived.Test.YtohldionclgljaaGreatTk
import Derived.Test.YtohldionclgljaaGreatMb
namespace Go.Proofs.YtohldionclgljaaGreat
open Go.J Go.RowKit
set_option linter.unusedVariables false
set_option linter.unusedSimpArgs false
set_option maxRecDepth 4000
abbrev iV (n : Int) : Value := .int .i64 n
abbrev bV (b : Bool) : Value := .bool b
/-- where a place stands first -/
def placeP : List Int → Int → Int
  | [], _ => -1
  | x :: xs, n => if x = n then 0 else if placeP xs n < 0 then -1 else placeP xs n + 1
theorem place_ge : ∀ (xs : List Int) (n : Int), -1 ≤ placeP xs n
  | [], _ => by simp [placeP]
  | x :: xs, n => by
    have := place_ge xs n
    simp only [placeP]
    split
    · omega
    · split <;> omega
theorem place_at : ∀ {xs : List Int} {n : Int} {i : Nat} (h : i < xs.length), (∀ j, j < i → xs[j]? ≠ some n) → xs[i] = n → placeP xs n = (i : Int)
  | x :: xs, n, 0, _, _, he => by
    have : x = n := he
    simp [placeP, this]
  | x :: xs, n, i + 1, h, hb, he => by
    have h0 : x ≠ n := fun e => hb 0 (by omega) (by simp [e])
    have ih := place_at (xs := xs) (n := n) (i := i) (by simpa using h) (fun j hj => by simpa using hb (j + 1) (by omega)) (by simpa using he)
    simp only [placeP]
    rw [if_neg h0, ih, if_neg (by omega)]
    omega
theorem place_no : ∀ {xs : List Int} {n : Int}, (∀ j, j < xs.length → xs[j]? ≠ some n) → placeP xs n = -1
  | [], _, _ => rfl
  | x :: xs, n, hb => by
    have h0 : x ≠ n := fun e => hb 0 (by simp) (by simp [e])
    have ih := place_no (xs := xs) (n := n) (fun j hj => by simpa using hb (j + 1) (by simpa using hj))
    simp only [placeP]
    rw [if_neg h0, ih, if_pos (by omega)]
theorem place_mem : ∀ {xs : List Int} {n : Int}, 0 ≤ placeP xs n ↔ n ∈ xs
  | [], _ => by simp [placeP]
  | x :: xs, n => by
    have ih := place_mem (xs := xs) (n := n)
    have := place_ge xs n
    simp only [placeP, List.mem_cons]
    by_cases h : x = n
    · simp [h]
    · rw [if_neg h]
      have h' : ¬ n = x := fun e => h e.symm
      simp only [h', false_or]
      by_cases h2 : placeP xs n < 0
      · rw [if_pos h2]
        constructor
        · intro h; omega
        · intro h; have := ih.2 h; omega
      · rw [if_neg h2]
        constructor
        · intro _; exact ih.1 (by omega)
        · intro _; omega
theorem place_get : ∀ {xs : List Int} {n : Int}, 0 ≤ placeP xs n → xs[(placeP xs n).toNat]? = some n
  | [], _, h => by simp [placeP] at h
  | x :: xs, n, h => by
    simp only [placeP] at h ⊢
    by_cases h0 : x = n
    · simp [h0]
    · rw [if_neg h0] at h ⊢
      by_cases h2 : placeP xs n < 0
      · rw [if_pos h2] at h; omega
      · rw [if_neg h2]
        have ih := place_get (xs := xs) (n := n) (by omega)
        rw [show (placeP xs n + 1).toNat = (placeP xs n).toNat + 1 by omega]
        simpa using ih
theorem place_lt {xs : List Int} {n : Int} (h : 0 ≤ placeP xs n) : (placeP xs n).toNat < xs.length := (List.getElem?_eq_some_iff.1 (place_get h)).1
theorem nodup_succ {xs : List Int} {i : Nat} (h : i < xs.length) (hn : (xs.take i).Nodup) (hm : xs[i] ∉ xs.take i) : (xs.take (i + 1)).Nodup := by
  rw [take_add_one h, List.nodup_append]
  refine ⟨hn, by simp, ?_⟩
  intro a ha b hb
  simp at hb
  subst hb
  exact fun e => hm (e ▸ ha)
theorem nodup_no {xs : List Int} {i : Nat} (h : i < xs.length) (hm : xs[i] ∈ xs.take i) : ¬ xs.Nodup := by
  intro hn
  have h1 : (xs.take (i + 1)).Nodup := hn.sublist (List.take_sublist _ _)
  rw [take_add_one h, List.nodup_append] at h1
  exact h1.2.2 _ hm _ (by simp) rfl
/-- is a place open? -/
def openQ (os : List Bool) (n : Int) : Bool := decide (0 ≤ n) && (os[n.toNat]?).getD false

end Go.Proofs.YtohldionclgljaaGreat
