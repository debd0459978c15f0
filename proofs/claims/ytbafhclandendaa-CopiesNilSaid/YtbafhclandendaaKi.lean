/-
  Rising rows of identities; and the contracts of DeleteFunc, SortFunc and Compact for nil slices too.
-/
import Derived.Test.YtbafhclandendaaKh
namespace Go.Proofs.Ytbafhclandendaa
open Go.J Go.RowKit
set_option linter.unusedVariables false
set_option linter.unusedSimpArgs false
set_option maxRecDepth 4000
/-- rising -/
def Asc (l : List IDV) : Prop := l.Pairwise (fun a b => valI a < valI b)
theorem asc_ext : ∀ {l m : List IDV}, Asc l → Asc m → (∀ x, x ∈ l ↔ x ∈ m) → l = m
  | [], [], _, _, _ => rfl
  | [], y :: m, _, _, h => by have := (h y).2 (.head _); cases this
  | x :: l, [], _, _, h => by have := (h x).1 (.head _); cases this
  | x :: l, y :: m, hl, hm, h => by
    have hl' := List.pairwise_cons.1 hl
    have hm' := List.pairwise_cons.1 hm
    have hxy : x = y := by
      have h1 := (h x).1 (.head _)
      have h2 := (h y).2 (.head _)
      rcases List.mem_cons.1 h1 with e | h1
      · exact e
      rcases List.mem_cons.1 h2 with e | h2
      · exact e.symm
      have := hl'.1 y h2
      have := hm'.1 x h1
      omega
    subst hxy
    rw [asc_ext hl'.2 hm'.2 fun z => ?_]
    constructor
    · intro hz
      rcases List.mem_cons.1 ((h z).1 (.tail _ hz)) with e | h1
      · have := hl'.1 z hz; rw [e] at this; omega
      · exact h1
    · intro hz
      rcases List.mem_cons.1 ((h z).2 (.tail _ hz)) with e | h1
      · have := hm'.1 z hz; rw [e] at this; omega
      · exact h1
theorem asc_nodup {l : List IDV} (h : Asc l) : l.Nodup := h.imp fun {a b} hab e => by subst e; omega
theorem asc_last {l : List IDV} {x : IDV} (h : Asc l) (hx : x ∈ l) (hle : ∀ a, a ∈ l → valI a ≤ valI x) : l.getLast? = some x := by
  rcases List.eq_nil_or_concat l with rfl | ⟨i, z, rfl⟩
  · cases hx
  · simp only [List.concat_eq_append] at *
    rw [List.getLast?_concat]
    have hp := List.pairwise_append.1 h
    rcases List.mem_append.1 hx with hi | hz
    · have h1 := hp.2.2 x hi z (.head _)
      have h2 := hle z (by simp)
      omega
    · simp only [List.mem_singleton] at hz
      rw [hz]
theorem stepI_asc {acc : List IDV} {x : IDV} (h : Asc acc) (hle : ∀ a, a ∈ acc → valI a ≤ valI x) : Asc (stepI acc x) ∧ ∀ z, z ∈ stepI acc x ↔ z ∈ acc ∨ z = x := by
  unfold stepI
  split
  · rename_i hl
    have hx : x ∈ acc := List.mem_of_getLast? hl
    exact ⟨h, fun z => ⟨.inl, fun hz => by rcases hz with hz | rfl <;> assumption⟩⟩
  · rename_i hl
    refine ⟨List.pairwise_append.2 ⟨h, List.pairwise_singleton _ _, fun a ha b hb => ?_⟩, fun z => by simp⟩
    simp only [List.mem_singleton] at hb
    subst hb
    have h1 := hle a ha
    rcases Nat.lt_or_ge (valI a) (valI b) with h2 | h2
    · exact h2
    · have : a = b := valI_inj (by omega)
      subst this
      exact absurd (asc_last h ha hle) hl
set_option maxHeartbeats 1000000 in
theorem foldl_stepI : ∀ {ys acc : List IDV}, Asc acc → ys.Pairwise (fun a b => valI a ≤ valI b) → (∀ a, a ∈ acc → ∀ y, y ∈ ys → valI a ≤ valI y) → Asc (ys.foldl stepI acc) ∧ ∀ z, z ∈ ys.foldl stepI acc ↔ z ∈ acc ∨ z ∈ ys
  | [], acc, h, _, _ => ⟨h, fun z => by simp⟩
  | y :: ys, acc, h, hp, hle => by
    have hp' := List.pairwise_cons.1 hp
    obtain ⟨h1, h2⟩ := stepI_asc (x := y) h (fun a ha => hle a ha y (.head _))
    obtain ⟨h3, h4⟩ := foldl_stepI (ys := ys) h1 hp'.2 (fun a ha z hz => by
      rcases (h2 a).1 ha with ha | rfl
      · exact hle a ha z (.tail _ hz)
      · exact hp'.1 z hz)
    refine ⟨h3, fun z => ?_⟩
    rw [List.foldl_cons, h4, h2, List.mem_cons, or_assoc]
theorem dedI_asc {ys : List IDV} (h : ys.Pairwise (fun a b => valI a ≤ valI b)) : Asc (dedI ys) ∧ ∀ z, z ∈ dedI ys ↔ z ∈ ys := by
  obtain ⟨h1, h2⟩ := foldl_stepI (ys := ys) (acc := []) .nil h (fun a ha => by cases ha)
  exact ⟨h1, fun z => by rw [dedI, h2]; simp⟩
/-- where it belongs -/
def posI (l : List IDV) (x : IDV) : Nat := (l.takeWhile (fun y => decide (valI y < valI x))).length
def insI (l : List IDV) (x : IDV) : List IDV := l.take (posI l x) ++ x :: l.drop (posI l x)
def stepS (me : IDV) (acc : List IDV) (x : IDV) : List IDV := if x = me ∨ x ∈ acc then acc else insI acc x
/-- sorted, each once, without one -/
def sortI (xs : List IDV) (me : IDV) : List IDV := xs.foldl (stepS me) []
theorem take_length_takeWhile {α : Type} (p : α → Bool) : ∀ l : List α, l.take (l.takeWhile p).length = l.takeWhile p
  | [] => rfl
  | x :: l => by
    by_cases h : p x <;> simp [h, take_length_takeWhile p l]
theorem drop_length_takeWhile {α : Type} (p : α → Bool) : ∀ l : List α, l.drop (l.takeWhile p).length = l.dropWhile p
  | [] => rfl
  | x :: l => by
    by_cases h : p x <;> simp [h, drop_length_takeWhile p l]
theorem takeWhile_all {α : Type} {p : α → Bool} : ∀ {l : List α} {x : α}, x ∈ l.takeWhile p → p x = true
  | y :: l, x, h => by
    by_cases hy : p y
    · rw [List.takeWhile_cons_of_pos hy] at h
      rcases List.mem_cons.1 h with rfl | h
      · exact hy
      · exact takeWhile_all h
    · rw [List.takeWhile_cons_of_neg hy] at h; cases h
theorem dropWhile_asc : ∀ {l : List IDV} {x : IDV}, Asc l → x ∉ l → ∀ y, y ∈ l.dropWhile (fun y => decide (valI y < valI x)) → valI x < valI y
  | z :: l, x, h, hx, y, hy => by
    have h' := List.pairwise_cons.1 h
    by_cases hz : valI z < valI x
    · rw [List.dropWhile_cons_of_pos (by simpa using hz)] at hy
      exact dropWhile_asc h'.2 (fun hm => hx (.tail _ hm)) y hy
    · rw [List.dropWhile_cons_of_neg (by simpa using hz)] at hy
      have hne : valI z ≠ valI x := fun e => hx (by rw [← valI_inj e]; exact .head _)
      rcases List.mem_cons.1 hy with rfl | hy
      · omega
      · have := h'.1 y hy; omega
theorem insI_asc {l : List IDV} {x : IDV} (h : Asc l) (hx : x ∉ l) : Asc (insI l x) ∧ ∀ z, z ∈ insI l x ↔ z ∈ l ∨ z = x := by
  unfold insI posI
  rw [take_length_takeWhile, drop_length_takeWhile]
  have hsplit : l = l.takeWhile (fun y => decide (valI y < valI x)) ++ l.dropWhile (fun y => decide (valI y < valI x)) := (List.takeWhile_append_dropWhile).symm
  have hp : Asc (l.takeWhile (fun y => decide (valI y < valI x)) ++ l.dropWhile (fun y => decide (valI y < valI x))) := by rw [← hsplit]; exact h
  have hp' := List.pairwise_append.1 hp
  have hd := dropWhile_asc h hx
  refine ⟨List.pairwise_append.2 ⟨hp'.1, List.pairwise_cons.2 ⟨hd, hp'.2.1⟩, fun a ha b hb => ?_⟩, fun z => ?_⟩
  · have h1 : valI a < valI x := by simpa using takeWhile_all ha
    rcases List.mem_cons.1 hb with rfl | hb
    · exact h1
    · have := hd b hb; omega
  · conv => rhs; rw [hsplit]
    simp only [List.mem_append, List.mem_cons]
    constructor
    · rintro (h | h | h)
      · exact .inl (.inl h)
      · exact .inr h
      · exact .inl (.inr h)
    · rintro ((h | h) | h)
      · exact .inl h
      · exact .inr (.inr h)
      · exact .inr (.inl h)
theorem foldl_stepS (me : IDV) : ∀ {xs acc : List IDV}, Asc acc → me ∉ acc → Asc (xs.foldl (stepS me) acc) ∧ ∀ z, z ∈ xs.foldl (stepS me) acc ↔ z ∈ acc ∨ (z ∈ xs ∧ z ≠ me)
  | [], acc, h, _ => ⟨h, fun z => by simp⟩
  | x :: xs, acc, h, hm => by
    have h1 : Asc (stepS me acc x) ∧ ∀ z, z ∈ stepS me acc x ↔ z ∈ acc ∨ (z = x ∧ z ≠ me) := by
      unfold stepS
      split
      · rename_i hc
        refine ⟨h, fun z => ⟨.inl, fun hz => ?_⟩⟩
        rcases hz with hz | ⟨rfl, hz⟩
        · exact hz
        · rcases hc with e | hc
          · exact absurd e hz
          · exact hc
      · rename_i hc
        have hx : x ≠ me ∧ x ∉ acc := ⟨fun e => hc (.inl e), fun e => hc (.inr e)⟩
        obtain ⟨h1, h2⟩ := insI_asc h hx.2
        refine ⟨h1, fun z => (h2 z).trans ?_⟩
        constructor
        · rintro (h | rfl)
          · exact .inl h
          · exact .inr ⟨rfl, hx.1⟩
        · rintro (h | h)
          · exact .inl h
          · exact .inr h.1
    obtain ⟨h3, h4⟩ := foldl_stepS me (xs := xs) h1.1 (fun e => by
      rcases (h1.2 me).1 e with e | e
      · exact hm e
      · exact e.2 rfl)
    refine ⟨h3, fun z => ?_⟩
    rw [List.foldl_cons, h4, h1.2, List.mem_cons, or_assoc]
    refine or_congr_right ⟨?_, ?_⟩
    · rintro (h | h)
      · exact ⟨.inl h.1, h.2⟩
      · exact ⟨.inr h.1, h.2⟩
    · rintro ⟨h | h, h2⟩
      · exact .inl ⟨h, h2⟩
      · exact .inr ⟨h, h2⟩
theorem sortI_asc (xs : List IDV) (me : IDV) : Asc (sortI xs me) := (foldl_stepS me .nil (fun h => by cases h)).1
theorem sortI_mem (xs : List IDV) (me z : IDV) : z ∈ sortI xs me ↔ z ∈ xs ∧ z ≠ me := ((foldl_stepS me .nil (fun h => by cases h)).2 z).trans (by simp)
theorem sortI_of {xs l : List IDV} {me : IDV} (h : Asc l) (hm : ∀ z, z ∈ l ↔ z ∈ xs ∧ z ≠ me) : l = sortI xs me := asc_ext h (sortI_asc xs me) fun z => by rw [hm, sortI_mem]
theorem sortI_of_steps {xs ys : List IDV} {me : IDV} (hp : ys.Perm (delI xs me)) (hs : ys.Pairwise (fun a b => valI a ≤ valI b)) : dedI ys = sortI xs me := by
  obtain ⟨h1, h2⟩ := dedI_asc hs
  refine sortI_of h1 fun z => ?_
  rw [h2, hp.mem_iff, delI, List.mem_filter]
  simp
theorem foldl_stepS_le (me : IDV) : ∀ (xs acc : List IDV), (xs.foldl (stepS me) acc).length ≤ acc.length + xs.length
  | [], acc => by simp
  | x :: xs, acc => by
    have h := foldl_stepS_le me xs (stepS me acc x)
    have h2 : (stepS me acc x).length ≤ acc.length + 1 := by
      unfold stepS
      split
      · omega
      · unfold insI
        rw [List.length_append, List.length_cons, List.length_take, List.length_drop]
        omega
    rw [List.foldl_cons, List.length_cons]
    omega
theorem sortI_le (xs : List IDV) (me : IDV) : (sortI xs me).length ≤ xs.length := by
  have := foldl_stepS_le me xs []
  simpa [sortI] using this

end Go.Proofs.Ytbafhclandendaa
