/-
  Rising rows of identities; and the contracts of DeleteFunc, SortFunc and Compact for nil slices too.
-/
import Derived.Test.YtohldionclgljaaGreatKh
namespace Go.Proofs.YtohldionclgljaaGreat
open Go.J Go.RowKit
set_option linter.unusedVariables false
set_option linter.unusedSimpArgs false
set_option maxRecDepth 4000
/-- rising -/
def Asc (l : List IDV) : Prop := l.Pairwise (fun a b => valI a < valI b)
theorem asc_ext : ∀ {l m : List IDV}, Asc l → Asc m → (∀ x, x ∈ l ↔ x ∈ m) → l = m
  | [], [], _, _, _ => rfl
  | [], y :: m, _, _, h => by have := (h y).2 (.head _); cases this
  | x :: l, [], _, _, h => by have := (h x).1 (.head _); cases this
  | x :: l, y :: m, hl, hm, h => by
    have hl' := List.pairwise_cons.1 hl
    have hm' := List.pairwise_cons.1 hm
    have hxy : x = y := by
      have h1 := (h x).1 (.head _)
      have h2 := (h y).2 (.head _)
      rcases List.mem_cons.1 h1 with e | h1
      · exact e
      rcases List.mem_cons.1 h2 with e | h2
      · exact e.symm
      have := hl'.1 y h2
      have := hm'.1 x h1
      omega
    subst hxy
    rw [asc_ext hl'.2 hm'.2 fun z => ?_]
    constructor
    · intro hz
      rcases List.mem_cons.1 ((h z).1 (.tail _ hz)) with e | h1
      · have := hl'.1 z hz; rw [e] at this; omega
      · exact h1
    · intro hz
      rcases List.mem_cons.1 ((h z).2 (.tail _ hz)) with e | h1
      · have := hm'.1 z hz; rw [e] at this; omega
      · exact h1
theorem asc_nodup {l : List IDV} (h : Asc l) : l.Nodup := h.imp fun {a b} hab e => by subst e; omega
theorem asc_last {l : List IDV} {x : IDV} (h : Asc l) (hx : x ∈ l) (hle : ∀ a, a ∈ l → valI a ≤ valI x) : l.getLast? = some x := by
  rcases List.eq_nil_or_concat l with rfl | ⟨i, z, rfl⟩
  · cases hx
  · simp only [List.concat_eq_append] at *
    rw [List.getLast?_concat]
    have hp := List.pairwise_append.1 h
    rcases List.mem_append.1 hx with hi | hz
    · have h1 := hp.2.2 x hi z (.head _)
      have h2 := hle z (by simp)
      omega
    · simp only [List.mem_singleton] at hz
      rw [hz]
theorem stepI_asc {acc : List IDV} {x : IDV} (h : Asc acc) (hle : ∀ a, a ∈ acc → valI a ≤ valI x) : Asc (stepI acc x) ∧ ∀ z, z ∈ stepI acc x ↔ z ∈ acc ∨ z = x := by
  unfold stepI
  split
  · rename_i hl
    have hx : x ∈ acc := List.mem_of_getLast? hl
    exact ⟨h, fun z => ⟨.inl, fun hz => by rcases hz with hz | rfl <;> assumption⟩⟩
  · rename_i hl
    refine ⟨List.pairwise_append.2 ⟨h, List.pairwise_singleton _ _, fun a ha b hb => ?_⟩, fun z => by simp⟩
    simp only [List.mem_singleton] at hb
    subst hb
    have h1 := hle a ha
    rcases Nat.lt_or_ge (valI a) (valI b) with h2 | h2
    · exact h2
    · have : a = b := valI_inj (by omega)
      subst this
      exact absurd (asc_last h ha hle) hl
set_option maxHeartbeats 1000000 in
theorem foldl_stepI : ∀ {ys acc : List IDV}, Asc acc → ys.Pairwise (fun a b => valI a ≤ valI b) → (∀ a, a ∈ acc → ∀ y, y ∈ ys → valI a ≤ valI y) → Asc (ys.foldl stepI acc) ∧ ∀ z, z ∈ ys.foldl stepI acc ↔ z ∈ acc ∨ z ∈ ys
  | [], acc, h, _, _ => ⟨h, fun z => by simp⟩
  | y :: ys, acc, h, hp, hle => by
    have hp' := List.pairwise_cons.1 hp
    obtain ⟨h1, h2⟩ := stepI_asc (x := y) h (fun a ha => hle a ha y (.head _))
    obtain ⟨h3, h4⟩ := foldl_stepI (ys := ys) h1 hp'.2 (fun a ha z hz => by
      rcases (h2 a).1 ha with ha | rfl
      · exact hle a ha z (.tail _ hz)
      · exact hp'.1 z hz)
    refine ⟨h3, fun z => ?_⟩
    rw [List.foldl_cons, h4, h2, List.mem_cons, or_assoc]
theorem dedI_asc {ys : List IDV} (h : ys.Pairwise (fun a b => valI a ≤ valI b)) : Asc (dedI ys) ∧ ∀ z, z ∈ dedI ys ↔ z ∈ ys := by
  obtain ⟨h1, h2⟩ := foldl_stepI (ys := ys) (acc := []) .nil h (fun a ha => by cases ha)
  exact ⟨h1, fun z => by rw [dedI, h2]; simp⟩
/-- where it belongs -/
def posI (l : List IDV) (x : IDV) : Nat := (l.takeWhile (fun y => decide (valI y < valI x))).length
def insI (l : List IDV) (x : IDV) : List IDV := l.take (posI l x) ++ x :: l.drop (posI l x)
def stepS (me : IDV) (acc : List IDV) (x : IDV) : List IDV := if x = me ∨ x ∈ acc then acc else insI acc x
/-- sorted, each once, without one -/
def sortI (xs : List IDV) (me : IDV) : List IDV := xs.foldl (stepS me) []
theorem take_length_takeWhile {α : Type} (p : α → Bool) : ∀ l : List α, l.take (l.takeWhile p).length = l.takeWhile p
  | [] => rfl
  | x :: l => by
    by_cases h : p x <;> simp [h, take_length_takeWhile p l]
theorem drop_length_takeWhile {α : Type} (p : α → Bool) : ∀ l : List α, l.drop (l.takeWhile p).length = l.dropWhile p
  | [] => rfl
  | x :: l => by
    by_cases h : p x <;> simp [h, drop_length_takeWhile p l]
theorem takeWhile_all {α : Type} {p : α → Bool} : ∀ {l : List α} {x : α}, x ∈ l.takeWhile p → p x = true
  | y :: l, x, h => by
    by_cases hy : p y
    · rw [List.takeWhile_cons_of_pos hy] at h
      rcases List.mem_cons.1 h with rfl | h
      · exact hy
      · exact takeWhile_all h
    · rw [List.takeWhile_cons_of_neg hy] at h; cases h
theorem dropWhile_asc : ∀ {l : List IDV} {x : IDV}, Asc l → x ∉ l → ∀ y, y ∈ l.dropWhile (fun y => decide (valI y < valI x)) → valI x < valI y
  | z :: l, x, h, hx, y, hy => by
    have h' := List.pairwise_cons.1 h
    by_cases hz : valI z < valI x
    · rw [List.dropWhile_cons_of_pos (by simpa using hz)] at hy
      exact dropWhile_asc h'.2 (fun hm => hx (.tail _ hm)) y hy
    · rw [List.dropWhile_cons_of_neg (by simpa using hz)] at hy
      have hne : valI z ≠ valI x := fun e => hx (by rw [← valI_inj e]; exact .head _)
      rcases List.mem_cons.1 hy with rfl | hy
      · omega
      · have := h'.1 y hy; omega
theorem insI_asc {l : List IDV} {x : IDV} (h : Asc l) (hx : x ∉ l) : Asc (insI l x) ∧ ∀ z, z ∈ insI l x ↔ z ∈ l ∨ z = x := by
  unfold insI posI
  rw [take_length_takeWhile, drop_length_takeWhile]
  have hsplit : l = l.takeWhile (fun y => decide (valI y < valI x)) ++ l.dropWhile (fun y => decide (valI y < valI x)) := (List.takeWhile_append_dropWhile).symm
  have hp : Asc (l.takeWhile (fun y => decide (valI y < valI x)) ++ l.dropWhile (fun y => decide (valI y < valI x))) := by rw [← hsplit]; exact h
  have hp' := List.pairwise_append.1 hp
  have hd := dropWhile_asc h hx
  refine ⟨List.pairwise_append.2 ⟨hp'.1, List.pairwise_cons.2 ⟨hd, hp'.2.1⟩, fun a ha b hb => ?_⟩, fun z => ?_⟩
  · have h1 : valI a < valI x := by simpa using takeWhile_all ha
    rcases List.mem_cons.1 hb with rfl | hb
    · exact h1
    · have := hd b hb; omega
  · conv => rhs; rw [hsplit]
    simp only [List.mem_append, List.mem_cons]
    constructor
    · rintro (h | h | h)
      · exact .inl (.inl h)
      · exact .inr h
      · exact .inl (.inr h)
    · rintro ((h | h) | h)
      · exact .inl h
      · exact .inr (.inr h)
      · exact .inr (.inl h)
theorem foldl_stepS (me : IDV) : ∀ {xs acc : List IDV}, Asc acc → me ∉ acc → Asc (xs.foldl (stepS me) acc) ∧ ∀ z, z ∈ xs.foldl (stepS me) acc ↔ z ∈ acc ∨ (z ∈ xs ∧ z ≠ me)
  | [], acc, h, _ => ⟨h, fun z => by simp⟩
  | x :: xs, acc, h, hm => by
    have h1 : Asc (stepS me acc x) ∧ ∀ z, z ∈ stepS me acc x ↔ z ∈ acc ∨ (z = x ∧ z ≠ me) := by
      unfold stepS
      split
      · rename_i hc
        refine ⟨h, fun z => ⟨.inl, fun hz => ?_⟩⟩
        rcases hz with hz | ⟨rfl, hz⟩
        · exact hz
        · rcases hc with e | hc
          · exact absurd e hz
          · exact hc
      · rename_i hc
        have hx : x ≠ me ∧ x ∉ acc := ⟨fun e => hc (.inl e), fun e => hc (.inr e)⟩
        obtain ⟨h1, h2⟩ := insI_asc h hx.2
        refine ⟨h1, fun z => (h2 z).trans ?_⟩
        constructor
        · rintro (h | rfl)
          · exact .inl h
          · exact .inr ⟨rfl, hx.1⟩
        · rintro (h | h)
          · exact .inl h
          · exact .inr h.1
    obtain ⟨h3, h4⟩ := foldl_stepS me (xs := xs) h1.1 (fun e => by
      rcases (h1.2 me).1 e with e | e
      · exact hm e
      · exact e.2 rfl)
    refine ⟨h3, fun z => ?_⟩
    rw [List.foldl_cons, h4, h1.2, List.mem_cons, or_assoc]
    refine or_congr_right ⟨?_, ?_⟩
    · rintro (h | h)
      · exact ⟨.inl h.1, h.2⟩
      · exact ⟨.inr h.1, h.2⟩
    · rintro ⟨h | h, h2⟩
      · exact .inl ⟨h, h2⟩
      · exact .inr ⟨h, h2⟩
theorem sortI_asc (xs : List IDV) (me : IDV) : Asc (sortI xs me) := (foldl_stepS me .nil (fun h => by cases h)).1
theorem sortI_mem (xs : List IDV) (me z : IDV) : z ∈ sortI xs me ↔ z ∈ xs ∧ z ≠ me := ((foldl_stepS me .nil (fun h => by cases h)).2 z).trans (by simp)
theorem sortI_of {xs l : List IDV} {me : IDV} (h : Asc l) (hm : ∀ z, z ∈ l ↔ z ∈ xs ∧ z ≠ me) : l = sortI xs me := asc_ext h (sortI_asc xs me) fun z => by rw [hm, sortI_mem]
theorem sortI_of_steps {xs ys : List IDV} {me : IDV} (hp : ys.Perm (delI xs me)) (hs : ys.Pairwise (fun a b => valI a ≤ valI b)) : dedI ys = sortI xs me := by
  obtain ⟨h1, h2⟩ := dedI_asc hs
  refine sortI_of h1 fun z => ?_
  rw [h2, hp.mem_iff, delI, List.mem_filter]
  simp
theorem foldl_stepS_le (me : IDV) : ∀ (xs acc : List IDV), (xs.foldl (stepS me) acc).length ≤ acc.length + xs.length
  | [], acc => by simp
  | x :: xs, acc => by
    have h := foldl_stepS_le me xs (stepS me acc x)
    have h2 : (stepS me acc x).length ≤ acc.length + 1 := by
      unfold stepS
      split
      · omega
      · unfold insI
        rw [List.length_append, List.length_cons, List.length_take, List.length_drop]
        omega
    rw [List.foldl_cons, List.length_cons]
    omega
theorem sortI_le (xs : List IDV) (me : IDV) : (sortI xs me).length ≤ xs.length := by
  have := foldl_stepS_le me xs []
  simpa [sortI] using this

end Go.Proofs.YtohldionclgljaaGreat
/-
  Clone, DeleteFunc, SortFunc and Compact at rows that are nil or not; ring.Sorted: contracts.
-/
namespace Go.Proofs.YtohldionclgljaaGreat
open Go.J Go.RowKit
set_option linter.unusedVariables false
set_option linter.unusedSimpArgs false
set_option maxRecDepth 4000
theorem vecI {v : Value} {xs : List IDV} {lp : List (Nat × Obj)} (h : Vec 24 16 v xs.length (fI xs) lp) : (v = .slice none 0 0 ∧ xs = [] ∧ lp = []) ∨ ∃ b c sp, v = .slice (some ⟨b, 0, none⟩) xs.length c ∧ lp = [(b, cb (fI xs ++ sp) 24)] ∧ (fI xs ++ sp).length = c * 16 ∧ xs.length ≤ c := by
  rcases h.2 with ⟨h1, h2, h3⟩ | h
  · exact .inl ⟨h1, List.eq_nil_of_length_eq_zero h2, h3⟩
  · exact .inr h
theorem vecI_mk {xs : List IDV} {b c : Nat} {sp : List Value} (h1 : (fI xs ++ sp).length = c * 16) : Vec 24 16 (.slice (some ⟨b, 0, none⟩) xs.length c) xs.length (fI xs) [(b, cb (fI xs ++ sp) 24)] := by
  refine ⟨fI_length xs, .inr ⟨b, c, sp, rfl, rfl, h1, ?_⟩⟩
  rw [List.length_append, fI_length] at h1
  omega
theorem clone_spec (v : Value) (xs : List IDV) (w : World) (hr : Row w v xs.length (fI xs)) (hl : xs.length ≤ 8796093022208) :
    Calls Tryz.prog 54 [v].toArray w fun r w' => ∃ x : Value × List (Nat × Obj), r = .returned x.1 ∧ Vec 24 16 x.1 xs.length (fI xs) x.2 ∧ St w [] x.2 w' := by
  obtain ⟨a, c, rfl, hc, h⟩ := id hr
  cases a with
  | none =>
    have hx : fI xs = [] := by
      rcases h with h | ⟨b, o, h, _⟩
      · exact h
      · cases h
    have hx0 : xs.length = 0 := by have := fI_length xs; rw [hx] at this; simp at this; omega
    have hx1 := List.eq_nil_of_length_eq_zero hx0
    subst hx1
    refine (clone_nil _ c w).mono fun r w' ⟨h1, h2⟩ => ⟨(.slice none 0 0, []), h1, Vec.nil _ _, (St.start w).step h2⟩
  | some a => exact (clone_some a c xs w hr hl).mono fun r w' ⟨x, h1, h2, h3⟩ => ⟨x, h1, h2.2, h3⟩

theorem deleteFunc_nil (s : Nat) (self : IDV) (w : World) (hw0 : Own w [(s, cb (cI self) 24)]) :
    Calls Tryz.prog 53 [.slice none 0 0, .func (.func 55) #[] #[.pointer (some ⟨s, 0, none⟩)]].toArray w fun r w' => r = .returned (.slice none 0 0) ∧ Bel w w' := by
  refine calls_of_J (args := [.slice none 0 0, .func (.func 55) #[] #[.pointer (some ⟨s, 0, none⟩)]]) (e := [(0, .slice none 0 0), (1, .func (.func 55) #[] #[.pointer (some ⟨s, 0, none⟩)])]) Tryz.func53 rfl rfl ⟨rfl, rfl, trivial⟩ (hw0.st) ?_
  refine JC.seq (fun K0 hK0 => ?_)
  refine JC.region ?_
  refine J.assign rfl rfl ?_
  refine J.nil ?_
  refine JX.thenN (hK0 _ _ ?_)
  refine JC.seq (fun K1 hK1 => ?_)
  refine JC.region ?_
  refine J.move rfl rfl ?_
  refine J.move rfl rfl ?_
  refine J.callB (v := .int .i64 (placeI [] self)) (fun w1 w2 hw hb => hw.step hb) Ty.bd70 rfl rfl (fun w1 hw => indexFunc_spec _ [] s self w1 hw.owns' (Vec.nil 24 16 |>.row (l := []) (w0 := w1) (S := []) (St.start w1)) (.inl rfl) (by decide)) ?_
  refine J.assign rfl rfl ?_
  refine J.nil ?_
  refine JX.thenN (hK1 _ _ ?_)
  refine JC.seq (fun K2 hK2 => ?_)
  refine JC.seq (fun K3 hK3 => ?_)
  refine JC.region ?_
  refine J.move rfl rfl ?_
  refine J.bin rfl rfl rfl rfl ?_
  refine J.nil ?_
  refine JX.thenN (hK3 _ _ ?_)
  first | refine JC.condT rfl ?_ | refine JC.cond rfl (fun _ => ?_) (fun h => by first | (exfalso; simp at h; omega) | (simp at h))
  refine JC.seq (fun K4 hK4 => ?_)
  refine JC.region ?_
  refine J.move rfl rfl ?_
  refine J.assign rfl rfl ?_
  refine J.nil ?_
  refine JX.thenN (hK4 _ _ ?_)
  refine JC.ret ?_
  refine JX.thenR ?_
  refine JX.ret1 rfl rfl (fun w hw => ?_)
  exact ⟨rfl, hw.same hw0 (fun p hp => by simp at hp ⊢; subst hp; simp)⟩

theorem compact_nil (w : World) :
    Calls Tryz.prog 57 [.slice none 0 0].toArray w fun r w' => r = .returned (.slice none 0 0) ∧ Bel w w' := by
  refine calls_of_J (args := [.slice none 0 0]) (e := [(0, .slice none 0 0)]) Tryz.func57 rfl rfl ⟨rfl, trivial⟩ (St.start w) ?_
  refine JC.seq (fun K0 hK0 => ?_)
  refine JC.region ?_
  refine J.assign rfl rfl ?_
  refine J.nil ?_
  refine JX.thenN (hK0 _ _ ?_)
  refine JC.seq (fun K1 hK1 => ?_)
  refine JC.seq (fun K2 hK2 => ?_)
  refine JC.region ?_
  refine J.move rfl rfl ?_
  refine J.lenS rfl Ty.u39 rfl rfl ?_
  refine J.bin rfl rfl rfl rfl ?_
  refine J.nil ?_
  refine JX.thenN (hK2 _ _ ?_)
  first | refine JC.condT rfl ?_ | refine JC.cond rfl (fun _ => ?_) (fun h => by first | (exfalso; simp at h; omega) | (simp at h))
  refine JC.seq (fun K3 hK3 => ?_)
  refine JC.region ?_
  refine J.move rfl rfl ?_
  refine J.assign rfl rfl ?_
  refine J.nil ?_
  refine JX.thenN (hK3 _ _ ?_)
  refine JC.ret ?_
  refine JX.thenR ?_
  refine JX.ret1 rfl rfl (fun w hw => ?_)
  exact ⟨rfl, hw.below⟩


theorem deleteFunc_vec (v : Value) (xs : List IDV) (lp : List (Nat × Obj)) (s : Nat) (self : IDV) (w : World) (hv : Vec 24 16 v (xs).length (fI (xs)) lp) (hw0 : Own w (lp ++ [(s, cb (cI self) 24)])) (hl : xs.length < 4611686018427387904) :
    Calls Tryz.prog 53 [v, .func (.func 55) #[] #[.pointer (some ⟨s, 0, none⟩)]].toArray w fun r w' => ∃ x : Value × List (Nat × Obj), r = .returned x.1 ∧ Vec 24 16 x.1 (delI xs self).length (fI (delI xs self)) x.2 ∧ St w ((lp ++ [(s, cb (cI self) 24)]).map (·.1)) (x.2 ++ [(s, cb (cI self) 24)]) w' := by
  rcases vecI hv with ⟨rfl, rfl, rfl⟩ | ⟨b, c, sp, rfl, rfl, h1, h2⟩
  · exact (deleteFunc_nil s self w hw0).mono fun r w' ⟨h1, h2⟩ => ⟨(.slice none 0 0, []), h1, Vec.nil _ _, hw0.keep h2⟩
  · exact (deleteFunc_spec b s c xs sp self w hw0 h2 h1 hl).mono fun r w' ⟨sp', h3, h4, h5⟩ => ⟨(_, [_]), h3, vecI_mk h4, h5⟩
theorem sort_vec (g : Nat) (cbv : Array Value) (f : IDV → Nat) (hf : ∀ a b, f a = f b → a = b) (hg : bodyT Tryz.prog g = true) (v : Value) (xs : List IDV) (lp l : List (Nat × Obj)) (w : World) (hv : Vec 24 16 v (xs).length (fI (xs)) lp) (hw0 : Own w (lp ++ l)) (hlen : xs.length < 4611686018427387904)
    (hc : ∀ (a b : IDV) (W : World), Own W l → Calls Tryz.prog g (#[.agg (cI a).toArray, .agg (cI b).toArray] ++ cbv) W fun r W' => r = .returned (.int .i64 (cfN f a b)) ∧ Bel W W') :
    Calls Tryz.prog 56 [v, .func (.func g) #[] cbv].toArray w fun r w' => ∃ x : List IDV × List (Nat × Obj), r = .returned (.tuple #[]) ∧ (x.1.Perm xs ∧ x.1.Pairwise (fun a b => f a ≤ f b) ∧ Vec 24 16 v x.1.length (fI x.1) x.2) ∧ St w (lp.map (·.1)) x.2 w' := by
  rcases vecI hv with ⟨rfl, rfl, rfl⟩ | ⟨b, c, sp, rfl, rfl, h1, h2⟩
  · exact (AnyF.slices_SortFunc_none Tryz.sortI none 0 _ w).mono fun r w' ⟨h1, h2⟩ => ⟨([], []), h1, ⟨.refl _, .nil, Vec.nil _ _⟩, by rw [h2]; exact St.start w⟩
  · refine (sort_spec g cbv f hf hg b xs sp c l w hw0 hlen hc).mono fun r w' ⟨ys, h3, h4, h5⟩ => ?_
    have hl := h4.1.length_eq
    refine ⟨(ys, [_]), h3, ⟨h4.1, h4.2, ?_⟩, h5⟩
    have := vecI_mk (xs := ys) (b := b) (c := c) (sp := sp) (by rw [List.length_append, fI_length, hl, ← fI_length, ← List.length_append]; exact h1)
    rw [hl] at this ⊢
    exact this
theorem compact_vec (v : Value) (xs : List IDV) (lp : List (Nat × Obj)) (w : World) (hv : Vec 24 16 v (xs).length (fI (xs)) lp) (hw0 : Own w lp) (hl : xs.length < 4611686018427387904) :
    Calls Tryz.prog 57 [v].toArray w fun r w' => ∃ x : Value × List (Nat × Obj), r = .returned x.1 ∧ Vec 24 16 x.1 (dedI xs).length (fI (dedI xs)) x.2 ∧ St w (lp.map (·.1)) x.2 w' := by
  rcases vecI hv with ⟨rfl, rfl, rfl⟩ | ⟨b, c, sp, rfl, rfl, h1, h2⟩
  · exact (compact_nil w).mono fun r w' ⟨h1, h2⟩ => ⟨(.slice none 0 0, []), h1, Vec.nil _ _, (St.start w).step h2⟩
  · exact (compact_spec b c xs sp w hw0 h2 h1 hl).mono fun r w' ⟨sp', h3, h4, h5⟩ => ⟨(_, [_]), h3, vecI_mk h4, h5⟩
theorem cmpI_cfN (a b : IDV) : cmpI a b = cfN valI a b := rfl

theorem sorted_spec (self : IDV) (v : Value) (xs : List IDV) (w : World) (hr : Row w v xs.length (fI xs)) (hl : xs.length ≤ 8796093022208) :
    Calls Tryz.prog 33 [.agg (cI self).toArray, v].toArray w fun r w' => ∃ x : Value × List (Nat × Obj), r = .returned x.1 ∧ Vec 24 16 x.1 (sortI xs self).length (fI (sortI xs self)) x.2 ∧ St w [] x.2 w' := by
  refine calls_of_J (args := [.agg (cI self).toArray, v]) (e := [(0, .agg (cI self).toArray), (1, v)]) Tryz.func33 rfl rfl ⟨rfl, rfl, trivial⟩ (St.start w) ?_
  refine JC.seq (fun K0 hK0 => ?_)
  refine JC.region ?_
  refine J.box rfl rfl rfl (fun b2 => ?_)
  refine J.assign rfl rfl ?_
  refine J.nil ?_
  refine JX.thenN (hK0 _ _ ?_)
  refine JC.seq (fun K1 hK1 => ?_)
  refine JC.region ?_
  refine J.move rfl rfl ?_
  refine J.callS (α := Value × List (Nat × Obj)) (V := (·.1)) (Pr := fun x => Vec 24 16 x.1 (xs).length (fI (xs)) x.2) (L := (·.2)) (l1 := []) (l := [(b2, cb (cI self) 24)]) Ty.bd54 rfl rfl (fun w1 hw => clone_spec v xs w1 (hr.st (.inr (by simp)) hw) hl) (fun x hx => ?_)
  obtain ⟨vc, lc⟩ := x
  simp only at hx ⊢
  refine J.makeFn rfl rfl ?_
  refine J.perm ((lc ++ [(b2, cb (cI self) 24)]) ++ []) (by simp) ?_
  refine J.callS (α := Value × List (Nat × Obj)) (V := (·.1)) (Pr := fun x => Vec 24 16 x.1 (delI xs self).length (fI (delI xs self)) x.2) (L := fun x => x.2 ++ [(b2, cb (cI self) 24)]) (l1 := lc ++ [(b2, cb (cI self) 24)]) (l := []) Ty.bd53 rfl rfl (fun w1 hw => deleteFunc_vec vc xs lc b2 self w1 hx hw.owns (by omega)) (fun x hd => ?_)
  obtain ⟨vd, ld⟩ := x
  simp only at hd ⊢
  refine J.perm (ld ++ [(b2, cb (cI self) 24)]) (by simp) ?_
  refine J.assign rfl rfl ?_
  refine J.nil ?_
  refine JX.thenN (hK1 _ _ ?_)
  refine JC.seq (fun K2 hK2 => ?_)
  refine JC.region ?_
  refine J.move rfl rfl ?_
  have hdl := delI_le xs self
  refine J.callS (α := List IDV × List (Nat × Obj)) (V := fun _ => .tuple #[]) (Pr := fun x => x.1.Perm (delI xs self) ∧ x.1.Pairwise (fun a b => valI a ≤ valI b) ∧ Vec 24 16 vd x.1.length (fI x.1) x.2) (L := (·.2)) (l1 := ld) (l := [(b2, cb (cI self) 24)]) Ty.bd56 rfl rfl (fun w1 hw => sort_vec 27 #[] valI (fun _ _ h => valI_inj h) Ty.bd27 vd (delI xs self) ld [] w1 hd (by simpa using hw.owns) (by omega) (fun a b W _ => by simpa [cmpI_cfN] using compare_spec a b W)) (fun x hs => ?_)
  obtain ⟨ys, ls⟩ := x
  simp only at hs ⊢
  obtain ⟨hp, hs, hvs⟩ := hs
  have hyl := hp.length_eq
  refine J.nil ?_
  refine JX.thenN (hK2 _ _ ?_)
  refine JC.seq (fun K3 hK3 => ?_)
  refine JC.region ?_
  refine J.move rfl rfl ?_
  refine J.callS (α := Value × List (Nat × Obj)) (V := (·.1)) (Pr := fun x => Vec 24 16 x.1 (dedI ys).length (fI (dedI ys)) x.2) (L := (·.2)) (l1 := ls) (l := [(b2, cb (cI self) 24)]) Ty.bd57 rfl rfl (fun w1 hw => compact_vec vd ys ls w1 hvs hw.owns (by omega)) (fun x hd2 => ?_)
  obtain ⟨ve, le⟩ := x
  simp only at hd2 ⊢
  rw [sortI_of_steps hp hs] at hd2
  have hsl := sortI_le xs self
  refine J.append (lp := []) (xs := []) (ys := fI (sortI xs self)) (k := 0) (m := (sortI xs self).length) Ty.el39 Ty.s24 Ty.b24 Ty.zID rfl (.inl ⟨24, Ty.u39⟩) rfl rfl (Vec.nil _ _) (fun w1 hw => .inl (hd2.row hw)) (fI_length _) (fun y hy => fI_one hy) (by omega) (by omega) rfl (fun v7 lp7 hv7 => ?_)
  rw [Nat.zero_add, List.nil_append] at hv7
  refine J.assign rfl rfl ?_
  refine J.nil ?_
  refine JX.thenN (hK3 _ _ ?_)
  refine JC.ret ?_
  refine JX.ret1 rfl rfl (fun w hw => ?_)
  exact ⟨(v7, lp7), rfl, hv7, hw.drop (List.sublist_append_left _ _)⟩

end Go.Proofs.YtohldionclgljaaGreat
/-
  The order clockwise from a place; MinFunc: contracts.
-/
namespace Go.Proofs.YtohldionclgljaaGreat
open Go.J Go.RowKit
set_option linter.unusedVariables false
set_option linter.unusedSimpArgs false
set_option maxRecDepth 4000
/-- how far clockwise behind a place -/
noncomputable def dI (me x : IDV) : Nat := valI (subI x me)
theorem dI_inj {me a b : IDV} (h : dI me a = dI me b) : a = b := by
  unfold dI at h
  rw [valI_subI, valI_subI] at h
  have h1 := valI_lt a
  have h2 := valI_lt b
  have h3 := valI_lt me
  exact valI_inj (by omega)

theorem want1_spec (s : Nat) (self a b : IDV) (w : World) (hw0 : Own w [(s, cb (cI self) 24)]) :
    Calls Tryz.prog 58 [.agg (cI a).toArray, .agg (cI b).toArray, .pointer (some ⟨s, 0, none⟩)].toArray w fun r w' => r = .returned (.int .i64 (cfN (dI self) a b)) ∧ Bel w w' := by
  refine calls_of_J (args := [.agg (cI a).toArray, .agg (cI b).toArray, .pointer (some ⟨s, 0, none⟩)]) (e := [(0, .agg (cI a).toArray), (1, .agg (cI b).toArray), (2, .pointer (some ⟨s, 0, none⟩))]) Tryz.func58 rfl rfl ⟨rfl, rfl, rfl, trivial⟩ (hw0.st) ?_
  refine JC.seq (fun K0 hK0 => ?_)
  refine JC.region ?_
  refine J.box rfl rfl rfl (fun b3 => ?_)
  refine J.box rfl rfl rfl (fun b4 => ?_)
  refine J.assign rfl rfl ?_
  refine J.nil ?_
  refine JX.thenN (hK0 _ _ ?_)
  refine JC.seq (fun K1 hK1 => ?_)
  apply JC.drawL 7 [Eqv (.agg (cI a).toArray), Eqv (.agg (cI self).toArray), Eqv (.agg (cI (subI a self)).toArray), Eqv (.agg (cI b).toArray), Eqv (.agg (cI self).toArray), Eqv (.agg (cI (subI b self)).toArray), Eqv (.int .i64 (cfN (dI self) a b))] Ty.mixed rfl rfl rfl (by kernel_rfl) rfl rfl (fun w w' hw hb => hw.step hb) ⟨fun _ _ _ h _ => h, fun _ _ _ h _ => h, fun _ _ _ h _ => h, fun _ _ _ h _ => h, fun _ _ _ h _ => h, fun _ _ _ h _ => h, fun _ _ _ h _ => h, trivial⟩ ?hstep ?htail
  case hstep =>
    refine ⟨fun wi => ?_, fun wi => ?_, fun wi => ?_, fun wi => ?_, fun wi => ?_, fun wi => ?_, fun wi => ?_, trivial⟩
    · skip
      refine Fin.nil ?_
      refine J.loadA (vs := cI a) Ty.a24 Ty.s24 rfl rfl (fun w hw => Cells.of_block (hw.2.own (_, _) (by repeat first | exact .head _ | apply List.Mem.tail | apply List.mem_append_right)) (by exact rfl)) rfl ?_
      exact J.finP rfl
    · skip
      refine Fin.nil ?_
      refine J.loadA (vs := cI self) Ty.a24 Ty.s24 rfl rfl (fun w hw => Cells.of_block (hw.2.own (_, _) (by repeat first | exact .head _ | apply List.Mem.tail | apply List.mem_append_right)) (by exact rfl)) rfl ?_
      exact J.finP rfl
    · skip
      refine Fin.consE rfl (Fin.consE rfl (Fin.nil ?_))
      refine J.callD (v := .agg (cI (subI a self)).toArray) Ty.bd59 rfl rfl (fun w1 hw => sub_spec a self w1) ?_
      exact J.finQ rfl
    · skip
      refine Fin.nil ?_
      refine J.loadA (vs := cI b) Ty.a24 Ty.s24 rfl rfl (fun w hw => Cells.of_block (hw.2.own (_, _) (by repeat first | exact .head _ | apply List.Mem.tail | apply List.mem_append_right)) (by exact rfl)) rfl ?_
      exact J.finP rfl
    · skip
      refine Fin.nil ?_
      refine J.loadA (vs := cI self) Ty.a24 Ty.s24 rfl rfl (fun w hw => Cells.of_block (hw.2.own (_, _) (by repeat first | exact .head _ | apply List.Mem.tail | apply List.mem_append_right)) (by exact rfl)) rfl ?_
      exact J.finP rfl
    · skip
      refine Fin.consE rfl (Fin.consE rfl (Fin.consE rfl (Fin.nil ?_)))
      refine J.callD (v := .agg (cI (subI b self)).toArray) Ty.bd59 rfl rfl (fun w1 hw => sub_spec b self w1) ?_
      exact J.finQ rfl
    · skip
      refine Fin.consE rfl (Fin.consE rfl (Fin.consE rfl (Fin.nil ?_)))
      refine J.callD (v := .int .i64 (cfN (dI self) a b)) Ty.bd27 rfl rfl (fun w1 hw => compare_spec (subI a self) (subI b self) w1) ?_
      exact J.finQ rfl
  case htail =>
    refine Fin.consE rfl (Fin.consE rfl (Fin.consE rfl (Fin.consE rfl (Fin.consE rfl (Fin.consE rfl (Fin.consE rfl (Fin.nil ?_)))))))
    refine J.assign rfl rfl ?_
    refine J.nil ?_
    refine JX.thenN (hK1 _ _ ?_)
    refine JC.ret ?_
    refine JX.ret1 rfl rfl (fun w hw => ?_)
    exact ⟨rfl, hw.same hw0 (fun p hp => by simp at hp ⊢; subst hp; simp)⟩

end Go.Proofs.YtohldionclgljaaGreat
/-
  MinFunc as ring.Next calls it; ring.Next: contracts.
-/
namespace Go.Proofs.YtohldionclgljaaGreat
open Go.J Go.RowKit
set_option linter.unusedVariables false
set_option linter.unusedSimpArgs false
set_option maxRecDepth 4000
theorem cfN_neg {f : IDV → Nat} {a b : IDV} : cfN f a b < 0 ↔ f a < f b := by
  unfold cfN
  split
  · simp [*]
  · split <;> simp [*]
structure MS where
  i : Nat
  m : IDV
structure MinInv (f : IDV → Nat) (xs : List IDV) (s : MS) : Prop where
  h1 : 1 ≤ s.i
  hi : s.i ≤ xs.length
  hm : s.m ∈ xs
  le : ∀ j y, j < s.i → xs[j]? = some y → f s.m ≤ f y
theorem MinInv.done {f : IDV → Nat} {xs : List IDV} {i : Nat} {m : IDV} (h : MinInv f xs ⟨i, m⟩) (hi : i = xs.length) : m ∈ xs ∧ ∀ y, y ∈ xs → f m ≤ f y := by
  refine ⟨h.hm, fun y hy => ?_⟩
  obtain ⟨j, hj, rfl⟩ := List.getElem_of_mem hy
  exact h.le j _ (by simp only; omega) (List.getElem?_eq_getElem hj)
theorem MinInv.start {f : IDV → Nat} {xs : List IDV} {m : IDV} (h : xs[0]? = some m) : MinInv f xs ⟨1, m⟩ := by
  have hl := (List.getElem?_eq_some_iff.1 h).1
  refine ⟨Nat.le_refl _, hl, ?_, fun j y hj hy => ?_⟩
  · exact List.mem_of_getElem? h
  · have : j = 0 := by simp only at hj; omega
    subst this
    rw [h] at hy
    cases hy
    exact Nat.le_refl _
theorem MinInv.next {f : IDV → Nat} {xs : List IDV} {i : Nat} {m m' : IDV} (h : MinInv f xs ⟨i, m⟩) (hlt : i < xs.length) (hm : m' = m ∨ m' = xs[i]) (h1 : f m' ≤ f m) (h2 : f m' ≤ f xs[i]) : MinInv f xs ⟨i + 1, m'⟩ := by
  refine ⟨by simp only; omega, hlt, ?_, fun j y hj hy => ?_⟩
  · rcases hm with rfl | rfl
    · exact h.hm
    · exact List.getElem_mem hlt
  · rcases Nat.lt_or_ge j i with hji | hji
    · exact Nat.le_trans h1 (h.le j y hji hy)
    · have : j = i := by simp only at hj; omega
      subst this
      rw [List.getElem?_eq_getElem hlt] at hy
      cases hy
      exact h2

end Go.Proofs.YtohldionclgljaaGreat
