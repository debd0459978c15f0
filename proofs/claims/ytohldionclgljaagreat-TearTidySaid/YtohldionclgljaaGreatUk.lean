/-
  A table that entries are put into; TableNew and TableUndo: the walks.
-/
import Derived.Test.YtohldionclgljaaGreatUj
namespace Go.Proofs.YtohldionclgljaaGreat
open Go.J Go.RowKit
set_option linter.unusedVariables false
set_option linter.unusedSimpArgs false
set_option maxRecDepth 4000
/-- the entries of a table, after some were handed in -/
def laidL (most : Int) (l : List EV) : List EV := l.foldl (fun L x => (tadd L most x).2) []
theorem laidL_snoc (most : Int) (l : List EV) (x : EV) : laidL most (l ++ [x]) = (tadd (laidL most l) most x).2 := by
  unfold laidL
  rw [List.foldl_append]
  rfl
structure GoodL (L : List EV) (most : Int) : Prop where
  right : ∀ x, x ∈ L → rightP x
  len : (L.length : Int) ≤ max most 0
theorem tadd_cases (L : List EV) (most : Int) (x : EV) : ((tadd L most x).1 = 0 ∧ (tadd L most x).2 = L ++ [x] ∧ rightP x ∧ tget L x.p = none ∧ (L.length : Int) < most) ∨
    ((tadd L most x).1 ≠ 0 ∧ (tadd L most x).2 = L ∧ (rightP x → tget L x.p = none → most ≤ (L.length : Int))) := by
  unfold tadd
  by_cases h1 : rightP x
  · rw [if_neg (by simpa using h1)]
    by_cases h2 : (tget L x.p).isSome = true
    · rw [if_pos h2]
      exact .inr ⟨by simp, rfl, fun _ h3 => by rw [h3] at h2; cases h2⟩
    · rw [if_neg h2]
      by_cases h3 : most ≤ (L.length : Int)
      · rw [if_pos h3]
        exact .inr ⟨by simp, rfl, fun _ _ => h3⟩
      · rw [if_neg h3]
        refine .inl ⟨rfl, rfl, h1, ?_, by omega⟩
        cases h : tget L x.p with
        | none => rfl
        | some y => rw [h] at h2; simp at h2
  · rw [if_pos h1]
    exact .inr ⟨by simp, rfl, fun h => absurd h h1⟩
theorem GoodL.add {L : List EV} {most : Int} (h : GoodL L most) (x : EV) : GoodL (tadd L most x).2 most := by
  rcases tadd_cases L most x with ⟨_, h2, h3, _, h5⟩ | ⟨_, h2, _⟩
  · rw [h2]
    refine ⟨fun y hy => ?_, by rw [List.length_append, List.length_singleton]; omega⟩
    rcases List.mem_append.1 hy with hy | hy
    · exact h.right y hy
    · rw [List.mem_singleton.1 hy]; exact h3
  · rw [h2]; exact h
theorem laidL_good (most : Int) (l : List EV) : GoodL (laidL most l) most := by
  have key : ∀ (l L : List EV), GoodL L most → GoodL (l.foldl (fun L x => (tadd L most x).2) L) most := by
    intro l
    induction l with
    | nil => intro L h; exact h
    | cons x l ih => intro L h; exact ih _ (h.add x)
  exact key l [] ⟨(fun x h => by cases h), (by show ((0 : Nat) : Int) ≤ _; omega)⟩
def delL (L : List EV) (p : PV) : List EV := L.filter (fun y => decide (y.p ≠ p))
theorem perm_sorted_mem {α : Type} {le : α → α → Prop} : ∀ {l m : List α}, (∀ a b, a ∈ l → b ∈ l → le a b → le b a → a = b) → l.Perm m → l.Pairwise le → m.Pairwise le → l = m
  | [], m, _, hp, _, _ => (List.Perm.nil_eq hp)
  | a :: l, [], _, hp, _, _ => by have := hp.length_eq; simp at this
  | a :: l, b :: m, anti, hp, hl, hm => by
    have hl' := List.pairwise_cons.1 hl
    have hm' := List.pairwise_cons.1 hm
    have hbl : b ∈ a :: l := hp.mem_iff.2 (.head _)
    have hab : a = b := by
      rcases List.mem_cons.1 (hp.mem_iff.1 (.head _) : a ∈ b :: m) with h | h
      · exact h
      · rcases List.mem_cons.1 hbl with h2 | h2
        · exact h2.symm
        · exact anti a b (.head _) hbl (hl'.1 b h2) (hm'.1 a h)
    subst hab
    rw [perm_sorted_mem (fun x y hx hy => anti x y (.tail _ hx) (.tail _ hy)) (List.Perm.cons_inv hp) hl'.2 hm'.2]
theorem eq_of_p {L : List EV} (hd : L.Pairwise (fun x y => x.p ≠ y.p)) {x y : EV} (hx : x ∈ L) (hy : y ∈ L) (h : x.p = y.p) : x = y := by
  have h1 := tget_some hd hx
  have h2 := tget_some hd hy
  rw [h, h2] at h1
  exact (Option.some.inj h1).symm
theorem sorted_congr {A B : List EV} (hd : A.Pairwise (fun x y => x.p ≠ y.p)) (hq : A.Perm B) (s1 : A.Pairwise (fun a b => ltP b.p a.p = false)) (s2 : B.Pairwise (fun a b => ltP b.p a.p = false)) : A = B := by
  have anti : ∀ a b, a ∈ A → b ∈ A → ltP b.p a.p = false → ltP a.p b.p = false → a = b := fun a b ha hb h1 h2 => eq_of_p hd ha hb (ltP_total h2 h1)
  exact perm_sorted_mem anti hq s1 s2
theorem ordE_congr {L M : List EV} (hp : L.Perm M) (hd : L.Pairwise (fun x y => x.p ≠ y.p)) : ordE L = ordE M :=
  sorted_congr ((ordE_perm L).symm.pairwise hd (fun {a b} h => h.symm)) ((ordE_perm L).trans (hp.trans (ordE_perm M).symm)) (ordE_sorted L) (ordE_sorted M)
theorem del_add {L : List EV} {x : EV} (h : tget L x.p = none) : delL (L ++ [x]) x.p = L := by
  unfold delL
  rw [List.filter_append, filter_no h]
  simp
theorem add_del {L : List EV} {p : PV} {y : EV} (hd : L.Pairwise (fun x y => x.p ≠ y.p)) (h : tget L p = some y) : (delL L p ++ [y]).Perm L ∧ y.p = p ∧ y ∈ L ∧ tget (delL L p) p = none ∧ (delL L p).length + 1 = L.length := by
  have hy := List.mem_of_find?_eq_some h
  have hp : y.p = p := by simpa using List.find?_some h
  obtain ⟨j, hj, hje⟩ := List.getElem_of_mem hy
  have he := erase_filter hd (show L[j]? = some y by rw [List.getElem?_eq_getElem hj, hje])
  rw [hp] at he
  have hdl : delL L p = L.eraseIdx j := he.symm
  refine ⟨?_, hp, hy, tget_none.2 fun x hx => ?_, ?_⟩
  · have hL : L = L.take j ++ L[j] :: L.drop (j + 1) := by rw [List.getElem_cons_drop, List.take_append_drop]
    rw [hdl, List.eraseIdx_eq_take_drop_succ, ← hje]
    refine (List.perm_append_comm).trans ?_
    refine List.Perm.trans ?_ (List.Perm.of_eq hL.symm)
    show (L[j] :: (L.take j ++ L.drop (j + 1))).Perm _
    exact List.perm_middle.symm
  · unfold delL at hx
    rw [List.mem_filter, decide_eq_true_eq] at hx
    exact hx.2
  · rw [hdl, List.length_eraseIdx_of_lt hj]
    omega
theorem ordE_ok {L : List EV} {es : Array MapEntry} {clock : Nat} (hT : Tab L es clock) : ∀ x, x ∈ ordE L → okE x := fun x hx => hT.ok x ((ordE_perm L).mem_iff.1 hx)

def Blk (v : Value) (n : Nat) (lp : List (Nat × Obj)) : Prop := n = 0 ∨ ∃ q c cs, v = .slice (some ⟨q, 0, none⟩) n c ∧ lp = [(q, cb cs 33)] ∧ cs.length = c * 51 ∧ n ≤ c
theorem blk_of {v : Value} {xs : List EV} {lp : List (Nat × Obj)} (h : Vec 33 51 v xs.length (fE xs) lp) : Blk v xs.length lp := by
  rcases h.2 with ⟨_, h2, _⟩ | ⟨b, c, sp, h1, h2, h3, h4⟩
  · exact .inl h2
  · exact .inr ⟨b, c, _, h1, h2, h3, h4⟩
theorem blk_pos {a : Option Addr} {n c : Nat} {lp : List (Nat × Obj)} (h : Blk (.slice a n c) n lp) (h0 : 0 < n) : ∃ q cs, a = some ⟨q, 0, none⟩ ∧ lp = [(q, cb cs 33)] ∧ cs.length = c * 51 ∧ n ≤ c := by
  rcases h with h | ⟨q, c', cs, h1, h2, h3, h4⟩
  · omega
  · simp only [Value.slice.injEq] at h1
    obtain ⟨rfl, _, rfl⟩ := h1
    exact ⟨q, cs, rfl, h2, h3, h4⟩


end Go.Proofs.YtohldionclgljaaGreat
