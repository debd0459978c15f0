/-
  TearAlong: the plain law.
-/
import Derived.Test.YtohldionclgljaaPf
namespace Go.Proofs.Ytohldionclgljaa
open Go.J Go.RowKit
set_option linter.unusedVariables false
set_option linter.unusedSimpArgs false
set_option maxRecDepth 8000
def addW (w : List Int) (n : Int) : List Int := if (0 ≤ n ∧ n < 6) ∧ ∀ m, m ∈ w → m ≠ n then w ++ [n] else w
/-- the places of a line -/
def lineW (way : List Int) : List Int := way.foldl addW []
theorem lineW_snoc (l : List Int) (n : Int) : lineW (l ++ [n]) = addW (lineW l) n := by
  unfold lineW
  rw [List.foldl_append]
  rfl
theorem lineW_step {way : List Int} {i : Nat} {n : Int} (h : way[i]? = some n) : lineW (way.take (i + 1)) = addW (lineW (way.take i)) n := by
  obtain ⟨hi, rfl⟩ := List.getElem?_eq_some_iff.1 h
  rw [take_add_one hi, lineW_snoc]
structure GoodW (w : List Int) : Prop where
  dist : w.Pairwise (fun m n => m ≠ n)
  rng : ∀ n, n ∈ w → 0 ≤ n ∧ n < 6
theorem GoodW.add {w : List Int} (h : GoodW w) (n : Int) : GoodW (addW w n) := by
  unfold addW
  split
  · rename_i hn
    refine ⟨List.pairwise_append.2 ⟨h.dist, by simp, fun a ha b hb => ?_⟩, fun m hm => ?_⟩
    · simp at hb; subst hb; exact hn.2 a ha
    · rcases List.mem_append.1 hm with hm | hm
      · exact h.rng m hm
      · simp at hm; subst hm; exact hn.1
  · exact h
theorem lineW_good (way : List Int) : GoodW (lineW way) := by
  have key : ∀ (l w : List Int), GoodW w → GoodW (l.foldl addW w) := by
    intro l
    induction l with
    | nil => intro w h; exact h
    | cons n l ih => intro w h; exact ih _ (h.add n)
  exact key way [] ⟨by simp, fun n h => by cases h⟩
theorem lineW_len (way : List Int) : (lineW way).length ≤ way.length := by
  have key : ∀ (l w : List Int), (l.foldl addW w).length ≤ w.length + l.length := by
    intro l
    induction l with
    | nil => intro w; exact Nat.le_refl _
    | cons n l ih =>
      intro w
      refine Nat.le_trans (ih _) ?_
      have : (addW w n).length ≤ w.length + 1 := by unfold addW; split <;> simp
      simp only [List.length_cons]
      omega
  have h := key way []
  rw [List.length_nil, Nat.zero_add] at h
  exact h
def preW (w : List Int) (i : Nat) : Int := if 0 < i then w.getD (i - 1) 0 else -1
def nxtW (w : List Int) (i : Nat) : Int := if i + 1 < w.length then w.getD (i + 1) 0 else -1
def id2 : IDV := fun i => if i = 0 then 2 else 0
/-- a place's entry -/
def lineE (p : PV) (w : List Int) (i : Nat) : EV := ⟨p, idB, id2, preW w i, nxtW w i⟩
theorem getD_mem {w : List Int} {i : Nat} (h : i < w.length) : w.getD i 0 ∈ w := by
  rw [List.getD_eq_getElem?_getD, List.getElem?_eq_getElem h]
  exact List.getElem_mem h
theorem GoodW.ne {w : List Int} (h : GoodW w) {i j : Nat} (hi : i < j) (hj : j < w.length) : w.getD i 0 ≠ w.getD j 0 := by
  rw [List.getD_eq_getElem?_getD, List.getD_eq_getElem?_getD, List.getElem?_eq_getElem hj, List.getElem?_eq_getElem (by omega)]
  exact List.pairwise_iff_getElem.1 h.dist i j (by omega) hj hi
theorem pre_rng {w : List Int} (h : GoodW w) {i : Nat} (hi : i < w.length) : -1 ≤ preW w i ∧ preW w i < 6 := by
  unfold preW
  split
  · have := h.rng _ (getD_mem (w := w) (i := i - 1) (by omega)); omega
  · omega
theorem nxt_rng {w : List Int} (h : GoodW w) (i : Nat) : -1 ≤ nxtW w i ∧ nxtW w i < 6 := by
  unfold nxtW
  split
  · have := h.rng _ (getD_mem (w := w) (i := i + 1) (by omega)); omega
  · omega
theorem pre_ne_nxt {w : List Int} (h : GoodW w) {i : Nat} (hi : i < w.length) (h2 : 2 ≤ w.length) : preW w i ≠ nxtW w i := by
  unfold preW nxtW
  split <;> split
  · exact h.ne (by omega) (by omega)
  · have := h.rng _ (getD_mem (w := w) (i := i - 1) (by omega)); omega
  · have := h.rng _ (getD_mem (w := w) (i := i + 1) (by omega)); omega
  · omega
theorem okE_line {p : PV} (hp : okN p.n) {w : List Int} (h : GoodW w) {i : Nat} (hi : i < w.length) : okE (lineE p w i) := by
  have h1 := pre_rng h hi
  have h2 := nxt_rng h i
  refine ⟨hp, okN1 ?_ ?_, okN1 ?_ ?_⟩ <;> simp only [lineE] <;> omega
theorem id2_ne : idB ≠ id2 := fun e => by have := congrFun e 0; simp [idB, id2] at this
theorem right_line {p : PV} {w : List Int} (h : GoodW w) {i : Nat} (hi : i < w.length) (h2 : 2 ≤ w.length) : rightP (lineE p w i) :=
  ⟨id2_ne, pre_rng h hi, nxt_rng h i, pre_ne_nxt h hi h2⟩
theorem tadd_line {p : PV} {w : List Int} (h : GoodW w) {i : Nat} (hi : i < w.length) (h2 : 2 ≤ w.length) : (tadd [] 2 (lineE p w i)).2 = [lineE p w i] := by
  rw [tadd_ok (right_line h hi h2) rfl (by decide)]
  rfl
theorem tget_self (x : EV) : tget [x] x.p = some x := by unfold tget; simp
theorem del_self (x : EV) : delL [x] x.p = [] := by unfold delL; simp
theorem dead_line {p : PV} {w : List Int} (h : GoodW w) {i : Nat} (hi : i + 1 < w.length) : deadT [lineE p w i] (w.getD (i + 1) 0) = (hopT (preW w i) p noT, []) := by
  have h0 := (h.rng _ (getD_mem hi)).1
  have hn : nxtW w i = w.getD (i + 1) 0 := if_pos hi
  have hv : viaB (w.getD (i + 1) 0) (lineE p w i) = true := by
    unfold viaB
    rw [show (lineE p w i).nb = w.getD (i + 1) 0 from hn]
    simp only [decide_true, Bool.or_true, Bool.and_true]
    exact decide_eq_true h0
  unfold deadT
  rw [ordE_one, List.filter_cons, if_pos hv, List.filter_nil, List.foldl_cons, List.foldl_nil]
  have hne := pre_ne_nxt h (i := i) (by omega) (by omega)
  rw [hn] at hne
  show (hopT (if preW w i = w.getD (i + 1) 0 then nxtW w i else preW w i) p noT, delL [lineE p w i] (lineE p w i).p) = _
  rw [if_neg hne, del_self]
theorem drop_line {p : PV} {w : List Int} (h : GoodW w) {i : Nat} (hi : i + 1 < w.length) : dropT [lineE p w i] (w.getD (i + 1) 0) p = (hopT (preW w i) p noT, []) := by
  have h0 := (h.rng _ (getD_mem hi)).1
  have hn : nxtW w i = w.getD (i + 1) 0 := if_pos hi
  have hne := pre_ne_nxt h (i := i) (by omega) (by omega)
  rw [hn] at hne
  unfold dropT
  rw [show tget [lineE p w i] p = some (lineE p w i) from tget_self (lineE p w i)]
  simp only
  rw [if_neg (by simp only [lineE]; rw [hn]; rintro (h | ⟨_, h⟩); exact absurd h (by omega); exact h rfl)]
  rw [show (lineE p w i).na = preW w i from rfl, if_neg hne]
  exact congrArg _ (del_self (lineE p w i))
theorem hop_in {w : List Int} (h : GoodW w) {i : Nat} (hi : 0 < i) (hl : i < w.length) (p : PV) : hopT (preW w i) p noT = ⟨[(w.getD (i - 1) 0, p)], []⟩ := by
  have h1 : preW w i = w.getD (i - 1) 0 := if_pos hi
  have h0 := (h.rng _ (getD_mem (w := w) (i := i - 1) (by omega))).1
  unfold hopT
  rw [h1, if_pos h0]
  rfl
theorem hop_end (w : List Int) (p : PV) : hopT (preW w 0) p noT = ⟨[], [p]⟩ := rfl
/-- a node's table in memory -/
structure NT where
  t : Nat
  m : Nat
  L : List EV
  es : Array MapEntry
  ck : Nat
abbrev NT.blk (x : NT) : List (Nat × Obj) := [(x.t, tabO 2 x.m), (x.m, .map x.es x.ck)]
def blks (ts : List NT) : List (Nat × Obj) := ts.flatMap NT.blk
abbrev ptT (x : NT) : Value := .pointer (some ⟨x.t, 0, none⟩)
abbrev pts (ts : List NT) : List Value := ts.map ptT
theorem blks_snoc (ts : List NT) (x : NT) : blks (ts ++ [x]) = blks ts ++ x.blk := by simp [blks]
theorem cnt_set (a : Nat × Obj) : ∀ (ts : List NT) (i : Nat) (y : NT), i < ts.length → cntB a (blks (ts.set i y)) = cntB a (blks (ts.eraseIdx i)) + cntB a y.blk
  | x :: ts, 0, y, _ => by
    show cntB a (y.blk ++ blks ts) = cntB a (blks ts) + cntB a y.blk
    rw [cntB_append]; omega
  | x :: ts, i + 1, y, h => by
    show cntB a (x.blk ++ blks (ts.set i y)) = cntB a (x.blk ++ blks (ts.eraseIdx i)) + cntB a y.blk
    rw [cntB_append, cntB_append, cnt_set a ts i y (by simpa using h)]; omega
theorem cnt_at (a : Nat × Obj) {ts : List NT} {i : Nat} {x : NT} (h : ts[i]? = some x) : cntB a (blks ts) = cntB a (blks (ts.eraseIdx i)) + cntB a x.blk := by
  obtain ⟨hi, rfl⟩ := List.getElem?_eq_some_iff.1 h
  have := cnt_set a ts i ts[i] hi
  rwa [List.set_getElem_self] at this
theorem pts_set {ts : List NT} {i : Nat} {x y : NT} (h : ts[i]? = some x) (hy : y.t = x.t) : pts (ts.set i y) = pts ts := by
  obtain ⟨hi, rfl⟩ := List.getElem?_eq_some_iff.1 h
  have e : ptT y = ptT ts[i] := by unfold ptT; rw [hy]
  show (ts.set i y).map ptT = ts.map ptT
  rw [List.map_set, e, ← List.map_set, List.set_getElem_self]
theorem row1_at {w : World} {b o k c q i : Nat} {vs : List Value} {v : Value} (h : Row w (.slice (some ⟨b, o, none⟩) k c) k vs) (hi : vs[i]? = some v) (hq : q = o + i) : w.cell? ⟨b, q, none⟩ = some v := by
  have hl : i < vs.length := (List.getElem?_eq_some_iff.1 hi).1
  obtain ⟨b', o', c', hv, _, hc⟩ := Row.some h (by omega)
  simp only [Value.slice.injEq, Option.some.injEq, Addr.mk.injEq] at hv
  obtain ⟨⟨rfl, rfl, _⟩, _, rfl⟩ := hv
  exact hc.get (i := i) hi hq
theorem ptAt {ts : List NT} {i : Nat} {x : NT} (h : ts[i]? = some x) : (pts ts)[i]? = some (ptT x) := by rw [List.getElem?_map, h]; rfl
/-- the tables of a line -/
def TabsOf (ts : List NT) (F : Nat → List EV) : Prop := ∀ i x, ts[i]? = some x → Tab x.L x.es x.ck ∧ x.L = F i
theorem TabsOf.snoc {ts : List NT} {F : Nat → List EV} (h : TabsOf ts F) {x : NT} (h1 : Tab x.L x.es x.ck) (h2 : x.L = F ts.length) : TabsOf (ts ++ [x]) F := by
  intro i y hy
  rcases Nat.lt_or_ge i ts.length with hi | hi
  · rw [List.getElem?_append_left hi] at hy; exact h i y hy
  · rw [List.getElem?_append_right hi] at hy
    have h0 : i - ts.length = 0 := by
      rcases Nat.eq_zero_or_pos (i - ts.length) with h | h
      · exact h
      · rw [List.getElem?_eq_none (by simp; omega)] at hy; cases hy
    rw [h0] at hy
    simp at hy
    subst hy
    have : i = ts.length := by omega
    subst this
    exact ⟨h1, h2⟩
theorem TabsOf.set {ts : List NT} {F : Nat → List EV} (h : TabsOf ts F) {k : Nat} {y : NT} (h1 : Tab y.L y.es y.ck) : TabsOf (ts.set k y) (fun i => if i = k then y.L else F i) := by
  intro i z hz
  rw [List.getElem?_set] at hz
  split at hz
  · rename_i e
    split at hz
    · simp at hz; subst hz; simp only; rw [if_pos e.symm]; exact ⟨h1, rfl⟩
    · cases hz
  · rename_i e
    simp only
    rw [if_neg (fun h => e h.symm)]
    exact h i z hz
theorem TabsOf.to {ts : List NT} {F G : Nat → List EV} (h : TabsOf ts F) (he : ∀ i, i < ts.length → F i = G i) : TabsOf ts G := by
  intro i x hx
  obtain ⟨h1, h2⟩ := h i x hx
  exact ⟨h1, h2.trans (he i (List.getElem?_eq_some_iff.1 hx).1)⟩
theorem set_na (p : PV) (a b : IDV) (m n k : Int) : setMany (cE ⟨p, a, b, m, n⟩) 49 [.int .i64 k] = cE ⟨p, a, b, k, n⟩ := rfl
theorem set_nb (p : PV) (a b : IDV) (m n k : Int) : setMany (cE ⟨p, a, b, m, n⟩) 50 [.int .i64 k] = cE ⟨p, a, b, m, k⟩ := rfl
end Go.Proofs.Ytohldionclgljaa
