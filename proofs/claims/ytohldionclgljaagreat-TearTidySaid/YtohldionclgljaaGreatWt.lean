/-
  TearTidy: the plain law.
-/
import Derived.Test.YtohldionclgljaaGreatWc
namespace Go.Proofs.YtohldionclgljaaGreat
open Go.J Go.RowKit
set_option linter.unusedVariables false
set_option linter.unusedSimpArgs false
set_option maxRecDepth 8000
/-- the own entries, by paths -/
def ownL (L : List EV) : List EV := (ordE L).filter ownB
theorem own_mem {L : List EV} {x : EV} : x ∈ ownL L ↔ x ∈ L ∧ ownB x = true := by
  unfold ownL
  rw [List.mem_filter, (ordE_perm L).mem_iff]
theorem own_del {L : List EV} (hd : L.Pairwise (fun x y => x.p ≠ y.p)) (p : PV) : ownL (delL L p) = (ownL L).filter (fun y => decide (y.p ≠ p)) := by
  unfold ownL
  rw [← del_ord hd, List.filter_filter, List.filter_filter]
  congr 1
  funext y
  rw [Bool.and_comm]
  rfl
/-- End at an own path takes just it away -/
theorem end_own {L : List EV} {p : PV} (h : ∀ x, x ∈ L → x.p = p → ownB x = true) : (endT L p).2 = delL L p := by
  unfold endT
  cases hg : tget L p with
  | none => exact (filter_no hg).symm
  | some x =>
    have hx := List.mem_of_find?_eq_some hg
    have hp : x.p = p := by simpa using List.find?_some hg
    have ho := h x hx hp
    simp only
    rw [if_neg]
    rintro ⟨h1, h2⟩
    unfold ownB at ho
    simp at ho
    omega
theorem mem_tw {O : List EV} : ∀ (n j : Nat) (x : EV), j < n → O[j]? = some x → othE x ∈ (O.take j).map othE → x.p ∈ twP O n
  | n + 1, j, x, hj, hx, hm => by
    rcases Nat.lt_or_ge j n with h | h
    · exact List.mem_append_left _ (mem_tw n j x h hx hm)
    · have : j = n := by omega
      subst this
      rw [tw_yes hx hm]
      simp
theorem tw_mem {O : List EV} : ∀ (n : Nat) (p : PV), p ∈ twP O n → ∃ x, x ∈ O ∧ x.p = p
  | 0, p, h => by cases h
  | n + 1, p, h => by
    rcases List.mem_append.1 h with h | h
    · exact tw_mem n p h
    · cases hx : O[n]? with
      | none => rw [hx] at h; cases h
      | some x =>
        rw [hx] at h
        simp only at h
        split at h
        · simp at h; exact ⟨x, List.mem_of_getElem? hx, h.symm⟩
        · cases h
/-- own paths with distinct ends -/
def OneEach (O : List EV) : Prop := O.Pairwise (fun x y => othE x ≠ othE y)
theorem one_tw {O O' : List EV} (hs : O'.Sublist O) (h : ∀ y, y ∈ O' → ¬ y.p ∈ twP O O.length) : OneEach O' := by
  have e : O'.filter (fun y => decide (¬ y.p ∈ twP O O.length)) = O' := List.filter_eq_self.2 fun y hy => by simpa using h y hy
  have h2 := hs.filter (fun y => decide (¬ y.p ∈ twP O O.length))
  rw [e] at h2
  refine List.Pairwise.sublist h2 (List.pairwise_filter.2 (List.pairwise_iff_getElem.2 fun i j hi hj hij _ hcj he => ?_))
  have hm := mem_tw O.length j O[j] hj (List.getElem?_eq_getElem hj) (by
    rw [← he]
    refine List.mem_map_of_mem (List.mem_of_getElem? (i := i) ?_)
    rw [List.getElem?_take_of_lt hij, List.getElem?_eq_getElem hi])
  simp at hcj
  exact hcj hm
theorem tw_nil {O : List EV} (h : OneEach O) : ∀ n, n ≤ O.length → twP O n = []
  | 0, _ => rfl
  | n + 1, hn => by
    have hx : O[n]? = some O[n] := List.getElem?_eq_getElem (by omega)
    rw [tw_no hx, tw_nil h n (by omega)]
    intro hm
    obtain ⟨y, hy, e⟩ := List.mem_map.1 hm
    obtain ⟨j, hj, rfl⟩ := List.getElem_of_mem hy
    rw [List.length_take] at hj
    rw [List.getElem_take] at e
    exact List.pairwise_iff_getElem.1 h j n (by omega) (by omega) (by omega) e
theorem fr_mem {O : List EV} {me z : IDV} : z ∈ frI O me ↔ z ∈ O.map othE ∧ z ≠ me := sortI_mem _ _ _
theorem fr_count {O : List EV} {me : IDV} (h : OneEach O) (hm : ∀ y, y ∈ O → othE y ≠ me) : (frI O me).length = O.length := by
  have n1 : (O.map othE).Nodup := List.pairwise_map.2 h
  have n2 : (frI O me).Nodup := List.Pairwise.imp (fun {a b} hab => by intro e; subst e; exact absurd hab (Nat.lt_irrefl _)) (sortI_asc (O.map othE) me)
  have hp : (frI O me).Perm (O.map othE) := (List.perm_ext_iff_of_nodup n2 n1).2 fun z => by
    rw [fr_mem]
    exact ⟨fun h => h.1, fun h => ⟨h, by obtain ⟨y, hy, rfl⟩ := List.mem_map.1 h; exact hm y hy⟩⟩
  rw [hp.length_eq, List.length_map]
theorem want_all {O : List EV} {me : IDV} {half : Int} (hs : spP O (wnI O me half) = []) : wantI me (frI O me) half = frI O me := by
  have e : sortI (frI O me) me = frI O me := (sortI_of (sortI_asc _ _) fun z => ⟨fun h => ⟨h, (fr_mem.1 h).2⟩, fun h => h.1⟩).symm
  rw [wantI_eq, e]
  refine List.filter_eq_self.2 fun z hz => ?_
  obtain ⟨hz1, _⟩ := fr_mem.1 hz
  obtain ⟨y, hy, rfl⟩ := List.mem_map.1 hz1
  have hw : othE y ∈ wnI O me half := by
    by_cases h : othE y ∈ wnI O me half
    · exact h
    · have : y.p ∈ spP O (wnI O me half) := List.mem_map_of_mem (List.mem_filter.2 ⟨hy, by simpa using h⟩)
      rw [hs] at this
      cases this
  unfold wnI at hw
  rw [wantI_eq, e] at hw
  exact (List.mem_filter.1 hw).2
theorem sp_head {O : List EV} {W : List IDV} {p : PV} {l : List PV} (h : spP O W = p :: l) : ∃ x, x ∈ O ∧ x.p = p := by
  have hp : p ∈ spP O W := by rw [h]; exact .head _
  obtain ⟨x, hx, rfl⟩ := List.mem_map.1 hp
  exact ⟨x, (List.mem_filter.1 hx).1, rfl⟩
theorem del_less {O : List EV} {x : EV} (h : x ∈ O) : (O.filter (fun y => decide (y.p ≠ x.p))).length < O.length := by
  rcases Nat.lt_or_ge (O.filter (fun y => decide (y.p ≠ x.p))).length O.length with h2 | h2
  · exact h2
  · have e := List.filter_eq_self.1 (List.Sublist.eq_of_length_le List.filter_sublist h2) x h
    simp at e
theorem same_path {L : List EV} (hd : L.Pairwise (fun x y => x.p ≠ y.p)) {x y : EV} (hx : x ∈ L) (hy : y ∈ L) (h : y.p = x.p) : y = x := by
  have h1 := tget_some hd hx
  have h2 := tget_some hd hy
  rw [h, h1] at h2
  exact (Option.some.inj h2).symm
/-- what is left of a table L of which own paths are taken away -/
structure TInv (L L2 : List EV) : Prop where
  sub : ∀ y, y ∈ L2 → y ∈ L
  good : GoodL L2 128
  dist : L2.Pairwise (fun x y => x.p ≠ y.p)
  own : (ownL L2).Sublist (ownL L)
theorem TInv.start {L : List EV} (hg : GoodL L 128) (hd : L.Pairwise (fun x y => x.p ≠ y.p)) : TInv L L := ⟨fun _ h => h, hg, hd, List.Sublist.refl _⟩
theorem TInv.ends {L L2 : List EV} (h : TInv L L2) (hd : L.Pairwise (fun x y => x.p ≠ y.p)) {x : EV} (hx : x ∈ ownL L) : (endT L2 x.p).2 = delL L2 x.p := by
  obtain ⟨h1, h2⟩ := own_mem.1 hx
  refine end_own fun y hy e => ?_
  obtain rfl := same_path hd h1 (h.sub y hy) e
  exact h2
theorem TInv.del {L L2 : List EV} (h : TInv L L2) (p : PV) : TInv L (delL L2 p) where
  sub := fun y hy => h.sub y (List.mem_filter.1 hy).1
  good := h.good.del p
  dist := List.Pairwise.sublist List.filter_sublist h.dist
  own := by rw [own_del h.dist]; exact List.filter_sublist.trans h.own
/-- away from the own ones of a table: the twins -/
theorem TInv.one {L L2 : List EV} (h : TInv L L2) (hb : ∀ y, y ∈ L2 → ∀ p, p ∈ twP (ownL L) (ownL L).length → y.p ≠ p) : OneEach (ownL L2) :=
  one_tw h.own fun y hy hm => hb y (own_mem.1 hy).1 _ hm rfl
theorem tw_next {T : List PV} {i : Nat} {pp : PV} (h : T[i]? = some pp) {L2 : List EV} (hb : ∀ y, y ∈ L2 → ∀ p, p ∈ T.take i → y.p ≠ p) : ∀ y, y ∈ delL L2 pp → ∀ p, p ∈ T.take (i + 1) → y.p ≠ p := by
  obtain ⟨hi, rfl⟩ := List.getElem?_eq_some_iff.1 h
  intro y hy p hp
  obtain ⟨h1, h2⟩ := List.mem_filter.1 hy
  rw [take_add_one hi] at hp
  rcases List.mem_append.1 hp with hp | hp
  · exact hb y h1 p hp
  · simp at hp; subst hp; simpa using h2
theorem me_next {O : List EV} {me : IDV} {i : Nat} {x : EV} (h : O[i]? = some x) {L2 : List EV} (hb : ∀ y, y ∈ L2 → ∀ x, x ∈ O.take i → othE x = me → y.p ≠ x.p) : ∀ y, y ∈ delL L2 x.p → ∀ z, z ∈ O.take (i + 1) → othE z = me → y.p ≠ z.p := by
  obtain ⟨hi, rfl⟩ := List.getElem?_eq_some_iff.1 h
  intro y hy z hz hm
  obtain ⟨h1, h2⟩ := List.mem_filter.1 hy
  rw [take_add_one hi] at hz
  rcases List.mem_append.1 hz with hz | hz
  · exact hb y h1 z hz hm
  · simp at hz; subst hz; simpa using h2
theorem me_skip {O : List EV} {me : IDV} {i : Nat} {x : EV} (h : O[i]? = some x) (hx : ¬ othE x = me) {L2 : List EV} (hb : ∀ y, y ∈ L2 → ∀ x, x ∈ O.take i → othE x = me → y.p ≠ x.p) : ∀ y, y ∈ L2 → ∀ z, z ∈ O.take (i + 1) → othE z = me → y.p ≠ z.p := by
  obtain ⟨hi, rfl⟩ := List.getElem?_eq_some_iff.1 h
  intro y hy z hz hm
  rw [take_add_one hi] at hz
  rcases List.mem_append.1 hz with hz | hz
  · exact hb y hy z hz hm
  · simp at hz; subst hz; exact absurd hm hx
theorem me_none {L1 L3 : List EV} {me : IDV} (h : TInv L1 L3) (hb : ∀ y, y ∈ L3 → ∀ x, x ∈ ownL L1 → othE x = me → y.p ≠ x.p) : ∀ y, y ∈ ownL L3 → othE y ≠ me := fun y hy e => hb y (own_mem.1 hy).1 y (h.own.mem hy) e rfl
/-- what TearTidy asks at its end -/
theorem tidy_end {O : List EV} {me : IDV} {half : Int} (h1 : OneEach O) (hm : ∀ y, y ∈ O → othE y ≠ me) (hs : spP O (wnI O me half) = []) :
    twP O O.length = [] ∧ (frI O me).length = O.length ∧ wantI me (frI O me) half = frI O me := ⟨tw_nil h1 _ (Nat.le_refl _), fr_count h1 hm, want_all hs⟩
/-- a round takes one away -/
theorem round_less {L2 : List EV} (hd : L2.Pairwise (fun x y => x.p ≠ y.p)) {x : EV} (hx : x ∈ ownL L2) : (ownL (delL L2 x.p)).length < (ownL L2).length := by
  rw [own_del hd]
  exact del_less hx
end Go.Proofs.YtohldionclgljaaGreat
