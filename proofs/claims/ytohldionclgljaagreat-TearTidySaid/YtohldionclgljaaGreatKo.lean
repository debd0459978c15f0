/-
  ring.Next: contract.
-/
import Derived.Test.YtohldionclgljaaGreatKl
namespace Go.Proofs.YtohldionclgljaaGreat
open Go.J Go.RowKit
set_option linter.unusedVariables false
set_option linter.unusedSimpArgs false
set_option maxRecDepth 4000
/-- the first one clockwise -/
def IsNext (me : IDV) (xs : List IDV) (m : IDV) : Prop := (m ∈ xs ∧ m ≠ me) ∧ ∀ y, y ∈ xs → y ≠ me → dI me m ≤ dI me y
theorem IsNext.uniq {me : IDV} {xs : List IDV} {m m' : IDV} (h : IsNext me xs m) (h' : IsNext me xs m') : m = m' :=
  dI_inj (Nat.le_antisymm (h.2 m' h'.1.1 h'.1.2) (h'.2 m h.1.1 h.1.2))
open Classical in
noncomputable def nextO (me : IDV) (xs : List IDV) : Option IDV := if h : ∃ m, IsNext me xs m then some h.choose else none
theorem nextO_of {me : IDV} {xs : List IDV} {m : IDV} (h : IsNext me xs m) : nextO me xs = some m := by
  unfold nextO
  rw [dif_pos ⟨m, h⟩]
  congr 1
  exact (Exists.choose_spec ⟨m, h⟩ : IsNext me xs _).uniq h
theorem nextO_none {me : IDV} {xs : List IDV} (h : ∀ x, x ∈ xs → x = me) : nextO me xs = none := by
  unfold nextO
  rw [dif_neg]
  rintro ⟨m, hm⟩
  exact hm.1.2 (h m hm.1.1)
theorem nextO_some {me : IDV} {xs : List IDV} {m : IDV} (h : nextO me xs = some m) : IsNext me xs m := by
  unfold nextO at h
  split at h
  · rename_i hx
    cases h
    exact hx.choose_spec
  · cases h
theorem IsNext.of_sort {me : IDV} {xs : List IDV} {m : IDV} (h : m ∈ sortI xs me ∧ ∀ y, y ∈ sortI xs me → dI me m ≤ dI me y) : IsNext me xs m :=
  ⟨(sortI_mem xs me m).1 h.1, fun y hy hn => h.2 y ((sortI_mem xs me y).2 ⟨hy, hn⟩)⟩
theorem sortI_nil {me : IDV} {xs : List IDV} (h : (sortI xs me).length = 0) : nextO me xs = none := by
  refine nextO_none fun x hx => ?_
  have h0 := List.eq_nil_of_length_eq_zero h
  apply Classical.byContradiction
  intro hne
  have := (sortI_mem xs me x).2 ⟨hx, hne⟩
  rw [h0] at this
  cases this

end Go.Proofs.YtohldionclgljaaGreat
/-
  Who is wanted: the plain law of ring.Want.
-/
namespace Go.Proofs.YtohldionclgljaaGreat
open Go.J Go.RowKit
set_option linter.unusedVariables false
set_option linter.unusedSimpArgs false
set_option maxRecDepth 4000
/-- how far clockwise ahead of a place -/
noncomputable def eI (me x : IDV) : Nat := valI (subI me x)
theorem dI_self (me : IDV) : dI me me = 0 := by
  unfold dI
  rw [valI_subI]
  have := valI_lt me
  omega
theorem dI_lt (me x : IDV) : dI me x < 2 ^ 128 := valI_lt _
theorem dI_pos {me x : IDV} (h : x ≠ me) : 0 < dI me x := by
  rcases Nat.eq_zero_or_pos (dI me x) with h0 | h0
  · exact absurd (dI_inj (me := me) (h0.trans (dI_self me).symm)) h
  · exact h0
theorem dI_add_eI {me x : IDV} (h : x ≠ me) : dI me x + eI me x = 2 ^ 128 := by
  have h0 := dI_pos h
  unfold dI eI at *
  rw [valI_subI] at *
  rw [valI_subI]
  have h1 := valI_lt me
  have h2 := valI_lt x
  omega
/-- how many are ahead of one, on either way -/
noncomputable def rI (me : IDV) (l : List IDV) (x : IDV) : Nat := l.countP (fun y => decide (dI me y < dI me x))
noncomputable def lftI (me : IDV) (l : List IDV) (x : IDV) : Nat := l.countP (fun y => decide (eI me y < eI me x))
noncomputable def wantI (me : IDV) (xs : List IDV) (half : Int) : List IDV :=
  (sortI xs me).filter (fun x => decide ((rI me (sortI xs me) x : Int) < half) || decide ((lftI me (sortI xs me) x : Int) < half))
theorem count_at {f : IDV → Nat} : ∀ {ys : List IDV}, ys.Pairwise (fun a b => f a < f b) → ∀ (i : Nat) (h : i < ys.length), ys.countP (fun y => decide (f y < f ys[i])) = i ∧ ys.countP (fun y => decide (f ys[i] < f y)) + i + 1 = ys.length
  | y :: ys, hp, 0, _ => by
    have hp' := List.pairwise_cons.1 hp
    simp only [List.getElem_cons_zero, List.countP_cons, Nat.lt_irrefl, decide_false, Bool.false_eq_true, if_false, Nat.add_zero, List.length_cons]
    constructor
    · rw [List.countP_eq_zero]
      intro a ha
      have := hp'.1 a ha
      simp; omega
    · rw [List.countP_eq_length.2]
      intro a ha
      have := hp'.1 a ha
      simpa using this
  | y :: ys, hp, i + 1, h => by
    have hp' := List.pairwise_cons.1 hp
    have hi : i < ys.length := by simpa using h
    have h1 := hp'.1 ys[i] (List.getElem_mem hi)
    obtain ⟨h2, h3⟩ := count_at hp'.2 i hi
    simp only [List.getElem_cons_succ, List.countP_cons, List.length_cons]
    rw [h2]
    have e1 : (decide (f y < f ys[i])) = true := by simpa using h1
    have e2 : (decide (f ys[i] < f y)) = false := by simp; omega
    rw [if_pos e1, if_neg (by rw [e2]; decide)]
    exact ⟨rfl, by omega⟩
theorem nodup_take {ys : List IDV} (h : ys.Nodup) {i n : Nat} (hi : i < ys.length) : ys[i] ∈ ys.take n ↔ i < n := by
  constructor
  · intro hm
    obtain ⟨j, hj, he⟩ := List.getElem_of_mem hm
    rw [List.length_take] at hj
    rw [List.getElem_take] at he
    have := (List.getElem_inj h).1 he
    omega
  · intro hlt
    have hj : i < (ys.take n).length := by rw [List.length_take]; omega
    have := List.getElem_mem hj
    rw [List.getElem_take] at this
    exact this
theorem nodup_drop {ys : List IDV} (h : ys.Nodup) {i n : Nat} (hi : i < ys.length) : ys[i] ∈ ys.drop n ↔ n ≤ i := by
  constructor
  · intro hm
    obtain ⟨j, hj, he⟩ := List.getElem_of_mem hm
    rw [List.getElem_drop] at he
    have := (List.getElem_inj h).1 he
    omega
  · intro hle
    have hj : i - n < (ys.drop n).length := by rw [List.length_drop]; omega
    have := List.getElem_mem hj
    rw [List.getElem_drop] at this
    simpa [show n + (i - n) = i by omega] using this
theorem eI_lt_iff {me x y : IDV} (hx : x ≠ me) (hy : y ≠ me) : eI me y < eI me x ↔ dI me x < dI me y := by
  have a1 := dI_add_eI hy
  have a2 := dI_add_eI hx
  omega
theorem strict_of {me : IDV} {ys : List IDV} (hnd : ys.Nodup) (hs : ys.Pairwise (fun a b => dI me a ≤ dI me b)) : ys.Pairwise (fun a b => dI me a < dI me b) := by
  refine (hs.and hnd).imp fun {a b} h => ?_
  rcases Nat.lt_or_ge (dI me a) (dI me b) with h1 | h1
  · exact h1
  · exact absurd (dI_inj (Nat.le_antisymm h.1 h1)) h.2
theorem rank_of {me : IDV} {xs ys : List IDV} (hp : ys.Perm (sortI xs me)) (hst : ys.Pairwise (fun a b => dI me a < dI me b)) {i : Nat} (hi : i < ys.length) :
    rI me (sortI xs me) ys[i] = i ∧ lftI me (sortI xs me) ys[i] + i + 1 = ys.length := by
  obtain ⟨h1, h2⟩ := count_at hst i hi
  have hme := ((sortI_mem xs me _).1 (hp.mem_iff.1 (List.getElem_mem hi))).2
  constructor
  · unfold rI; rw [← hp.countP_eq]; exact h1
  · unfold lftI
    have e : ys.countP (fun y => decide (eI me y < eI me ys[i])) = ys.countP (fun y => decide (dI me ys[i] < dI me y)) := by
      refine List.countP_congr fun y hy => ?_
      have hy2 := ((sortI_mem xs me y).1 (hp.mem_iff.1 hy)).2
      rw [decide_eq_true_eq, decide_eq_true_eq]
      exact eI_lt_iff hme hy2
    rw [← hp.countP_eq, e]
    exact h2
theorem half_arith {half : Int} {n i k r l : Nat} (hn : (n : Int) = min (max half 0) (k : Int)) (hi : i < k) (hr : r = i) (hl : l + i + 1 = k) : ((r : Int) < half ∨ (l : Int) < half) ↔ (i < n ∨ k - n ≤ i) := by
  omega
theorem mem_wantI {me : IDV} {xs : List IDV} {half : Int} {z : IDV} : z ∈ wantI me xs half ↔ z ∈ sortI xs me ∧ ((rI me (sortI xs me) z : Int) < half ∨ (lftI me (sortI xs me) z : Int) < half) := by
  unfold wantI
  rw [List.mem_filter, Bool.or_eq_true, decide_eq_true_eq, decide_eq_true_eq]
theorem wantI_asc (me : IDV) (xs : List IDV) (half : Int) : Asc (wantI me xs half) := (sortI_asc xs me).sublist List.filter_sublist
theorem want_of {me : IDV} {xs ys : List IDV} {half : Int} {n : Nat} (hp : ys.Perm (sortI xs me)) (hs : ys.Pairwise (fun a b => dI me a ≤ dI me b)) (hn : (n : Int) = min (max half 0) ((sortI xs me).length : Nat)) :
    sortI (ys.take n ++ ys.drop ((sortI xs me).length - n)) me = wantI me xs half := by
  have hnd : ys.Nodup := hp.nodup_iff.2 (asc_nodup (sortI_asc xs me))
  have hst := strict_of hnd hs
  have hlen := hp.length_eq
  refine (sortI_of (wantI_asc me xs half) fun z => ?_).symm
  rw [mem_wantI, List.mem_append]
  constructor
  · rintro ⟨hz1, hz2⟩
    refine ⟨?_, ((sortI_mem xs me z).1 hz1).2⟩
    obtain ⟨i, hi, rfl⟩ := List.getElem_of_mem (hp.mem_iff.2 hz1)
    obtain ⟨e1, e2⟩ := rank_of hp hst hi
    rw [nodup_take hnd hi, nodup_drop hnd hi]
    exact (half_arith hn (by rw [← hlen]; exact hi) e1 (by rw [← hlen]; exact e2)).1 hz2
  · rintro ⟨hz, hzm⟩
    have hzy : z ∈ ys := by
      rcases hz with h | h
      · exact List.mem_of_mem_take h
      · exact List.mem_of_mem_drop h
    refine ⟨hp.mem_iff.1 hzy, ?_⟩
    obtain ⟨i, hi, rfl⟩ := List.getElem_of_mem hzy
    obtain ⟨e1, e2⟩ := rank_of hp hst hi
    rw [nodup_take hnd hi, nodup_drop hnd hi] at hz
    exact (half_arith hn (by rw [← hlen]; exact hi) e1 (by rw [← hlen]; exact e2)).2 hz
theorem fI_take (xs : List IDV) (n : Nat) : fI (xs.take n) = (fI xs).take (n * 16) := by
  have h : fI xs = fI (xs.take n) ++ fI (xs.drop n) := by rw [← fI_append, List.take_append_drop]
  have hl := fI_length (xs.take n)
  rw [List.length_take] at hl
  rcases Nat.le_total n xs.length with hn | hn
  · rw [h, List.take_left' (by rw [hl, Nat.min_eq_left hn])]
  · rw [List.take_of_length_le hn, List.take_of_length_le (by rw [fI_length]; omega)]
theorem fI_drop (xs : List IDV) (n : Nat) : fI (xs.drop n) = (fI xs).drop (n * 16) := by
  have h : fI xs = fI (xs.take n) ++ fI (xs.drop n) := by rw [← fI_append, List.take_append_drop]
  have hl := fI_length (xs.take n)
  rw [List.length_take] at hl
  rcases Nat.le_total n xs.length with hn | hn
  · rw [h, List.drop_left' (by rw [hl, Nat.min_eq_left hn])]
  · rw [List.drop_of_length_le hn, List.drop_of_length_le (by rw [fI_length]; omega)]; rfl

end Go.Proofs.YtohldionclgljaaGreat
/-
  ring.Want: contract.
-/
namespace Go.Proofs.YtohldionclgljaaGreat
open Go.J Go.RowKit
set_option linter.unusedVariables false
set_option linter.unusedSimpArgs false
set_option maxRecDepth 4000
theorem rowI_slice {w : World} {a : Option Addr} {c i j : Nat} {ys : List IDV} (h : Row w (.slice a ys.length c) ys.length (fI ys)) (hij : i ≤ j) (hj : j ≤ ys.length) :
    Row w (.slice (if c = i then a else a.map (·.add (i * 16))) (j - i) (c - i)) ((ys.drop i).take (j - i)).length (fI ((ys.drop i).take (j - i))) := by
  have := h.slice (sz := 16) (fI_length ys) hij hj
  rw [fI_take, fI_drop]
  rw [show ((ys.drop i).take (j - i)).length = j - i by rw [List.length_take, List.length_drop]; omega]
  exact this

theorem want_spec (self : IDV) (v : Value) (xs : List IDV) (half : Int) (w : World) (hr : Row w v xs.length (fI xs)) (hl : xs.length ≤ 1099511627776) :
    Calls Tryz.prog 35 [.agg (cI self).toArray, v, .int .i64 half].toArray w fun r w' => ∃ x : Value × List (Nat × Obj), r = .returned x.1 ∧ Vec 24 16 x.1 (wantI self xs half).length (fI (wantI self xs half)) x.2 ∧ St w [] x.2 w' := by
  refine calls_of_J (args := [.agg (cI self).toArray, v, .int .i64 half]) (e := [(0, .agg (cI self).toArray), (1, v), (2, .int .i64 half)]) Tryz.func35 rfl rfl ⟨rfl, rfl, rfl, trivial⟩ (St.start w) ?_
  refine JC.seq (fun K0 hK0 => ?_)
  refine JC.region ?_
  refine J.box rfl rfl rfl (fun b3 => ?_)
  refine J.assign rfl rfl ?_
  refine J.nil ?_
  refine JX.thenN (hK0 _ _ ?_)
  refine JC.seq (fun K1 hK1 => ?_)
  refine JC.region ?_
  refine J.loadOA (vs := cI self) Ty.a24 Ty.s24 rfl (by repeat first | exact .head _ | apply List.Mem.tail | apply List.mem_append_right) (by exact rfl) rfl rfl ?_
  refine J.move rfl rfl ?_
  refine J.callS (α := Value × List (Nat × Obj)) (V := (·.1)) (Pr := fun x => Vec 24 16 x.1 (sortI xs self).length (fI (sortI xs self)) x.2) (L := (·.2)) (l1 := []) (l := [(b3, cb (cI self) 24)]) Ty.bd33 rfl rfl (fun w1 hw => sorted_spec self v xs w1 (hr.st (.inr (by simp)) hw) (by omega)) (fun x hx => ?_)
  obtain ⟨vs, ls⟩ := x
  simp only at hx ⊢
  have hsl := sortI_le xs self
  obtain ⟨aq, cq, rfl, hcs⟩ := hx.form
  refine J.assign rfl rfl ?_
  refine J.nil ?_
  refine JX.thenN (hK1 _ _ ?_)
  refine JC.seq (fun K2 hK2 => ?_)
  refine JC.region ?_
  refine J.move rfl rfl ?_
  refine J.max2 rfl rfl rfl ?_
  refine J.move rfl rfl ?_
  refine J.lenS rfl Ty.u39 rfl rfl ?_
  refine J.min2 rfl rfl rfl ?_
  obtain ⟨n, hn⟩ : ∃ n : Nat, (n : Int) = min (max half 0) (((sortI xs self).length : Nat) : Int) := ⟨(min (max half 0) (((sortI xs self).length : Nat) : Int)).toNat, by omega⟩
  refine J.name 16 rfl (show _ = Value.int .i64 ((n : Nat) : Int) by rw [hn]) ?_
  refine J.assign rfl rfl ?_
  refine J.nil ?_
  refine JX.thenN (hK2 _ _ ?_)
  refine JC.seq (fun K3 hK3 => ?_)
  refine JC.region ?_
  refine J.move rfl rfl ?_
  refine J.makeFn rfl rfl ?_
  refine J.callS (α := List IDV × List (Nat × Obj)) (V := fun _ => .tuple #[]) (Pr := fun x => x.1.Perm (sortI xs self) ∧ x.1.Pairwise (fun a b => dI self a ≤ dI self b) ∧ Vec 24 16 (.slice aq (sortI xs self).length cq) x.1.length (fI x.1) x.2) (L := (·.2)) (l1 := ls) (l := [(b3, cb (cI self) 24)]) Ty.bd56 rfl rfl (fun w1 hw => sort_vec 58 #[.pointer (some ⟨b3, 0, none⟩)] (dI self) (fun _ _ h => dI_inj h) Ty.bd58 _ (sortI xs self) ls [(b3, cb (cI self) 24)] w1 hx hw.owns' (by omega) (fun a b W hW => by simpa using want1_spec b3 self a b W hW)) (fun x hs => ?_)
  obtain ⟨ys, lsrt⟩ := x
  simp only at hs ⊢
  obtain ⟨hp, hs, hvs⟩ := hs
  have hyl := hp.length_eq
  refine J.perm ((b3, cb (cI self) 24) :: lsrt) (by (refine perm_cnt (fun _ => ?_)); simp only [cntB_append, cntB_cons, cntB_nil, Nat.add_zero, Nat.zero_add]; try ac_rfl) ?_
  refine J.nil ?_
  refine JX.thenN (hK3 _ _ ?_)
  refine JC.seq (fun K4 hK4 => ?_)
  apply JC.drawX (α := Value × List (Nat × Obj) × Value × List (Nat × Obj)) 12 (fun x => match x with | ⟨vc, lc, va, la⟩ => [.agg (cI self).toArray, .slice aq (sortI xs self).length cq, .int .i64 ((n : Nat) : Int), .slice (if cq = 0 then aq else aq.map (·.add (0 * 16))) (n - 0) (cq - 0), vc, .slice aq (sortI xs self).length cq, .slice aq (sortI xs self).length cq, .int .i64 (((sortI xs self).length : Nat) : Int), .int .i64 ((n : Nat) : Int), .int .i64 (((sortI xs self).length - n : Nat) : Int), .slice (if cq = (sortI xs self).length - n then aq else aq.map (·.add (((sortI xs self).length - n) * 16))) ((sortI xs self).length - ((sortI xs self).length - n)) (cq - ((sortI xs self).length - n)), va]) (fun m x => match x with | ⟨vc, lc, va, la⟩ => fun w1 => ((m 11 = true → m 4 = true ∧ Vec 24 16 va ((ys.take n ++ ys.drop ((sortI xs self).length - n))).length (fI ((ys.take n ++ ys.drop ((sortI xs self).length - n)))) la) ∧ (m 4 = true → Vec 24 16 vc ((ys.take n)).length (fI ((ys.take n))) lc)) ∧ St w [] ((b3, cb (cI self) 24) :: ((bif m 11 then la else (bif m 4 then lc else [])) ++ lsrt)) w1) Ty.mixed rfl rfl rfl (by kernel_rfl) rfl rfl ?hinit ?hstep ?htail
  case hinit => exact fun w1 hw => ⟨(.slice none 0 0, [], .slice none 0 0, []), ⟨fun h => (by cases h), fun h => (by cases h)⟩, hw.drew⟩
  case hstep =>
    refine ⟨fun m x hm hp => ?_, fun m x hm hp => ?_, fun m x hm hp => ?_, fun m x hm hp => ?_, fun m x hm hp => ?_, fun m x hm hp => ?_, fun m x hm hp => ?_, fun m x hm hp => ?_, fun m x hm hp => ?_, fun m x hm hp => ?_, fun m x hm hp => ?_, fun m x hm hp => ?_, trivial⟩
    · skip
      obtain ⟨vc, lc, va, la⟩ := x
      show J _ _ _ _ _ (_) _
      refine J.pr (fun hF => ?_)
      refine J.loadOA (vs := cI self) Ty.a24 Ty.s24 rfl (.head _) rfl rfl rfl ?_
      exact J.finX rfl (fun _ hw => ⟨⟨vc, lc, va, la⟩, rfl, fun _ _ _ => rfl, hF, hw⟩)
    · skip
      obtain ⟨vc, lc, va, la⟩ := x
      show J _ _ _ _ _ (_) _
      refine J.pr (fun hF => ?_)
      refine J.move rfl rfl ?_
      exact J.finX rfl (fun _ hw => ⟨⟨vc, lc, va, la⟩, rfl, fun _ _ _ => rfl, hF, hw⟩)
    · skip
      obtain ⟨vc, lc, va, la⟩ := x
      show J _ _ _ _ _ (_) _
      refine J.pr (fun hF => ?_)
      refine J.move rfl rfl ?_
      exact J.finX rfl (fun _ hw => ⟨⟨vc, lc, va, la⟩, rfl, fun _ _ _ => rfl, hF, hw⟩)
    · skip
      obtain ⟨vc, lc, va, la⟩ := x
      show J _ _ _ _ _ ((22, .int .i64 ((n : Nat) : Int)) :: (21, .slice aq (sortI xs self).length cq) :: _) _
      refine J.pr (fun hF => ?_)
      refine J.sliceS (i := 0) (j := n) Ty.el39 Ty.s24 rfl rfl rfl rfl rfl (by omega) (by omega) (by omega) rfl ?_
      exact J.finX rfl (fun _ hw => ⟨⟨vc, lc, va, la⟩, rfl, fun _ _ _ => rfl, hF, hw⟩)
    · skip
      obtain ⟨vc, lc, va, la⟩ := x
      show J _ _ _ _ _ ((23, .slice (if cq = 0 then aq else aq.map (·.add (0 * 16))) (n - 0) (cq - 0)) :: _) _
      refine J.pr (fun hF => ?_)
      refine J.perm ([] ++ ((b3, cb (cI self) 24) :: ((bif m 11 then la else (bif m 4 then lc else [])) ++ lsrt))) (.refl _) ?_
      refine J.callS (α := Value × List (Nat × Obj)) (V := (·.1)) (Pr := fun x => Vec 24 16 x.1 ((ys.take n)).length (fI ((ys.take n))) x.2) (L := (·.2)) (l1 := []) Ty.bd54 rfl rfl (fun w1 hw => clone_spec _ (ys.take n) w1 (by
        have h1 := rowI_slice (i := 0) (j := n) (by have h0 := (hvs.row (S := []) (l := (b3, cb (cI self) 24) :: (bif m 11 then la else (bif m 4 then lc else []))) (hw.perm (by (refine perm_cnt (fun _ => ?_)); simp only [cntB_append, cntB_cons, cntB_nil, Nat.add_zero, Nat.zero_add]; try ac_rfl))); rw [hyl] at h0 ⊢; exact h0) (Nat.zero_le _) (by omega)
        rw [List.drop_zero, Nat.sub_zero] at h1
        exact h1) (by rw [List.length_take]; omega)) (fun x hv4 => ?_)
      obtain ⟨vc9, lc9⟩ := x
      simp only at hv4 ⊢
      refine J.nil (JX.finB rfl (fun w1 hw => ⟨⟨⟨vc9, lc9, va, la⟩, rfl, fun j h1 h2 => ?_, ?_⟩, trivial⟩))
      · match j, h1 with
        | 0, _ => (first | rfl | trivial)
        | 1, _ => (first | rfl | trivial)
        | 2, _ => (first | rfl | trivial)
        | 3, _ => (first | rfl | trivial)
        | 4, _ => exact absurd (h2.symm.trans hm) (by decide)
        | 5, _ => (first | rfl | trivial)
        | 6, _ => (first | rfl | trivial)
        | 7, _ => (first | rfl | trivial)
        | 8, _ => (first | rfl | trivial)
        | 9, _ => (first | rfl | trivial)
        | 10, _ => (first | rfl | trivial)
        | 11, _ => (first | rfl | trivial)
        | j + 12, h1 => omega
      show ((m 11 = true → true = true ∧ Vec 24 16 va ((ys.take n ++ ys.drop ((sortI xs self).length - n))).length (fI ((ys.take n ++ ys.drop ((sortI xs self).length - n)))) la) ∧ (true = true → Vec 24 16 vc9 ((ys.take n)).length (fI ((ys.take n))) lc9)) ∧ St w [] ((b3, cb (cI self) 24) :: ((bif m 11 then la else (bif true then lc9 else [])) ++ lsrt)) w1
      have hm11 : m 11 = false := by
        cases h : m 11 with
        | false => rfl
        | true => exact absurd (hm.symm.trans (hF.1 h).1) (by decide)
      refine ⟨⟨fun h => absurd (hm11.symm.trans h) (by decide), fun _ => hv4⟩, ?_⟩
      simp only [hm, hm11, cond_true, cond_false] at hw ⊢
      exact hw.perm (by (refine perm_cnt (fun _ => ?_)); simp only [cntB_append, cntB_cons, cntB_nil, Nat.add_zero, Nat.zero_add]; try ac_rfl)
    · skip
      obtain ⟨vc, lc, va, la⟩ := x
      show J _ _ _ _ _ (_) _
      refine J.pr (fun hF => ?_)
      refine J.move rfl rfl ?_
      exact J.finX rfl (fun _ hw => ⟨⟨vc, lc, va, la⟩, rfl, fun _ _ _ => rfl, hF, hw⟩)
    · skip
      obtain ⟨vc, lc, va, la⟩ := x
      show J _ _ _ _ _ (_) _
      refine J.pr (fun hF => ?_)
      refine J.move rfl rfl ?_
      exact J.finX rfl (fun _ hw => ⟨⟨vc, lc, va, la⟩, rfl, fun _ _ _ => rfl, hF, hw⟩)
    · skip
      obtain ⟨vc, lc, va, la⟩ := x
      show J _ _ _ _ _ ((26, .slice aq (sortI xs self).length cq) :: _) _
      refine J.pr (fun hF => ?_)
      refine J.lenS rfl Ty.u39 rfl rfl ?_
      exact J.finX rfl (fun _ hw => ⟨⟨vc, lc, va, la⟩, rfl, fun _ _ _ => rfl, hF, hw⟩)
    · skip
      obtain ⟨vc, lc, va, la⟩ := x
      show J _ _ _ _ _ (_) _
      refine J.pr (fun hF => ?_)
      refine J.move rfl rfl ?_
      exact J.finX rfl (fun _ hw => ⟨⟨vc, lc, va, la⟩, rfl, fun _ _ _ => rfl, hF, hw⟩)
    · skip
      obtain ⟨vc, lc, va, la⟩ := x
      show J _ _ _ _ _ ((28, .int .i64 ((n : Nat) : Int)) :: (27, .int .i64 (((sortI xs self).length : Nat) : Int)) :: _) _
      refine J.pr (fun hF => ?_)
      refine J.subN rfl rfl (by omega) (by omega) rfl ?_
      refine J.name 29 rfl (show _ = Value.int .i64 (((sortI xs self).length - n : Nat) : Int) by congr 1; omega) ?_
      exact J.finX rfl (fun _ hw => ⟨⟨vc, lc, va, la⟩, rfl, fun _ _ _ => rfl, hF, hw⟩)
    · skip
      obtain ⟨vc, lc, va, la⟩ := x
      show J _ _ _ _ _ ((29, .int .i64 (((sortI xs self).length - n : Nat) : Int)) :: (25, .slice aq (sortI xs self).length cq) :: _) _
      refine J.pr (fun hF => ?_)
      refine J.sliceS (i := (sortI xs self).length - n) (j := (sortI xs self).length) Ty.el39 Ty.s24 rfl rfl rfl rfl rfl (by omega) (by omega) (by omega) rfl ?_
      exact J.finX rfl (fun _ hw => ⟨⟨vc, lc, va, la⟩, rfl, fun _ _ _ => rfl, hF, hw⟩)
    · skip
      obtain ⟨vc, lc, va, la⟩ := x
      show J _ _ _ _ _ ((24, vc) :: (30, .slice (if cq = (sortI xs self).length - n then aq else aq.map (·.add (((sortI xs self).length - n) * 16))) ((sortI xs self).length - ((sortI xs self).length - n)) (cq - ((sortI xs self).length - n))) :: (24, vc) :: _) _
      have hp4 : m 4 = true := predsT hp (by kernel_rfl)
      have hp4 : m 4 = true := predsT hp (by kernel_rfl)
      refine J.pr (fun hF => ?_)
      have hv4 := hF.2 hp4
      refine J.conseq (I' := St w [] (lc ++ ((b3, cb (cI self) 24) :: lsrt))) ?_ (fun w1 hw => by simp only [hm, hp4, cond_true, cond_false] at hw; exact hw.perm (by (refine perm_cnt (fun _ => ?_)); simp only [cntB_append, cntB_cons, cntB_nil, Nat.add_zero, Nat.zero_add]; try ac_rfl))
      refine J.append (xs := fI (ys.take n)) (ys := fI (ys.drop ((sortI xs self).length - n))) (k := (ys.take n).length) (m := (ys.drop ((sortI xs self).length - n)).length) Ty.el39 Ty.s24 Ty.b24 Ty.zID rfl (.inl ⟨24, Ty.u39⟩) rfl rfl hv4 (fun w1 hw => .inl (by
        have h1 := rowI_slice (i := (sortI xs self).length - n) (j := (sortI xs self).length) (by have h0 := (hvs.row (S := []) (l := (b3, cb (cI self) 24) :: lc) (hw.perm (by (refine perm_cnt (fun _ => ?_)); simp only [cntB_append, cntB_cons, cntB_nil, Nat.add_zero, Nat.zero_add]; try ac_rfl))); rw [hyl] at h0 ⊢; exact h0) (by omega) (by omega)
        rw [List.take_of_length_le (by rw [List.length_drop]; omega), List.length_drop, hyl] at h1
        rw [List.length_drop, hyl]
        exact h1)) (fI_length _) (fun y hy => fI_one hy) (by rw [List.length_take, List.length_drop]; omega) (by rw [List.length_take, List.length_drop]; omega) rfl (fun va9 la9 hv11 => ?_)
      rw [← List.length_append, ← fI_append] at hv11
      refine J.nil (JX.finB rfl (fun w1 hw => ⟨⟨⟨vc, lc, va9, la9⟩, rfl, fun j h1 h2 => ?_, ?_⟩, trivial⟩))
      · match j, h1 with
        | 0, _ => (first | rfl | trivial)
        | 1, _ => (first | rfl | trivial)
        | 2, _ => (first | rfl | trivial)
        | 3, _ => (first | rfl | trivial)
        | 4, _ => (first | rfl | trivial)
        | 5, _ => (first | rfl | trivial)
        | 6, _ => (first | rfl | trivial)
        | 7, _ => (first | rfl | trivial)
        | 8, _ => (first | rfl | trivial)
        | 9, _ => (first | rfl | trivial)
        | 10, _ => (first | rfl | trivial)
        | 11, _ => exact absurd (h2.symm.trans hm) (by decide)
        | j + 12, h1 => omega
      show ((true = true → m 4 = true ∧ Vec 24 16 va9 ((ys.take n ++ ys.drop ((sortI xs self).length - n))).length (fI ((ys.take n ++ ys.drop ((sortI xs self).length - n)))) la9) ∧ (m 4 = true → Vec 24 16 vc ((ys.take n)).length (fI ((ys.take n))) lc)) ∧ St w [] ((b3, cb (cI self) 24) :: ((bif true then la9 else (bif m 4 then lc else [])) ++ lsrt)) w1
      refine ⟨⟨fun _ => ⟨hp4, hv11⟩, hF.2⟩, ?_⟩
      simp only [hp4, cond_true, cond_false] at hw ⊢
      exact hw.perm (by (refine perm_cnt (fun _ => ?_)); simp only [cntB_append, cntB_cons, cntB_nil, Nat.add_zero, Nat.zero_add]; try ac_rfl)
  case htail =>
    intro x
    obtain ⟨vc, lc, va, la⟩ := x
    show J _ _ _ _ _ ((31, va) :: (30, .slice (if cq = (sortI xs self).length - n then aq else aq.map (·.add (((sortI xs self).length - n) * 16))) ((sortI xs self).length - ((sortI xs self).length - n)) (cq - ((sortI xs self).length - n))) :: (29, .int .i64 (((sortI xs self).length - n : Nat) : Int)) :: (28, .int .i64 ((n : Nat) : Int)) :: (27, .int .i64 (((sortI xs self).length : Nat) : Int)) :: (26, .slice aq (sortI xs self).length cq) :: (25, .slice aq (sortI xs self).length cq) :: (24, vc) :: (23, .slice (if cq = 0 then aq else aq.map (·.add (0 * 16))) (n - 0) (cq - 0)) :: (22, .int .i64 ((n : Nat) : Int)) :: (21, .slice aq (sortI xs self).length cq) :: (20, .agg (cI self).toArray) :: _) (fun w1 => ((true = true → true = true ∧ Vec 24 16 va ((ys.take n ++ ys.drop ((sortI xs self).length - n))).length (fI ((ys.take n ++ ys.drop ((sortI xs self).length - n)))) la) ∧ (true = true → Vec 24 16 vc ((ys.take n)).length (fI ((ys.take n))) lc)) ∧ St w [] ((b3, cb (cI self) 24) :: ((bif true then la else (bif true then lc else [])) ++ lsrt)) w1)
    refine J.pr (fun hF => ?_)
    have hv11 := (hF.1 rfl).2
    refine J.conseq (I' := St w [] ([] ++ (la ++ (b3, cb (cI self) 24) :: lsrt))) ?_ (fun w1 hw => by
      have hw' : St w [] ((b3, cb (cI self) 24) :: (la ++ lsrt)) w1 := hw
      exact hw'.perm (by (refine perm_cnt (fun _ => ?_)); simp only [cntB_append, cntB_cons, cntB_nil, Nat.add_zero, Nat.zero_add]; try ac_rfl))
    refine J.callS (α := Value × List (Nat × Obj)) (V := (·.1)) (Pr := fun x => Vec 24 16 x.1 (sortI (ys.take n ++ ys.drop ((sortI xs self).length - n)) self).length (fI (sortI (ys.take n ++ ys.drop ((sortI xs self).length - n)) self)) x.2) (L := (·.2)) (l1 := []) Ty.bd33 rfl rfl (fun w1 hw => sorted_spec self va _ w1 (hv11.row (l := (b3, cb (cI self) 24) :: lsrt) (hw.perm (by (refine perm_cnt (fun _ => ?_)); simp only [cntB_append, cntB_cons, cntB_nil, Nat.add_zero, Nat.zero_add]; try ac_rfl))) (by rw [List.length_append, List.length_take, List.length_drop]; omega)) (fun x hx12 => ?_)
    obtain ⟨v12, l12⟩ := x
    simp only at hx12 ⊢
    rw [want_of hp hs hn] at hx12
    refine J.assign rfl rfl ?_
    refine J.nil ?_
    refine JX.thenN (hK4 _ _ ?_)
    refine JC.ret ?_
    refine JX.ret1 rfl rfl (fun w hw => ?_)
    exact ⟨(v12, l12), rfl, hx12, hw.drop (List.sublist_append_left _ _)⟩

end Go.Proofs.YtohldionclgljaaGreat
