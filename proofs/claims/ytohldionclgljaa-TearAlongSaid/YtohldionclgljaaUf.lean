/-
  The document's table, and Other: contracts.
-/
import Derived.Test.YtohldionclgljaaUe
namespace Go.Proofs.Ytohldionclgljaa
open Go.J Go.RowKit
set_option linter.unusedVariables false
set_option linter.unusedSimpArgs false
set_option maxRecDepth 4000
abbrev rtabO (v : Value) (most : Int) : Obj := cb [v, .int .i64 most] 94
theorem cells_sub {w : World} {b o k : Nat} {xs ys : List Value} (h : Cells w b o xs) (hy : (xs.drop k).take ys.length = ys) : Cells w b (o + k) ys := by
  intro j hj
  have hlt : k + j < xs.length := by
    have := congrArg List.length hy
    rw [List.length_take, List.length_drop] at this
    omega
  rw [Nat.add_assoc, h (k + j) hlt]
  have : ys[j]? = ((xs.drop k).take ys.length)[j]? := by rw [hy]
  rw [this, List.getElem?_take_of_lt hj, List.getElem?_drop]
def otherV (x : EV) : IDV × Int × Bool := if x.na = -1 then (x.b, x.nb, false) else (x.a, x.na, true)
theorem tget_at {R : List EV} {i : Nat} {x : EV} {p : PV} (h : R[i]? = some x) (hp : x.p = p) (hb : ∀ j y, j < i → R[j]? = some y → y.p ≠ p) : tget R p = some x := by
  unfold tget
  rw [List.find?_eq_some_iff_append]
  have hi := (List.getElem?_eq_some_iff.1 h).1
  refine ⟨by simpa using hp, R.take i, R.drop (i + 1), ?_, fun y hy => ?_⟩
  · rw [List.getElem?_eq_getElem hi] at h
    cases h
    rw [List.getElem_cons_drop, List.take_append_drop]
  · obtain ⟨j, hj, rfl⟩ := List.getElem_of_mem hy
    rw [List.length_take] at hj
    have := hb j R[j] (by omega) (List.getElem?_eq_getElem (by omega))
    rw [List.getElem_take]
    simpa using this
theorem tget_not {R : List EV} {p : PV} (hb : ∀ j y, j < R.length → R[j]? = some y → y.p ≠ p) : tget R p = none := tget_none.2 fun x hx => by
  obtain ⟨j, hj, rfl⟩ := List.getElem_of_mem hx
  exact hb j _ hj (List.getElem?_eq_getElem hj)
theorem same_uptoE {xs ys : List EV} {i : Nat} (hl : xs.length = ys.length) (h : ∀ j, j < i → xs[j]? = ys[j]?) (hi : i = xs.length) : xs = ys := by
  refine List.ext_getElem? fun j => ?_
  rcases Nat.lt_or_ge j i with h1 | h1
  · exact h j h1
  · rw [List.getElem?_eq_none (by omega), List.getElem?_eq_none (by omega)]

theorem rnew_spec (n : Int) (w : World) :
    Calls Try.prog 43 [.int .i64 n].toArray w fun r w' => ∃ rt : Nat, r = .returned (.pointer (some ⟨rt, 0, none⟩)) ∧ St w [] [(rt, rtabO (.slice none 0 0) (min (max n 0) 128))] w' := by
  refine calls_of_J (args := [.int .i64 n]) (e := [(0, .int .i64 n)]) Try.func43 rfl rfl ⟨rfl, trivial⟩ (St.start w) ?_
  refine JC.seq (fun K0 hK0 => ?_)
  refine JC.region ?_
  refine J.assign rfl rfl ?_
  refine J.nil ?_
  refine JX.thenN (hK0 _ _ ?_)
  refine JC.seq (fun K1 hK1 => ?_)
  refine JC.seq (fun K2 hK2 => ?_)
  refine JC.region ?_
  refine J.move rfl rfl ?_
  refine J.bin rfl rfl rfl rfl ?_
  refine J.nil ?_
  refine JX.thenN (hK2 _ _ ?_)
  refine JC.cond rfl (fun h0 => ?_) (fun h0 => ?_)
  · skip
    have hn0 : n < 0 := by simpa using h0
    refine JC.region ?_
    refine J.assign rfl rfl ?_
    refine J.nil ?_
    refine JX.thenN (hK1 _ _ ?_)
    refine JC.seq (fun K3 hK3 => ?_)
    refine JC.seq (fun K4 hK4 => ?_)
    refine JC.region ?_
    refine J.move rfl rfl ?_
    refine J.bin rfl rfl rfl rfl ?_
    refine J.nil ?_
    refine JX.thenN (hK4 _ _ ?_)
    first | refine JC.condF rfl ?_ | refine JC.cond rfl (fun h => by first | (exfalso; simp at h; omega) | (simp at h)) (fun _ => ?_)
    refine JC.skip ?_
    refine JX.thenN (hK3 _ _ ?_)
    refine JC.seq (fun K5 hK5 => ?_)
    refine JC.region ?_
    refine J.move rfl rfl ?_
    refine J.buildS Ty.pl94 Ty.z94 rfl rfl rfl ?_
    refine J.box rfl rfl rfl (fun b9 => ?_)
    refine J.assign rfl rfl ?_
    refine J.nil ?_
    refine JX.thenN (hK5 _ _ ?_)
    refine JC.ret ?_
    refine JX.ret1 rfl rfl (fun w hw => ?_)
    refine ⟨b9, rfl, ?_⟩
    rw [show min (max n 0) 128 = (0 : Int) from by omega]
    exact hw
  · skip
    have hn0 : ¬ n < 0 := by simpa using h0
    refine JC.skip ?_
    refine JX.thenN (hK1 _ _ ?_)
    refine JC.seq (fun K6 hK6 => ?_)
    refine JC.seq (fun K7 hK7 => ?_)
    refine JC.region ?_
    refine J.move rfl rfl ?_
    refine J.bin rfl rfl rfl rfl ?_
    refine J.nil ?_
    refine JX.thenN (hK7 _ _ ?_)
    refine JC.cond rfl (fun h1 => ?_) (fun h1 => ?_)
    · skip
      have hn1 : n > 128 := by simpa using h1
      refine JC.region ?_
      refine J.assign rfl rfl ?_
      refine J.nil ?_
      refine JX.thenN (hK6 _ _ ?_)
      refine JC.seq (fun K8 hK8 => ?_)
      refine JC.region ?_
      refine J.move rfl rfl ?_
      refine J.buildS Ty.pl94 Ty.z94 rfl rfl rfl ?_
      refine J.box rfl rfl rfl (fun b9 => ?_)
      refine J.assign rfl rfl ?_
      refine J.nil ?_
      refine JX.thenN (hK8 _ _ ?_)
      refine JC.ret ?_
      refine JX.ret1 rfl rfl (fun w hw => ?_)
      refine ⟨b9, rfl, ?_⟩
      rw [show min (max n 0) 128 = (128 : Int) from by omega]
      exact hw
    · skip
      have hn1 : ¬ n > 128 := by simpa using h1
      refine JC.skip ?_
      refine JX.thenN (hK6 _ _ ?_)
      refine JC.seq (fun K9 hK9 => ?_)
      refine JC.region ?_
      refine J.move rfl rfl ?_
      refine J.buildS Ty.pl94 Ty.z94 rfl rfl rfl ?_
      refine J.box rfl rfl rfl (fun b9 => ?_)
      refine J.assign rfl rfl ?_
      refine J.nil ?_
      refine JX.thenN (hK9 _ _ ?_)
      refine JC.ret ?_
      refine JX.ret1 rfl rfl (fun w hw => ?_)
      refine ⟨b9, rfl, ?_⟩
      rw [show min (max n 0) 128 = n from by omega]
      exact hw

theorem rget_spec (rt : Nat) (v : Value) (most : Int) (R : List EV) (w : World) (hrt : w.heap[rt]? = some (rtabO v most)) (hrv : Row w v R.length (fE R)) (hR : ∀ x, x ∈ R → okE x) (hrl : R.length ≤ 1099511627776) (p : PV) (hp : okN p.n) :
    Calls Try.prog 57 [.pointer (some ⟨rt, 0, none⟩), .agg (cP p).toArray].toArray w fun r w' => r = .returned (.tuple #[.agg (cE ((tget R p).getD zE)).toArray, .bool (tget R p).isSome]) ∧ Bel w w' := by
  obtain ⟨ar, cr, rfl, hcr, _⟩ := id hrv
  refine calls_of_J (args := [.pointer (some ⟨rt, 0, none⟩), .agg (cP p).toArray]) (e := [(0, .pointer (some ⟨rt, 0, none⟩)), (1, .agg (cP p).toArray)]) Try.func57 rfl rfl ⟨rfl, rfl, trivial⟩ (St.start w) ?_
  refine JC.seq (fun K0 hK0 => ?_)
  refine JC.region ?_
  refine J.box rfl rfl rfl (fun b3 => ?_)
  refine J.alloc Ty.zE_ rfl rfl (fun b4 => ?_)
  refine J.assign rfl rfl ?_
  refine J.nil ?_
  refine JX.thenN (hK0 _ _ ?_)
  refine JC.seq (fun K1 hK1 => ?_)
  refine JC.seq (fun K2 hK2 => ?_)
  refine JC.region ?_
  refine J.assign rfl rfl ?_
  refine J.nil ?_
  refine JX.thenN (hK2 _ _ ?_)
  refine JC.block ?_
  refine JC.conseq (JC.cov (f := (fun i => [(0, .pointer (some ⟨rt, 0, none⟩)), (3, .pointer (some ⟨b3, 0, none⟩)), (4, .pointer (some ⟨b4, 0, none⟩)), (6, .int .i64 ((i : Nat) : Int))]) 0) ⟨rfl, rfl, rfl, rfl, trivial⟩ (JC.loop (α := Nat) (fun i => [(0, .pointer (some ⟨rt, 0, none⟩)), (3, .pointer (some ⟨b3, 0, none⟩)), (4, .pointer (some ⟨b4, 0, none⟩)), (6, .int .i64 ((i : Nat) : Int))]) (fun i w' => (i ≤ R.length ∧ ∀ j y, j < i → R[j]? = some y → y.p ≠ p) ∧ St w [] [(b4, cb (cE zE) 55), (b3, cb (cP p) 38)] w') (fun i => R.length - i) 0 (fun i => ?_))) (fun w hw => ⟨⟨Nat.zero_le _, fun j y hj => by omega⟩, hw⟩)
  refine JC.pr (fun hx => ?_)
  obtain ⟨hi, hbef⟩ := hx
  refine JC.seq (fun K3 hK3 => ?_)
  refine JC.seq (fun K4 hK4 => ?_)
  refine JC.region ?_
  refine J.move rfl rfl ?_
  refine J.move rfl rfl ?_
  refine J.nilCheck rfl rfl ?_
  refine J.fieldAddr Ty.fd94_0 rfl rfl ?_
  refine J.load1 (v := .slice ar R.length cr) Ty.a25 rfl (fun w1 hw => by rw [cell_of (by rw [hw.keep rt (lt_of_some hrt) (by simp)]; exact hrt)]; rfl) rfl ?_
  refine J.lenS rfl Ty.u25 rfl rfl ?_
  refine J.bin rfl rfl rfl rfl ?_
  refine J.nil ?_
  refine JX.thenN (hK4 _ _ ?_)
  refine JC.cond rfl (fun h0 => ?_) (fun h0 => ?_)
  · skip
    have hlt : i < R.length := by simp at h0; omega
    have hflR := fE_length R
    have hclR := (Row.some hrv (by omega))
    obtain ⟨q1, o1, c1', hqe, _, _⟩ := hclR
    simp only [Value.slice.injEq] at hqe
    obtain ⟨rfl, _, rfl⟩ := hqe
    obtain ⟨xe, hxe⟩ : ∃ x, R[i]? = some x := ⟨_, List.getElem?_eq_getElem hlt⟩
    have hxo := hR xe (List.mem_of_getElem? hxe)
    refine JC.skip ?_
    refine JX.thenN (hK3 _ _ ?_)
    refine JC.seq (fun K5 hK5 => ?_)
    refine JC.block ?_
    refine JC.seq (fun K6 hK6 => ?_)
    apply JC.drawL 10 [Eqv (.pointer (some ⟨rt, 0, none⟩)), Eqv (.pointer (some ⟨rt, 0, none⟩)), Eqv (.pointer (some ⟨rt, 0 + 0, none⟩)), Eqv (.slice (some ⟨q1, o1, none⟩) R.length cr), Eqv (.int .i64 ((i : Nat) : Int)), Eqv (.pointer (some ⟨q1, o1 + (i : Int).toNat * 51, none⟩)), Eqv (.pointer (some ⟨q1, o1 + (i : Int).toNat * 51 + 0, none⟩)), Eqv (.agg (cP xe.p).toArray), Eqv (.agg (cP p).toArray), Eqv (.bool (decide (xe.p = p)))] Ty.mixed rfl rfl rfl (by kernel_rfl) rfl rfl (fun w w' hw hb => hw.step hb) ⟨fun _ _ _ h _ => h, fun _ _ _ h _ => h, fun _ _ _ h _ => h, fun _ _ _ h _ => h, fun _ _ _ h _ => h, fun _ _ _ h _ => h, fun _ _ _ h _ => h, fun _ _ _ h _ => h, fun _ _ _ h _ => h, fun _ _ _ h _ => h, trivial⟩ ?hstep ?htail
    case hstep =>
      refine ⟨fun wi => ?_, fun wi => ?_, fun wi => ?_, fun wi => ?_, fun wi => ?_, fun wi => ?_, fun wi => ?_, fun wi => ?_, fun wi => ?_, fun wi => ?_, trivial⟩
      · skip
        refine Fin.nil ?_
        refine J.move rfl rfl ?_
        exact J.finP rfl
      · skip
        refine Fin.consE rfl (Fin.nil ?_)
        refine J.nilCheck rfl rfl ?_
        exact J.finP rfl
      · skip
        refine Fin.consE rfl (Fin.nil ?_)
        refine J.fieldAddr Ty.fd94_0 rfl rfl ?_
        exact J.finP rfl
      · skip
        refine Fin.consE rfl (Fin.nil ?_)
        refine J.load1 (v := .slice (some ⟨q1, o1, none⟩) R.length cr) Ty.a25 rfl (fun w1 hw => by rw [cell_of (by rw [hw.2.keep rt (lt_of_some hrt) (by simp)]; exact hrt)]; rfl) rfl ?_
        exact J.finP rfl
      · skip
        refine Fin.nil ?_
        refine J.move rfl rfl ?_
        exact J.finP rfl
      · skip
        refine Fin.consE rfl (Fin.consE rfl (Fin.nil ?_))
        refine J.indexAddrS Ty.el25 Ty.s55 rfl rfl (by omega) (by omega) rfl ?_
        exact J.finP rfl
      · skip
        refine Fin.consE rfl (Fin.nil ?_)
        refine J.fieldAddr Ty.fd55_0 rfl rfl ?_
        exact J.finP rfl
      · skip
        refine Fin.consE rfl (Fin.nil ?_)
        refine J.loadA (vs := cP xe.p) Ty.a38 Ty.s38 rfl rfl (fun w1 hw => cells_sub (rowE_at (hrv.below (hw.2.drop (List.nil_sublist _)).below) hxe (by omega)) rfl) rfl ?_
        exact J.finP rfl
      · skip
        refine Fin.nil ?_
        refine J.loadA (vs := cP p) Ty.a38 Ty.s38 rfl rfl (fun w1 hw => Cells.of_block (hw.2.own _ (.tail _ (.head _))) rfl) rfl ?_
        exact J.finP rfl
      · skip
        refine Fin.consE rfl (Fin.consE rfl (Fin.nil ?_))
        refine J.eqP Ty.QP Ty.keyP rfl rfl hxo.1 hp rfl ?_
        exact J.finP rfl
    case htail =>
      refine Fin.consE rfl (Fin.consE rfl (Fin.consE rfl (Fin.consE rfl (Fin.consE rfl (Fin.consE rfl (Fin.consE rfl (Fin.consE rfl (Fin.consE rfl (Fin.consE rfl (Fin.nil ?_))))))))))
      refine J.nil ?_
      refine JX.thenN (hK6 _ _ ?_)
      refine JC.cond rfl (fun h1 => ?_) (fun h1 => ?_)
      · skip
        have heq : xe.p = p := by simpa using h1
        have hres := tget_at hxe heq hbef
        refine JC.seq (fun K7 hK7 => ?_)
        refine JC.region ?_
        refine J.move rfl rfl ?_
        refine J.nilCheck rfl rfl ?_
        refine J.fieldAddr Ty.fd94_0 rfl rfl ?_
        refine J.load1 (v := .slice (some ⟨q1, o1, none⟩) R.length cr) Ty.a25 rfl (fun w1 hw => by rw [cell_of (by rw [hw.keep rt (lt_of_some hrt) (by simp)]; exact hrt)]; rfl) rfl ?_
        refine J.move rfl rfl ?_
        refine J.indexAddrS Ty.el25 Ty.s55 rfl rfl (by omega) (by omega) rfl ?_
        refine J.loadA (vs := cE xe) Ty.a55 Ty.s55 rfl rfl (fun w1 hw => rowE_at (hrv.below (hw.drop (List.nil_sublist _)).below) hxe (by omega)) rfl ?_
        refine J.storeW (cs := cE zE) (vs := cE xe) Ty.s55 rfl rfl rfl rfl rfl (one_cE _) .here ?_
        refine J.assign rfl rfl ?_
        refine J.nil ?_
        refine JX.thenN (hK7 _ _ ?_)
        refine JC.ret ?_
        refine JX.blockR ?_
        refine JX.thenR ?_
        refine JX.thenR ?_
        refine JX.blockR ?_
        refine JX.thenR ?_
        refine JX.retCT rfl rfl rfl Ty.a55 Ty.s55 (vs := cE xe) rfl (fun w1 hw => Cells.of_block (hw.own _ (.head _)) rfl) (fun w1 hw => ?_)
        exact ⟨by rw [hres]; rfl, (hw.drop (List.nil_sublist _)).below⟩
      · skip
        have hne : xe.p ≠ p := by simpa using h1
        refine JC.skip ?_
        refine JX.blockN ?_
        refine JX.thenN (hK5 _ _ ?_)
        refine JC.region ?_
        refine J.move rfl rfl ?_
        (first | refine J.addN rfl rfl (by omega) (by omega) rfl ?_ | refine J.bin rfl rfl rfl rfl ?_)
        refine J.assign rfl rfl ?_
        refine J.nil ?_
        refine JX.thenN ?_
        refine JX.again (i + 1) ?_ ?_ ?_
        · omega
        · exact ⟨rfl, rfl, rfl, rfl, trivial⟩
        · exact fun w1 hw => ⟨⟨hlt, fun j y hj hy => by
          rcases Nat.lt_or_ge j i with h | h
          · exact hbef j y h hy
          · have : j = i := by omega
            subst this
            rw [hxe] at hy; cases hy; exact hne⟩, hw⟩
  · skip
    have hge : i = R.length := by simp at h0; omega
    have hres := tget_not (p := p) (fun j y hj => hbef j y (by omega))
    refine JC.exit ?_
    refine JX.thenE ?_
    refine JX.thenE ?_
    refine JX.blockE ?_
    refine JX.thenN (hK1 _ _ ?_)
    refine JC.seq (fun K8 hK8 => ?_)
    refine JC.region ?_
    refine J.buildS (cs := cE zE) Ty.pl55 Ty.zE_ rfl (by kernel_rfl) rfl ?_
    refine J.storeW (cs := cE zE) (vs := cE zE) Ty.s55 rfl rfl rfl rfl rfl (one_cE _) .here ?_
    refine J.assign rfl rfl ?_
    refine J.nil ?_
    refine JX.thenN (hK8 _ _ ?_)
    refine JC.ret ?_
    refine JX.retCT rfl rfl rfl Ty.a55 Ty.s55 (vs := cE zE) rfl (fun w1 hw => Cells.of_block (hw.own _ (.head _)) rfl) (fun w1 hw => ?_)
    exact ⟨by rw [hres]; rfl, (hw.drop (List.nil_sublist _)).below⟩

theorem via_fin {R : List EV} {n : Int} {i : Nat} (hi : i ≤ R.length) (h : ¬ i < R.length ∨ n < 0) : (R.take i).filter (viaB n) = R.filter (viaB n) := by
  rcases h with h | h
  · rw [List.take_of_length_le (by omega)]
  · have : ∀ l : List EV, l.filter (viaB n) = [] := fun l => List.filter_eq_nil_iff.2 fun x _ => by simp [viaB]; omega
    rw [this, this]

set_option maxHeartbeats 1000000 in
theorem rvia_spec (rt : Nat) (v : Value) (most : Int) (R : List EV) (w : World) (hrt : w.heap[rt]? = some (rtabO v most)) (hrv : Row w v R.length (fE R)) (hR : ∀ x, x ∈ R → okE x) (hrl : R.length ≤ 1099511627776) (n : Int) :
    Calls Try.prog 62 [.pointer (some ⟨rt, 0, none⟩), .int .i64 n].toArray w fun r w' => ∃ x : Value × List (Nat × Obj), r = .returned x.1 ∧ Vec 55 51 x.1 (R.filter (viaB n)).length (fE (R.filter (viaB n))) x.2 ∧ St w [] x.2 w' := by
  obtain ⟨ar, cr, rfl, hcr, _⟩ := id hrv
  refine calls_of_J (args := [.pointer (some ⟨rt, 0, none⟩), .int .i64 n]) (e := [(0, .pointer (some ⟨rt, 0, none⟩)), (1, .int .i64 n)]) Try.func62 rfl rfl ⟨rfl, rfl, trivial⟩ (St.start w) ?_
  refine JC.seq (fun K0 hK0 => ?_)
  refine JC.region ?_
  refine J.assign rfl rfl ?_
  refine J.nil ?_
  refine JX.thenN (hK0 _ _ ?_)
  refine JC.seq (fun K1 hK1 => ?_)
  refine JC.region ?_
  refine J.assign rfl rfl ?_
  refine J.nil ?_
  refine JX.thenN (hK1 _ _ ?_)
  refine JC.seq (fun K2 hK2 => ?_)
  refine JC.seq (fun K3 hK3 => ?_)
  refine JC.region ?_
  refine J.assign rfl rfl ?_
  refine J.nil ?_
  refine JX.thenN (hK3 _ _ ?_)
  refine JC.block ?_
  refine JC.conseq (JC.cov (f := (fun st => [(0, .pointer (some ⟨rt, 0, none⟩)), (1, .int .i64 n), (5, st.2.1), (6, .int .i64 ((st.1 : Nat) : Int))]) ((0, .slice none 0 0, []) : Nat × Value × List (Nat × Obj))) ⟨rfl, rfl, rfl, rfl, trivial⟩ (JC.loop (α := Nat × Value × List (Nat × Obj)) (fun st => [(0, .pointer (some ⟨rt, 0, none⟩)), (1, .int .i64 n), (5, st.2.1), (6, .int .i64 ((st.1 : Nat) : Int))]) (fun st w' => (st.1 ≤ R.length ∧ Vec 55 51 st.2.1 ((R.take st.1).filter (viaB n)).length (fE ((R.take st.1).filter (viaB n))) st.2.2) ∧ St w [] (st.2.2 ++ []) w') (fun st => R.length - st.1) ((0, .slice none 0 0, []) : Nat × Value × List (Nat × Obj)) (fun st => ?_))) (fun w hw => ⟨⟨Nat.zero_le _, Vec.nil _ _⟩, hw⟩)
  obtain ⟨i, vo, lo⟩ := st
  refine JC.pr (fun hx => ?_)
  obtain ⟨hi, hvo⟩ := hx
  simp only at hi hvo ⊢
  refine JC.seq (fun K4 hK4 => ?_)
  refine JC.seq (fun K5 hK5 => ?_)
  by_cases hlt : i < R.length
  · skip
    refine JC.region ?_
    refine J.move rfl rfl ?_
    refine J.move rfl rfl ?_
    refine J.nilCheck rfl rfl ?_
    refine J.fieldAddr Ty.fd94_0 rfl rfl ?_
    refine J.load1 (v := .slice ar R.length cr) Ty.a25 rfl (fun w1 hw => by rw [cell_of (by rw [hw.keep rt (lt_of_some hrt) (by simp)]; exact hrt)]; rfl) rfl ?_
    refine J.lenS rfl Ty.u25 rfl rfl ?_
    refine J.bin rfl rfl rfl rfl ?_
    refine J.name 13 rfl (show _ = Value.bool true by simp [hlt]) ?_
    refine J.move rfl rfl ?_
    first | refine J.skip rfl rfl rfl rfl rfl ?_ | refine J.skipU rfl rfl rfl rfl ?_ | (refine J.unguard rfl rfl rfl ?_; refine J.move rfl rfl ?_)
    first | refine J.skip rfl rfl rfl rfl rfl ?_ | refine J.skipU rfl rfl rfl rfl ?_ | (refine J.unguard rfl rfl rfl ?_; refine J.bin rfl rfl rfl rfl ?_)
    (first | refine J.pickT rfl rfl rfl ?_ | refine J.pickF rfl rfl rfl ?_)
    refine J.nil ?_
    refine JX.thenN (hK5 _ _ ?_)
    refine JC.cond rfl (fun h0 => ?_) (fun h0 => ?_)
    · skip
      have hn0 : 0 ≤ n := by simp at h0; omega
      have hflR := fE_length R
      have hclR := (Row.some hrv (by omega))
      obtain ⟨q1, o1, c1', hqe, _, _⟩ := hclR
      simp only [Value.slice.injEq] at hqe
      obtain ⟨rfl, _, rfl⟩ := hqe
      obtain ⟨xe, hxe⟩ : ∃ x, R[i]? = some x := ⟨_, List.getElem?_eq_getElem hlt⟩
      have hxo := hR xe (List.mem_of_getElem? hxe)
      have hvia : ∀ b : Bool, (decide (xe.na = n) || decide (xe.nb = n)) = b → viaB n xe = b := fun b h => by unfold viaB; rw [decide_eq_true hn0, Bool.true_and]; exact h
      refine JC.skip ?_
      refine JX.thenN (hK4 _ _ ?_)
      refine JC.seq (fun K6 hK6 => ?_)
      refine JC.block ?_
      refine JC.seq (fun K7 hK7 => ?_)
      by_cases hna : xe.na = n
      · skip
        have hcase : viaB n xe = true := hvia _ (by simp [hna])
        refine JC.region ?_
        refine J.move rfl rfl ?_
        refine J.nilCheck rfl rfl ?_
        refine J.fieldAddr Ty.fd94_0 rfl rfl ?_
        refine J.load1 (v := .slice (some ⟨q1, o1, none⟩) R.length cr) Ty.a25 rfl (fun w1 hw => by rw [cell_of (by rw [hw.keep rt (lt_of_some hrt) (by simp)]; exact hrt)]; rfl) rfl ?_
        refine J.move rfl rfl ?_
        refine J.indexAddrS Ty.el25 Ty.s55 rfl rfl (by omega) (by omega) rfl ?_
        refine J.fieldAddr Ty.fd55_3 rfl rfl ?_
        refine J.load1 (v := .int .i64 xe.na) Ty.a3 rfl (fun w1 hw => Cells.get (rowE_at (hrv.below (hw.drop (List.nil_sublist _)).below) hxe rfl) (i := 49) rfl (by omega)) rfl ?_
        refine J.move rfl rfl ?_
        refine J.bin rfl rfl rfl rfl ?_
        refine J.name 29 rfl (show _ = Value.bool true by simp [hna]) ?_
        refine J.move rfl rfl ?_
        first | refine J.skip rfl rfl rfl rfl rfl ?_ | refine J.skipU rfl rfl rfl rfl ?_ | (refine J.unguard rfl rfl rfl ?_; refine J.move rfl rfl ?_)
        first | refine J.skip rfl rfl rfl rfl rfl ?_ | refine J.skipU rfl rfl rfl rfl ?_ | (refine J.unguard rfl rfl rfl ?_; refine J.nilCheck rfl rfl ?_)
        first | refine J.skip rfl rfl rfl rfl rfl ?_ | refine J.skipU rfl rfl rfl rfl ?_ | (refine J.unguard rfl rfl rfl ?_; refine J.fieldAddr Ty.fd94_0 rfl rfl ?_)
        first | refine J.skip rfl rfl rfl rfl rfl ?_ | refine J.skipU rfl rfl rfl rfl ?_ | (refine J.unguard rfl rfl rfl ?_; refine J.load1 (v := .slice (some ⟨q1, o1, none⟩) R.length cr) Ty.a25 rfl (fun w1 hw => by rw [cell_of (by rw [hw.keep rt (lt_of_some hrt) (by simp)]; exact hrt)]; rfl) rfl ?_)
        first | refine J.skip rfl rfl rfl rfl rfl ?_ | refine J.skipU rfl rfl rfl rfl ?_ | (refine J.unguard rfl rfl rfl ?_; refine J.move rfl rfl ?_)
        first | refine J.skip rfl rfl rfl rfl rfl ?_ | refine J.skipU rfl rfl rfl rfl ?_ | (refine J.unguard rfl rfl rfl ?_; refine J.indexAddrS Ty.el25 Ty.s55 rfl rfl (by omega) (by omega) rfl ?_)
        first | refine J.skip rfl rfl rfl rfl rfl ?_ | refine J.skipU rfl rfl rfl rfl ?_ | (refine J.unguard rfl rfl rfl ?_; refine J.fieldAddr Ty.fd55_4 rfl rfl ?_)
        first | refine J.skip rfl rfl rfl rfl rfl ?_ | refine J.skipU rfl rfl rfl rfl ?_ | (refine J.unguard rfl rfl rfl ?_; refine J.load1 (v := .int .i64 xe.nb) Ty.a3 rfl (fun w1 hw => Cells.get (rowE_at (hrv.below (hw.drop (List.nil_sublist _)).below) hxe rfl) (i := 50) rfl (by omega)) rfl ?_)
        first | refine J.skip rfl rfl rfl rfl rfl ?_ | refine J.skipU rfl rfl rfl rfl ?_ | (refine J.unguard rfl rfl rfl ?_; refine J.move rfl rfl ?_)
        first | refine J.skip rfl rfl rfl rfl rfl ?_ | refine J.skipU rfl rfl rfl rfl ?_ | (refine J.unguard rfl rfl rfl ?_; refine J.bin rfl rfl rfl rfl ?_)
        (first | refine J.pickT rfl rfl rfl ?_ | refine J.pickF rfl rfl rfl ?_)
        refine J.nil ?_
        refine JX.thenN (hK7 _ _ ?_)
        first | refine JC.condT rfl ?_ | refine JC.cond rfl (fun _ => ?_) (fun h => by first | (exfalso; simp at h; omega) | (simp at h))
        refine JC.region ?_
        refine J.move rfl rfl ?_
        refine J.move rfl rfl ?_
        refine J.nilCheck rfl rfl ?_
        refine J.fieldAddr Ty.fd94_0 rfl rfl ?_
        refine J.load1 (v := .slice (some ⟨q1, o1, none⟩) R.length cr) Ty.a25 rfl (fun w1 hw => by rw [cell_of (by rw [hw.keep rt (lt_of_some hrt) (by simp)]; exact hrt)]; rfl) rfl ?_
        refine J.move rfl rfl ?_
        refine J.indexAddrS Ty.el25 Ty.s55 rfl rfl (by omega) (by omega) rfl ?_
        refine J.loadA (vs := cE xe) Ty.a55 Ty.s55 rfl rfl (fun w1 hw => rowE_at (hrv.below (hw.drop (List.nil_sublist _)).below) hxe (by omega)) rfl ?_
        refine J.buildSl (cs := cE xe) Ty.el25 Ty.s55 Ty.zE_ rfl rfl rfl rfl (by kernel_rfl) rfl rfl (fun b50 => ?_)
        have hol : ((R.take i).filter (viaB n)).length ≤ i := Nat.le_trans (List.length_filter_le _ _) (by rw [List.length_take]; omega)
        refine J.perm (lo ++ ((b50, cb (cE xe) 55) :: [])) (by (refine perm_cnt (fun _ => ?_)); simp only [cntB_append, cntB_cons, cntB_nil, Nat.add_zero, Nat.zero_add]; try ac_rfl) ?_
        refine J.append (lp := lo) (xs := fE ((R.take i).filter (viaB n))) (ys := cE xe) (k := ((R.take i).filter (viaB n)).length) (m := 1) Ty.el25 Ty.s55 Ty.b55 Ty.zE_ rfl (.inl ⟨55, Ty.u25⟩) rfl rfl hvo (fun w3 hw3 => .inl (Row.own hw3 (List.mem_append_right _ (.head _)) rfl (Nat.le_refl _))) rfl (one_cE xe) (by omega) (by omega) rfl (fun vn ln hvn => ?_)
        refine J.assign rfl rfl ?_
        refine J.nil ?_
        refine JX.blockN ?_
        refine JX.thenN (hK6 _ _ ?_)
        refine JC.region ?_
        refine J.move rfl rfl ?_
        (first | refine J.addN rfl rfl (by omega) (by omega) rfl ?_ | refine J.bin rfl rfl rfl rfl ?_)
        refine J.assign rfl rfl ?_
        refine J.nil ?_
        refine JX.thenN ?_
        refine JX.again ((i + 1, vn, ln) : Nat × Value × List (Nat × Obj)) ?_ ?_ ?_
        · simp only; omega
        · exact ⟨rfl, rfl, rfl, rfl, trivial⟩
        · exact fun w1 hw => ⟨⟨hlt, by rw [filter_stepE hxe, if_pos hcase, List.length_append, fE_append]; simpa [fE] using hvn⟩, hw.drop (List.Sublist.append_left (List.sublist_cons_self _ _) _)⟩
      · skip
        refine JC.region ?_
        refine J.move rfl rfl ?_
        refine J.nilCheck rfl rfl ?_
        refine J.fieldAddr Ty.fd94_0 rfl rfl ?_
        refine J.load1 (v := .slice (some ⟨q1, o1, none⟩) R.length cr) Ty.a25 rfl (fun w1 hw => by rw [cell_of (by rw [hw.keep rt (lt_of_some hrt) (by simp)]; exact hrt)]; rfl) rfl ?_
        refine J.move rfl rfl ?_
        refine J.indexAddrS Ty.el25 Ty.s55 rfl rfl (by omega) (by omega) rfl ?_
        refine J.fieldAddr Ty.fd55_3 rfl rfl ?_
        refine J.load1 (v := .int .i64 xe.na) Ty.a3 rfl (fun w1 hw => Cells.get (rowE_at (hrv.below (hw.drop (List.nil_sublist _)).below) hxe rfl) (i := 49) rfl (by omega)) rfl ?_
        refine J.move rfl rfl ?_
        refine J.bin rfl rfl rfl rfl ?_
        refine J.name 29 rfl (show _ = Value.bool false by simp [hna]) ?_
        refine J.move rfl rfl ?_
        first | refine J.skip rfl rfl rfl rfl rfl ?_ | refine J.skipU rfl rfl rfl rfl ?_ | (refine J.unguard rfl rfl rfl ?_; refine J.move rfl rfl ?_)
        first | refine J.skip rfl rfl rfl rfl rfl ?_ | refine J.skipU rfl rfl rfl rfl ?_ | (refine J.unguard rfl rfl rfl ?_; refine J.nilCheck rfl rfl ?_)
        first | refine J.skip rfl rfl rfl rfl rfl ?_ | refine J.skipU rfl rfl rfl rfl ?_ | (refine J.unguard rfl rfl rfl ?_; refine J.fieldAddr Ty.fd94_0 rfl rfl ?_)
        first | refine J.skip rfl rfl rfl rfl rfl ?_ | refine J.skipU rfl rfl rfl rfl ?_ | (refine J.unguard rfl rfl rfl ?_; refine J.load1 (v := .slice (some ⟨q1, o1, none⟩) R.length cr) Ty.a25 rfl (fun w1 hw => by rw [cell_of (by rw [hw.keep rt (lt_of_some hrt) (by simp)]; exact hrt)]; rfl) rfl ?_)
        first | refine J.skip rfl rfl rfl rfl rfl ?_ | refine J.skipU rfl rfl rfl rfl ?_ | (refine J.unguard rfl rfl rfl ?_; refine J.move rfl rfl ?_)
        first | refine J.skip rfl rfl rfl rfl rfl ?_ | refine J.skipU rfl rfl rfl rfl ?_ | (refine J.unguard rfl rfl rfl ?_; refine J.indexAddrS Ty.el25 Ty.s55 rfl rfl (by omega) (by omega) rfl ?_)
        first | refine J.skip rfl rfl rfl rfl rfl ?_ | refine J.skipU rfl rfl rfl rfl ?_ | (refine J.unguard rfl rfl rfl ?_; refine J.fieldAddr Ty.fd55_4 rfl rfl ?_)
        first | refine J.skip rfl rfl rfl rfl rfl ?_ | refine J.skipU rfl rfl rfl rfl ?_ | (refine J.unguard rfl rfl rfl ?_; refine J.load1 (v := .int .i64 xe.nb) Ty.a3 rfl (fun w1 hw => Cells.get (rowE_at (hrv.below (hw.drop (List.nil_sublist _)).below) hxe rfl) (i := 50) rfl (by omega)) rfl ?_)
        first | refine J.skip rfl rfl rfl rfl rfl ?_ | refine J.skipU rfl rfl rfl rfl ?_ | (refine J.unguard rfl rfl rfl ?_; refine J.move rfl rfl ?_)
        first | refine J.skip rfl rfl rfl rfl rfl ?_ | refine J.skipU rfl rfl rfl rfl ?_ | (refine J.unguard rfl rfl rfl ?_; refine J.bin rfl rfl rfl rfl ?_)
        (first | refine J.pickT rfl rfl rfl ?_ | refine J.pickF rfl rfl rfl ?_)
        refine J.nil ?_
        refine JX.thenN (hK7 _ _ ?_)
        refine JC.cond rfl (fun h1 => ?_) (fun h1 => ?_)
        · skip
          have hcase : viaB n xe = true := hvia _ (by simp at h1; simp [h1])
          refine JC.region ?_
          refine J.move rfl rfl ?_
          refine J.move rfl rfl ?_
          refine J.nilCheck rfl rfl ?_
          refine J.fieldAddr Ty.fd94_0 rfl rfl ?_
          refine J.load1 (v := .slice (some ⟨q1, o1, none⟩) R.length cr) Ty.a25 rfl (fun w1 hw => by rw [cell_of (by rw [hw.keep rt (lt_of_some hrt) (by simp)]; exact hrt)]; rfl) rfl ?_
          refine J.move rfl rfl ?_
          refine J.indexAddrS Ty.el25 Ty.s55 rfl rfl (by omega) (by omega) rfl ?_
          refine J.loadA (vs := cE xe) Ty.a55 Ty.s55 rfl rfl (fun w1 hw => rowE_at (hrv.below (hw.drop (List.nil_sublist _)).below) hxe (by omega)) rfl ?_
          refine J.buildSl (cs := cE xe) Ty.el25 Ty.s55 Ty.zE_ rfl rfl rfl rfl (by kernel_rfl) rfl rfl (fun b50 => ?_)
          have hol : ((R.take i).filter (viaB n)).length ≤ i := Nat.le_trans (List.length_filter_le _ _) (by rw [List.length_take]; omega)
          refine J.perm (lo ++ ((b50, cb (cE xe) 55) :: [])) (by (refine perm_cnt (fun _ => ?_)); simp only [cntB_append, cntB_cons, cntB_nil, Nat.add_zero, Nat.zero_add]; try ac_rfl) ?_
          refine J.append (lp := lo) (xs := fE ((R.take i).filter (viaB n))) (ys := cE xe) (k := ((R.take i).filter (viaB n)).length) (m := 1) Ty.el25 Ty.s55 Ty.b55 Ty.zE_ rfl (.inl ⟨55, Ty.u25⟩) rfl rfl hvo (fun w3 hw3 => .inl (Row.own hw3 (List.mem_append_right _ (.head _)) rfl (Nat.le_refl _))) rfl (one_cE xe) (by omega) (by omega) rfl (fun vn ln hvn => ?_)
          refine J.assign rfl rfl ?_
          refine J.nil ?_
          refine JX.blockN ?_
          refine JX.thenN (hK6 _ _ ?_)
          refine JC.region ?_
          refine J.move rfl rfl ?_
          (first | refine J.addN rfl rfl (by omega) (by omega) rfl ?_ | refine J.bin rfl rfl rfl rfl ?_)
          refine J.assign rfl rfl ?_
          refine J.nil ?_
          refine JX.thenN ?_
          refine JX.again ((i + 1, vn, ln) : Nat × Value × List (Nat × Obj)) ?_ ?_ ?_
          · simp only; omega
          · exact ⟨rfl, rfl, rfl, rfl, trivial⟩
          · exact fun w1 hw => ⟨⟨hlt, by rw [filter_stepE hxe, if_pos hcase, List.length_append, fE_append]; simpa [fE] using hvn⟩, hw.drop (List.Sublist.append_left (List.sublist_cons_self _ _) _)⟩
        · skip
          have hcase : viaB n xe = false := hvia _ (by simp at h1; simp [h1, hna])
          refine JC.skip ?_
          refine JX.blockN ?_
          refine JX.thenN (hK6 _ _ ?_)
          refine JC.region ?_
          refine J.move rfl rfl ?_
          (first | refine J.addN rfl rfl (by omega) (by omega) rfl ?_ | refine J.bin rfl rfl rfl rfl ?_)
          refine J.assign rfl rfl ?_
          refine J.nil ?_
          refine JX.thenN ?_
          refine JX.again ((i + 1, vo, lo) : Nat × Value × List (Nat × Obj)) ?_ ?_ ?_
          · simp only; omega
          · exact ⟨rfl, rfl, rfl, rfl, trivial⟩
          · exact fun w1 hw => ⟨⟨hlt, by rw [filter_stepE hxe, if_neg (by rw [hcase]; decide), List.append_nil]; exact hvo⟩, hw⟩
    · skip
      have hout : ¬ i < R.length ∨ n < 0 := by simp at h0; omega
      refine JC.exit ?_
      refine JX.thenE ?_
      refine JX.thenE ?_
      refine JX.blockE ?_
      refine JX.thenN (hK2 _ _ ?_)
      refine JC.seq (fun K8 hK8 => ?_)
      refine JC.region ?_
      refine J.move rfl rfl ?_
      refine J.assign rfl rfl ?_
      refine J.nil ?_
      refine JX.thenN (hK8 _ _ ?_)
      refine JC.ret ?_
      refine JX.ret1 rfl rfl (fun w hw => ?_)
      exact ⟨(vo, lo), rfl, by rw [via_fin hi hout] at hvo; exact hvo, hw.drop (List.sublist_append_left _ _)⟩
  · skip
    have hout : ¬ i < R.length ∨ n < 0 := .inl hlt
    refine JC.region ?_
    refine J.move rfl rfl ?_
    refine J.move rfl rfl ?_
    refine J.nilCheck rfl rfl ?_
    refine J.fieldAddr Ty.fd94_0 rfl rfl ?_
    refine J.load1 (v := .slice ar R.length cr) Ty.a25 rfl (fun w1 hw => by rw [cell_of (by rw [hw.keep rt (lt_of_some hrt) (by simp)]; exact hrt)]; rfl) rfl ?_
    refine J.lenS rfl Ty.u25 rfl rfl ?_
    refine J.bin rfl rfl rfl rfl ?_
    refine J.name 13 rfl (show _ = Value.bool false by simp [hlt]) ?_
    refine J.move rfl rfl ?_
    first | refine J.skip rfl rfl rfl rfl rfl ?_ | refine J.skipU rfl rfl rfl rfl ?_ | (refine J.unguard rfl rfl rfl ?_; refine J.move rfl rfl ?_)
    first | refine J.skip rfl rfl rfl rfl rfl ?_ | refine J.skipU rfl rfl rfl rfl ?_ | (refine J.unguard rfl rfl rfl ?_; refine J.bin rfl rfl rfl rfl ?_)
    (first | refine J.pickT rfl rfl rfl ?_ | refine J.pickF rfl rfl rfl ?_)
    refine J.nil ?_
    refine JX.thenN (hK5 _ _ ?_)
    first | refine JC.condF rfl ?_ | refine JC.cond rfl (fun h => by first | (exfalso; simp at h; omega) | (simp at h)) (fun _ => ?_)
    refine JC.exit ?_
    refine JX.thenE ?_
    refine JX.thenE ?_
    refine JX.blockE ?_
    refine JX.thenN (hK2 _ _ ?_)
    refine JC.seq (fun K9 hK9 => ?_)
    refine JC.region ?_
    refine J.move rfl rfl ?_
    refine J.assign rfl rfl ?_
    refine J.nil ?_
    refine JX.thenN (hK9 _ _ ?_)
    refine JC.ret ?_
    refine JX.ret1 rfl rfl (fun w hw => ?_)
    exact ⟨(vo, lo), rfl, by rw [via_fin hi hout] at hvo; exact hvo, hw.drop (List.sublist_append_left _ _)⟩

theorem rsame_spec (v1 v2 : Value) (xs ys : List EV) (w : World) (hr1 : Row w v1 xs.length (fE xs)) (hr2 : Row w v2 ys.length (fE ys)) (hx : ∀ x, x ∈ xs → okE x) (hy : ∀ x, x ∈ ys → okE x) (hl1 : xs.length < 4611686018427387904) (hl2 : ys.length < 4611686018427387904) :
    Calls Try.prog 36 [v1, v2].toArray w fun r w' => r = .returned (.bool (decide (xs = ys))) ∧ Bel w w' := by
  obtain ⟨a1, c1, rfl, hc1, _⟩ := id hr1
  obtain ⟨a2, c2, rfl, hc2, _⟩ := id hr2
  refine calls_of_J (args := [.slice a1 xs.length c1, .slice a2 ys.length c2]) (e := [(0, .slice a1 xs.length c1), (1, .slice a2 ys.length c2)]) Try.func36 rfl rfl ⟨rfl, rfl, trivial⟩ (St.start w) ?_
  refine JC.seq (fun K0 hK0 => ?_)
  refine JC.region ?_
  refine J.assign rfl rfl ?_
  refine J.nil ?_
  refine JX.thenN (hK0 _ _ ?_)
  refine JC.seq (fun K1 hK1 => ?_)
  refine JC.seq (fun K2 hK2 => ?_)
  refine JC.region ?_
  refine J.move rfl rfl ?_
  refine J.lenS rfl Ty.u25 rfl rfl ?_
  refine J.move rfl rfl ?_
  refine J.lenS rfl Ty.u25 rfl rfl ?_
  refine J.bin rfl rfl rfl rfl ?_
  refine J.nil ?_
  refine JX.thenN (hK2 _ _ ?_)
  refine JC.cond rfl (fun h0 => ?_) (fun h0 => ?_)
  · skip
    have hne : xs.length ≠ ys.length := by simp at h0; omega
    have hres : decide (xs = ys) = false := by simp; intro e; exact hne (by rw [e])
    refine JC.seq (fun K3 hK3 => ?_)
    refine JC.region ?_
    refine J.assign rfl rfl ?_
    refine J.nil ?_
    refine JX.thenN (hK3 _ _ ?_)
    refine JC.ret ?_
    refine JX.thenR ?_
    refine JX.ret1 rfl rfl (fun w hw => ?_)
    exact ⟨by rw [hres], hw.below⟩
  · skip
    have hle : xs.length = ys.length := by simp at h0; omega
    refine JC.skip ?_
    refine JX.thenN (hK1 _ _ ?_)
    refine JC.seq (fun K4 hK4 => ?_)
    refine JC.seq (fun K5 hK5 => ?_)
    refine JC.region ?_
    refine J.assign rfl rfl ?_
    refine J.nil ?_
    refine JX.thenN (hK5 _ _ ?_)
    refine JC.block ?_
    refine JC.conseq (JC.cov (f := (fun i => [(0, .slice a1 xs.length c1), (1, .slice a2 ys.length c2), (5, .int .i64 ((i : Nat) : Int))]) 0) ⟨rfl, rfl, rfl, trivial⟩ (JC.loop (α := Nat) (fun i => [(0, .slice a1 xs.length c1), (1, .slice a2 ys.length c2), (5, .int .i64 ((i : Nat) : Int))]) (fun i w' => (i ≤ xs.length ∧ ∀ j, j < i → xs[j]? = ys[j]?) ∧ St w [] [] w') (fun i => xs.length - i) 0 (fun i => ?_))) (fun w hw => ⟨⟨Nat.zero_le _, fun j hj => by omega⟩, hw⟩)
    refine JC.pr (fun hx => ?_)
    obtain ⟨hi, hpre⟩ := hx
    refine JC.seq (fun K6 hK6 => ?_)
    refine JC.seq (fun K7 hK7 => ?_)
    refine JC.region ?_
    refine J.move rfl rfl ?_
    refine J.move rfl rfl ?_
    refine J.lenS rfl Ty.u25 rfl rfl ?_
    refine J.bin rfl rfl rfl rfl ?_
    refine J.nil ?_
    refine JX.thenN (hK7 _ _ ?_)
    refine JC.cond rfl (fun h1 => ?_) (fun h1 => ?_)
    · skip
      have hlt : i < xs.length := by simp at h1; omega
      have hlt2 : i < ys.length := by omega
      have hfxs := fE_length xs
      have hcl := (Row.some hr1 (by omega))
      obtain ⟨q1, o1, c1', hqe, _, _⟩ := hcl
      simp only [Value.slice.injEq] at hqe
      obtain ⟨rfl, _, rfl⟩ := hqe
      have hfys := fE_length ys
      have hcl := (Row.some hr2 (by omega))
      obtain ⟨q2, o2, c2', hqe, _, _⟩ := hcl
      simp only [Value.slice.injEq] at hqe
      obtain ⟨rfl, _, rfl⟩ := hqe
      obtain ⟨xa, hxa⟩ : ∃ x, xs[i]? = some x := ⟨_, List.getElem?_eq_getElem hlt⟩
      obtain ⟨yb, hyb⟩ : ∃ x, ys[i]? = some x := ⟨_, List.getElem?_eq_getElem hlt2⟩
      have hxo := hx xa (List.mem_of_getElem? hxa)
      have hyo := hy yb (List.mem_of_getElem? hyb)
      refine JC.skip ?_
      refine JX.thenN (hK6 _ _ ?_)
      refine JC.seq (fun K8 hK8 => ?_)
      refine JC.block ?_
      refine JC.seq (fun K9 hK9 => ?_)
      apply JC.drawL 9 [Eqv (.slice (some ⟨q1, o1, none⟩) xs.length c1), Eqv (.int .i64 ((i : Nat) : Int)), Eqv (.pointer (some ⟨q1, o1 + (i : Int).toNat * 51, none⟩)), Eqv (.agg (cE xa).toArray), Eqv (.slice (some ⟨q2, o2, none⟩) ys.length c2), Eqv (.int .i64 ((i : Nat) : Int)), Eqv (.pointer (some ⟨q2, o2 + (i : Int).toNat * 51, none⟩)), Eqv (.agg (cE yb).toArray), Eqv (.bool (!decide (xa = yb)))] Ty.mixed rfl rfl rfl (by kernel_rfl) rfl rfl (fun w w' hw hb => hw.step hb) ⟨fun _ _ _ h _ => h, fun _ _ _ h _ => h, fun _ _ _ h _ => h, fun _ _ _ h _ => h, fun _ _ _ h _ => h, fun _ _ _ h _ => h, fun _ _ _ h _ => h, fun _ _ _ h _ => h, fun _ _ _ h _ => h, trivial⟩ ?hstep ?htail
      case hstep =>
        refine ⟨fun wi => ?_, fun wi => ?_, fun wi => ?_, fun wi => ?_, fun wi => ?_, fun wi => ?_, fun wi => ?_, fun wi => ?_, fun wi => ?_, trivial⟩
        · skip
          refine Fin.nil ?_
          refine J.move rfl rfl ?_
          exact J.finP rfl
        · skip
          refine Fin.nil ?_
          refine J.move rfl rfl ?_
          exact J.finP rfl
        · skip
          refine Fin.consE rfl (Fin.consE rfl (Fin.nil ?_))
          refine J.indexAddrS Ty.el25 Ty.s55 rfl rfl (by omega) (by omega) rfl ?_
          exact J.finP rfl
        · skip
          refine Fin.consE rfl (Fin.nil ?_)
          refine J.loadA (vs := cE xa) Ty.a55 Ty.s55 rfl rfl (fun w1 hw => rowE_at (hr1.below hw.2.below) hxa (by omega)) rfl ?_
          exact J.finP rfl
        · skip
          refine Fin.nil ?_
          refine J.move rfl rfl ?_
          exact J.finP rfl
        · skip
          refine Fin.nil ?_
          refine J.move rfl rfl ?_
          exact J.finP rfl
        · skip
          refine Fin.consE rfl (Fin.consE rfl (Fin.nil ?_))
          refine J.indexAddrS Ty.el25 Ty.s55 rfl rfl (by omega) (by omega) rfl ?_
          exact J.finP rfl
        · skip
          refine Fin.consE rfl (Fin.nil ?_)
          refine J.loadA (vs := cE yb) Ty.a55 Ty.s55 rfl rfl (fun w1 hw => rowE_at (hr2.below hw.2.below) hyb (by omega)) rfl ?_
          exact J.finP rfl
        · skip
          refine Fin.consE rfl (Fin.consE rfl (Fin.nil ?_))
          refine J.neE Ty.QE Ty.keyE rfl rfl hxo hyo rfl ?_
          exact J.finP rfl
      case htail =>
        refine Fin.consE rfl (Fin.consE rfl (Fin.consE rfl (Fin.consE rfl (Fin.consE rfl (Fin.consE rfl (Fin.consE rfl (Fin.consE rfl (Fin.consE rfl (Fin.nil ?_)))))))))
        refine J.nil ?_
        refine JX.thenN (hK9 _ _ ?_)
        refine JC.cond rfl (fun h2 => ?_) (fun h2 => ?_)
        · skip
          have hne : xa ≠ yb := by simpa using h2
          have hres : decide (xs = ys) = false := by rw [decide_eq_false_iff_not]; intro e; rw [e, hyb] at hxa; cases hxa; exact hne rfl
          refine JC.seq (fun K10 hK10 => ?_)
          refine JC.region ?_
          refine J.assign rfl rfl ?_
          refine J.nil ?_
          refine JX.thenN (hK10 _ _ ?_)
          refine JC.ret ?_
          refine JX.blockR ?_
          refine JX.thenR ?_
          refine JX.thenR ?_
          refine JX.blockR ?_
          refine JX.thenR ?_
          refine JX.ret1 rfl rfl (fun w hw => ?_)
          exact ⟨by rw [hres], hw.below⟩
        · skip
          have heq : xa = yb := by simpa using h2
          refine JC.skip ?_
          refine JX.blockN ?_
          refine JX.thenN (hK8 _ _ ?_)
          refine JC.region ?_
          refine J.move rfl rfl ?_
          (first | refine J.addN rfl rfl (by omega) (by omega) rfl ?_ | refine J.bin rfl rfl rfl rfl ?_)
          refine J.assign rfl rfl ?_
          refine J.nil ?_
          refine JX.thenN ?_
          refine JX.again (i + 1) ?_ ?_ ?_
          · omega
          · exact ⟨rfl, rfl, rfl, trivial⟩
          · exact fun w1 hw => ⟨⟨hlt, fun j hj => by
            rcases Nat.lt_or_ge j i with h | h
            · exact hpre j h
            · have : j = i := by omega
              subst this
              rw [hxa, hyb, heq]⟩, hw⟩
    · skip
      have hge : i = xs.length := by simp at h1; omega
      have hres : decide (xs = ys) = true := by simpa using same_uptoE hle hpre hge
      refine JC.exit ?_
      refine JX.thenE ?_
      refine JX.thenE ?_
      refine JX.blockE ?_
      refine JX.thenN (hK4 _ _ ?_)
      refine JC.seq (fun K11 hK11 => ?_)
      refine JC.region ?_
      refine J.assign rfl rfl ?_
      refine J.nil ?_
      refine JX.thenN (hK11 _ _ ?_)
      refine JC.ret ?_
      refine JX.ret1 rfl rfl (fun w hw => ?_)
      exact ⟨by rw [hres], hw.below⟩

end Go.Proofs.Ytohldionclgljaa
