/-
  The document's Want: contract.
-/
import Derived.Test.YtbafhclandendaaLd
namespace Go.Proofs.Ytbafhclandendaa
open Go.J Go.RowKit
set_option linter.unusedVariables false
set_option linter.unusedSimpArgs false
set_option maxRecDepth 4000
noncomputable def wP (me : IDV) (L : List IDV) (half : Int) (x : IDV) : Bool := decide ((rI me L x : Int) < half) || decide ((lI me L x : Int) < half)
theorem wantI_eq (me : IDV) (xs : List IDV) (half : Int) : wantI me xs half = (sortI xs me).filter (wP me (sortI xs me) half) := rfl
structure WK where
  k : Nat
  r : Nat
  l : Nat
theorem countP_step {p : IDV → Bool} {L : List IDV} {k : Nat} {y : IDV} (h : L[k]? = some y) : (L.take (k + 1)).countP p = (L.take k).countP p + if p y then 1 else 0 := by
  have hl := (List.getElem?_eq_some_iff.1 h).1
  have hx : L[k] = y := (List.getElem?_eq_some_iff.1 h).2
  rw [take_add_one hl, List.countP_append, hx, List.countP_singleton]
theorem filter_step {p : IDV → Bool} {L : List IDV} {k : Nat} {y : IDV} (h : L[k]? = some y) : (L.take (k + 1)).filter p = (L.take k).filter p ++ if p y then [y] else [] := by
  have hl := (List.getElem?_eq_some_iff.1 h).1
  have hx : L[k] = y := (List.getElem?_eq_some_iff.1 h).2
  rw [take_add_one hl, List.filter_append, hx]
  congr 1
  by_cases hp : p y <;> simp [hp]
theorem countP_le {p : IDV → Bool} {L : List IDV} {k : Nat} : (L.take k).countP p ≤ k := by
  have h := List.countP_le_length (p := p) (l := L.take k)
  rw [List.length_take] at h
  omega

theorem rwant_spec (self : IDV) (v : Value) (xs : List IDV) (half : Int) (w : World) (hr : Row w v xs.length (fI xs)) (hl : xs.length ≤ 1099511627776) :
    Calls Try.prog 21 [.agg (cI self).toArray, v, .int .i64 half].toArray w fun r w' => ∃ x : Value × List (Nat × Obj), r = .returned x.1 ∧ Vec 23 16 x.1 (wantI self xs half).length (fI (wantI self xs half)) x.2 ∧ St w [] x.2 w' := by
  refine calls_of_J (args := [.agg (cI self).toArray, v, .int .i64 half]) (e := [(0, .agg (cI self).toArray), (1, v), (2, .int .i64 half)]) Try.func21 rfl rfl ⟨rfl, rfl, rfl, trivial⟩ (St.start w) ?_
  refine JC.seq (fun K0 hK0 => ?_)
  refine JC.region ?_
  refine J.box rfl rfl rfl (fun b3 => ?_)
  refine J.assign rfl rfl ?_
  refine J.nil ?_
  refine JX.thenN (hK0 _ _ ?_)
  refine JC.seq (fun K1 hK1 => ?_)
  refine JC.region ?_
  refine J.loadOA (vs := cI self) Ty.a23 Ty.s23 rfl (by repeat first | exact .head _ | apply List.Mem.tail | apply List.mem_append_right) (by exact rfl) rfl rfl ?_
  refine J.move rfl rfl ?_
  refine J.callS (α := Value × List (Nat × Obj)) (V := (·.1)) (Pr := fun x => Vec 23 16 x.1 (sortI xs self).length (fI (sortI xs self)) x.2) (L := (·.2)) (l1 := []) (l := [(b3, cb (cI self) 23)]) Ty.bd44 rfl rfl (fun w1 hw => rsorted_spec self v xs w1 (hr.st (.inr (by simp)) hw) (by omega)) (fun x hvs => ?_)
  obtain ⟨vs, lsrt⟩ := x
  simp only at hvs ⊢
  have hsl := sortI_le xs self
  have hwe := wantI_eq self xs half
  generalize hL : sortI xs self = L at hvs hsl hwe
  obtain ⟨aq, cq, rfl, hcs⟩ := hvs.form
  refine J.assign rfl rfl ?_
  refine J.nil ?_
  refine JX.thenN (hK1 _ _ ?_)
  refine JC.seq (fun K2 hK2 => ?_)
  refine JC.region ?_
  refine J.assign rfl rfl ?_
  refine J.nil ?_
  refine JX.thenN (hK2 _ _ ?_)
  refine JC.seq (fun K3 hK3 => ?_)
  refine JC.seq (fun K4 hK4 => ?_)
  refine JC.region ?_
  refine J.assign rfl rfl ?_
  refine J.nil ?_
  refine JX.thenN (hK4 _ _ ?_)
  refine JC.block ?_
  refine JC.conseq (JC.cov (f := (fun st => [(2, .int .i64 half), (3, .pointer (some ⟨b3, 0, none⟩)), (7, .slice aq L.length cq), (8, .slice st.a st.out.length st.c), (9, .int .i64 ((st.i : Nat) : Int))]) (⟨0, [], none, 0, []⟩ : RS)) ⟨rfl, rfl, rfl, rfl, rfl, trivial⟩ (JC.loop (α := RS) (fun st => [(2, .int .i64 half), (3, .pointer (some ⟨b3, 0, none⟩)), (7, .slice aq L.length cq), (8, .slice st.a st.out.length st.c), (9, .int .i64 ((st.i : Nat) : Int))]) (fun st w' => (st.i ≤ L.length ∧ st.out = (L.take st.i).filter (wP self L half) ∧ Vec 23 16 (.slice st.a st.out.length st.c) st.out.length (fI st.out) st.lp) ∧ St w [] (st.lp ++ ((b3, cb (cI self) 23) :: lsrt)) w') (fun st => L.length - st.i) (⟨0, [], none, 0, []⟩ : RS) (fun st => ?_))) (fun w hw => ⟨⟨Nat.zero_le _, rfl, Vec.nil _ _⟩, hw.perm (by (refine perm_cnt (fun _ => ?_)); simp only [cntB_append, cntB_cons, cntB_nil, Nat.add_zero, Nat.zero_add]; try ac_rfl)⟩)
  obtain ⟨i, out, a, c, lp⟩ := st
  refine JC.pr (fun hI => ?_)
  obtain ⟨hi, ho, hvo⟩ := hI
  simp only at hi ho hvo ⊢
  have hol : out.length ≤ L.length := by rw [ho]; exact Nat.le_trans (List.length_filter_le _ _) (by rw [List.length_take]; omega)
  refine JC.seq (fun K5 hK5 => ?_)
  refine JC.seq (fun K6 hK6 => ?_)
  refine JC.region ?_
  refine J.move rfl rfl ?_
  refine J.move rfl rfl ?_
  refine J.lenS rfl Ty.u24 rfl rfl ?_
  refine J.bin rfl rfl rfl rfl ?_
  refine J.nil ?_
  refine JX.thenN (hK6 _ _ ?_)
  refine JC.cond rfl (fun h0 => ?_) (fun h0 => ?_)
  · skip
    have hlt : i < L.length := by simp at h0; omega
    obtain ⟨qq, spq, rfl, rfl, hsq, hcq⟩ := vecI_pos hvs (by omega)
    obtain ⟨x, hx⟩ : ∃ x, L[i]? = some x := ⟨_, List.getElem?_eq_getElem hlt⟩
    refine JC.skip ?_
    refine JX.thenN (hK5 _ _ ?_)
    refine JC.seq (fun K7 hK7 => ?_)
    refine JC.block ?_
    refine JC.seq (fun K8 hK8 => ?_)
    refine JC.region ?_
    refine J.assign rfl rfl ?_
    refine J.assign rfl rfl ?_
    refine J.nil ?_
    refine JX.thenN (hK8 _ _ ?_)
    refine JC.seq (fun K9 hK9 => ?_)
    refine JC.seq (fun K10 hK10 => ?_)
    refine JC.region ?_
    refine J.assign rfl rfl ?_
    refine J.nil ?_
    refine JX.thenN (hK10 _ _ ?_)
    refine JC.block ?_
    refine JC.conseq (JC.cov (f := (fun st => [(2, .int .i64 half), (3, .pointer (some ⟨b3, 0, none⟩)), (7, .slice (some ⟨qq, 0, none⟩) L.length cq), (8, .slice a out.length c), (9, .int .i64 ((i : Nat) : Int)), (10, .int .i64 ((st.r : Nat) : Int)), (11, .int .i64 ((st.l : Nat) : Int)), (12, .int .i64 ((st.k : Nat) : Int))]) (⟨0, 0, 0⟩ : WK)) ⟨rfl, rfl, rfl, rfl, rfl, rfl, rfl, rfl, trivial⟩ (JC.loop (α := WK) (fun st => [(2, .int .i64 half), (3, .pointer (some ⟨b3, 0, none⟩)), (7, .slice (some ⟨qq, 0, none⟩) L.length cq), (8, .slice a out.length c), (9, .int .i64 ((i : Nat) : Int)), (10, .int .i64 ((st.r : Nat) : Int)), (11, .int .i64 ((st.l : Nat) : Int)), (12, .int .i64 ((st.k : Nat) : Int))]) (fun st w' => (st.k ≤ L.length ∧ st.r = (L.take st.k).countP (fun y => decide (dI self y < dI self x)) ∧ st.l = (L.take st.k).countP (fun y => decide (eI self y < eI self x))) ∧ St w [] (lp ++ ((b3, cb (cI self) 23) :: [(qq, cb (fI L ++ spq) 23)])) w') (fun st => L.length - st.k) (⟨0, 0, 0⟩ : WK) (fun st => ?_))) (fun w hw => ⟨⟨Nat.zero_le _, rfl, rfl⟩, hw⟩)
    obtain ⟨k, r, l⟩ := st
    refine JC.pr (fun hK => ?_)
    obtain ⟨hk, hr1, hl1⟩ := hK
    simp only at hk hr1 hl1 ⊢
    have hrk : r ≤ k := by rw [hr1]; exact countP_le
    have hlk : l ≤ k := by rw [hl1]; exact countP_le
    refine JC.seq (fun K11 hK11 => ?_)
    refine JC.seq (fun K12 hK12 => ?_)
    refine JC.region ?_
    refine J.move rfl rfl ?_
    refine J.move rfl rfl ?_
    refine J.lenS rfl Ty.u24 rfl rfl ?_
    refine J.bin rfl rfl rfl rfl ?_
    refine J.nil ?_
    refine JX.thenN (hK12 _ _ ?_)
    refine JC.cond rfl (fun h1 => ?_) (fun h1 => ?_)
    · skip
      have hkt : k < L.length := by simp at h1; omega
      obtain ⟨y, hy⟩ : ∃ y, L[k]? = some y := ⟨_, List.getElem?_eq_getElem hkt⟩
      refine JC.skip ?_
      refine JX.thenN (hK11 _ _ ?_)
      refine JC.seq (fun K13 hK13 => ?_)
      refine JC.block ?_
      refine JC.seq (fun K14 hK14 => ?_)
      refine JC.seq (fun K15 hK15 => ?_)
      apply JC.drawL 13 [Eqv (.slice (some ⟨qq, 0, none⟩) L.length cq), Eqv (.int .i64 ((k : Nat) : Int)), Eqv (.pointer (some ⟨qq, 0 + (k : Int).toNat * 16, none⟩)), Eqv (.agg (cI y).toArray), Eqv (.agg (cI self).toArray), Eqv (.agg (cI (subI y self)).toArray), Eqv (.slice (some ⟨qq, 0, none⟩) L.length cq), Eqv (.int .i64 ((i : Nat) : Int)), Eqv (.pointer (some ⟨qq, 0 + (i : Int).toNat * 16, none⟩)), Eqv (.agg (cI x).toArray), Eqv (.agg (cI self).toArray), Eqv (.agg (cI (subI x self)).toArray), Eqv (.bool (decide (dI self y < dI self x)))] Ty.mixed rfl rfl rfl (by kernel_rfl) rfl rfl (fun w w' hw hb => hw.step hb) ⟨fun _ _ _ h _ => h, fun _ _ _ h _ => h, fun _ _ _ h _ => h, fun _ _ _ h _ => h, fun _ _ _ h _ => h, fun _ _ _ h _ => h, fun _ _ _ h _ => h, fun _ _ _ h _ => h, fun _ _ _ h _ => h, fun _ _ _ h _ => h, fun _ _ _ h _ => h, fun _ _ _ h _ => h, fun _ _ _ h _ => h, trivial⟩ ?hstep ?htail
      case hstep =>
        refine ⟨fun wi => ?_, fun wi => ?_, fun wi => ?_, fun wi => ?_, fun wi => ?_, fun wi => ?_, fun wi => ?_, fun wi => ?_, fun wi => ?_, fun wi => ?_, fun wi => ?_, fun wi => ?_, fun wi => ?_, trivial⟩
        · skip
          refine Fin.nil ?_
          refine J.move rfl rfl ?_
          exact J.finP rfl
        · skip
          refine Fin.nil ?_
          refine J.move rfl rfl ?_
          exact J.finP rfl
        · skip
          refine Fin.consE rfl (Fin.consE rfl (Fin.nil ?_))
          refine J.indexAddrS Ty.el24 Ty.s23 rfl rfl (by omega) (by omega) rfl ?_
          exact J.finP rfl
        · skip
          refine Fin.consE rfl (Fin.nil ?_)
          refine J.loadA (vs := cI y) Ty.a23 Ty.s23 rfl rfl (fun w1 hw => rowF_at (o := 0) (hvs.row (S := []) (l := lp ++ [(b3, cb (cI self) 23)]) (hw.2.perm (by (refine perm_cnt (fun _ => ?_)); simp only [cntB_append, cntB_cons, cntB_nil, Nat.add_zero, Nat.zero_add]; try ac_rfl))) hy (by omega)) rfl ?_
          exact J.finP rfl
        · skip
          refine Fin.nil ?_
          refine J.loadA (vs := cI self) Ty.a23 Ty.s23 rfl rfl (fun w1 hw => Cells.of_block (hw.2.own _ (List.mem_append_right _ (.head _))) rfl) rfl ?_
          exact J.finP rfl
        · skip
          refine Fin.consE rfl (Fin.consE rfl (Fin.nil ?_))
          refine J.callD (v := .agg (cI (subI y self)).toArray) Ty.bd45 rfl rfl (fun w1 hw => rsub_spec y self w1) ?_
          exact J.finQ rfl
        · skip
          refine Fin.nil ?_
          refine J.move rfl rfl ?_
          exact J.finP rfl
        · skip
          refine Fin.nil ?_
          refine J.move rfl rfl ?_
          exact J.finP rfl
        · skip
          refine Fin.consE rfl (Fin.consE rfl (Fin.nil ?_))
          refine J.indexAddrS Ty.el24 Ty.s23 rfl rfl (by omega) (by omega) rfl ?_
          exact J.finP rfl
        · skip
          refine Fin.consE rfl (Fin.nil ?_)
          refine J.loadA (vs := cI x) Ty.a23 Ty.s23 rfl rfl (fun w1 hw => rowF_at (o := 0) (hvs.row (S := []) (l := lp ++ [(b3, cb (cI self) 23)]) (hw.2.perm (by (refine perm_cnt (fun _ => ?_)); simp only [cntB_append, cntB_cons, cntB_nil, Nat.add_zero, Nat.zero_add]; try ac_rfl))) hx (by omega)) rfl ?_
          exact J.finP rfl
        · skip
          refine Fin.nil ?_
          refine J.loadA (vs := cI self) Ty.a23 Ty.s23 rfl rfl (fun w1 hw => Cells.of_block (hw.2.own _ (List.mem_append_right _ (.head _))) rfl) rfl ?_
          exact J.finP rfl
        · skip
          refine Fin.consE rfl (Fin.consE rfl (Fin.consE rfl (Fin.nil ?_)))
          refine J.callD (v := .agg (cI (subI x self)).toArray) Ty.bd45 rfl rfl (fun w1 hw => rsub_spec x self w1) ?_
          exact J.finQ rfl
        · skip
          refine Fin.consE rfl (Fin.consE rfl (Fin.consE rfl (Fin.nil ?_)))
          refine J.callD (v := .bool (decide (dI self y < dI self x))) Ty.bd41 rfl rfl (fun w1 hw => less_spec (subI y self) (subI x self) w1) ?_
          exact J.finQ rfl
      case htail =>
        refine Fin.consE rfl (Fin.consE rfl (Fin.consE rfl (Fin.consE rfl (Fin.consE rfl (Fin.consE rfl (Fin.consE rfl (Fin.consE rfl (Fin.consE rfl (Fin.consE rfl (Fin.consE rfl (Fin.consE rfl (Fin.consE rfl (Fin.nil ?_)))))))))))))
        refine J.nil ?_
        refine JX.thenN (hK15 _ _ ?_)
        refine JC.cond rfl (fun h2 => ?_) (fun h2 => ?_)
        · skip
          have hd2 : dI self y < dI self x := by simpa using h2
          refine JC.region ?_
          refine J.move rfl rfl ?_
          (first | refine J.addN rfl rfl (by omega) (by omega) rfl ?_ | refine J.bin rfl rfl rfl rfl ?_)
          refine J.assign rfl rfl ?_
          refine J.nil ?_
          refine JX.thenN (hK14 _ _ ?_)
          refine JC.seq (fun K16 hK16 => ?_)
          apply JC.drawL 13 [Eqv (.agg (cI self).toArray), Eqv (.slice (some ⟨qq, 0, none⟩) L.length cq), Eqv (.int .i64 ((k : Nat) : Int)), Eqv (.pointer (some ⟨qq, 0 + (k : Int).toNat * 16, none⟩)), Eqv (.agg (cI y).toArray), Eqv (.agg (cI (subI self y)).toArray), Eqv (.agg (cI self).toArray), Eqv (.slice (some ⟨qq, 0, none⟩) L.length cq), Eqv (.int .i64 ((i : Nat) : Int)), Eqv (.pointer (some ⟨qq, 0 + (i : Int).toNat * 16, none⟩)), Eqv (.agg (cI x).toArray), Eqv (.agg (cI (subI self x)).toArray), Eqv (.bool (decide (eI self y < eI self x)))] Ty.mixed rfl rfl rfl (by kernel_rfl) rfl rfl (fun w w' hw hb => hw.step hb) ⟨fun _ _ _ h _ => h, fun _ _ _ h _ => h, fun _ _ _ h _ => h, fun _ _ _ h _ => h, fun _ _ _ h _ => h, fun _ _ _ h _ => h, fun _ _ _ h _ => h, fun _ _ _ h _ => h, fun _ _ _ h _ => h, fun _ _ _ h _ => h, fun _ _ _ h _ => h, fun _ _ _ h _ => h, fun _ _ _ h _ => h, trivial⟩ ?hstep ?htail
          case hstep =>
            refine ⟨fun wi => ?_, fun wi => ?_, fun wi => ?_, fun wi => ?_, fun wi => ?_, fun wi => ?_, fun wi => ?_, fun wi => ?_, fun wi => ?_, fun wi => ?_, fun wi => ?_, fun wi => ?_, fun wi => ?_, trivial⟩
            · skip
              refine Fin.nil ?_
              refine J.loadA (vs := cI self) Ty.a23 Ty.s23 rfl rfl (fun w1 hw => Cells.of_block (hw.2.own _ (List.mem_append_right _ (.head _))) rfl) rfl ?_
              exact J.finP rfl
            · skip
              refine Fin.nil ?_
              refine J.move rfl rfl ?_
              exact J.finP rfl
            · skip
              refine Fin.nil ?_
              refine J.move rfl rfl ?_
              exact J.finP rfl
            · skip
              refine Fin.consE rfl (Fin.consE rfl (Fin.nil ?_))
              refine J.indexAddrS Ty.el24 Ty.s23 rfl rfl (by omega) (by omega) rfl ?_
              exact J.finP rfl
            · skip
              refine Fin.consE rfl (Fin.nil ?_)
              refine J.loadA (vs := cI y) Ty.a23 Ty.s23 rfl rfl (fun w1 hw => rowF_at (o := 0) (hvs.row (S := []) (l := lp ++ [(b3, cb (cI self) 23)]) (hw.2.perm (by (refine perm_cnt (fun _ => ?_)); simp only [cntB_append, cntB_cons, cntB_nil, Nat.add_zero, Nat.zero_add]; try ac_rfl))) hy (by omega)) rfl ?_
              exact J.finP rfl
            · skip
              refine Fin.consE rfl (Fin.consE rfl (Fin.nil ?_))
              refine J.callD (v := .agg (cI (subI self y)).toArray) Ty.bd45 rfl rfl (fun w1 hw => rsub_spec self y w1) ?_
              exact J.finQ rfl
            · skip
              refine Fin.nil ?_
              refine J.loadA (vs := cI self) Ty.a23 Ty.s23 rfl rfl (fun w1 hw => Cells.of_block (hw.2.own _ (List.mem_append_right _ (.head _))) rfl) rfl ?_
              exact J.finP rfl
            · skip
              refine Fin.nil ?_
              refine J.move rfl rfl ?_
              exact J.finP rfl
            · skip
              refine Fin.nil ?_
              refine J.move rfl rfl ?_
              exact J.finP rfl
            · skip
              refine Fin.consE rfl (Fin.consE rfl (Fin.nil ?_))
              refine J.indexAddrS Ty.el24 Ty.s23 rfl rfl (by omega) (by omega) rfl ?_
              exact J.finP rfl
            · skip
              refine Fin.consE rfl (Fin.nil ?_)
              refine J.loadA (vs := cI x) Ty.a23 Ty.s23 rfl rfl (fun w1 hw => rowF_at (o := 0) (hvs.row (S := []) (l := lp ++ [(b3, cb (cI self) 23)]) (hw.2.perm (by (refine perm_cnt (fun _ => ?_)); simp only [cntB_append, cntB_cons, cntB_nil, Nat.add_zero, Nat.zero_add]; try ac_rfl))) hx (by omega)) rfl ?_
              exact J.finP rfl
            · skip
              refine Fin.consE rfl (Fin.consE rfl (Fin.consE rfl (Fin.nil ?_)))
              refine J.callD (v := .agg (cI (subI self x)).toArray) Ty.bd45 rfl rfl (fun w1 hw => rsub_spec self x w1) ?_
              exact J.finQ rfl
            · skip
              refine Fin.consE rfl (Fin.consE rfl (Fin.consE rfl (Fin.nil ?_)))
              refine J.callD (v := .bool (decide (eI self y < eI self x))) Ty.bd41 rfl rfl (fun w1 hw => less_spec (subI self y) (subI self x) w1) ?_
              exact J.finQ rfl
          case htail =>
            refine Fin.consE rfl (Fin.consE rfl (Fin.consE rfl (Fin.consE rfl (Fin.consE rfl (Fin.consE rfl (Fin.consE rfl (Fin.consE rfl (Fin.consE rfl (Fin.consE rfl (Fin.consE rfl (Fin.consE rfl (Fin.consE rfl (Fin.nil ?_)))))))))))))
            refine J.nil ?_
            refine JX.thenN (hK16 _ _ ?_)
            refine JC.cond rfl (fun h3 => ?_) (fun h3 => ?_)
            · skip
              have hd3 : eI self y < eI self x := by simpa using h3
              refine JC.region ?_
              refine J.move rfl rfl ?_
              (first | refine J.addN rfl rfl (by omega) (by omega) rfl ?_ | refine J.bin rfl rfl rfl rfl ?_)
              refine J.assign rfl rfl ?_
              refine J.nil ?_
              refine JX.blockN ?_
              refine JX.thenN (hK13 _ _ ?_)
              refine JC.region ?_
              refine J.move rfl rfl ?_
              (first | refine J.addN rfl rfl (by omega) (by omega) rfl ?_ | refine J.bin rfl rfl rfl rfl ?_)
              refine J.assign rfl rfl ?_
              refine J.nil ?_
              refine JX.thenN ?_
              refine JX.again (⟨k + 1, r + 1, l + 1⟩ : WK) ?_ ?_ ?_
              · simp only; omega
              · exact ⟨rfl, rfl, rfl, rfl, rfl, rfl, rfl, rfl, trivial⟩
              · exact fun w1 hw => ⟨⟨hkt, by show r + 1 = _; rw [countP_step hy, ← hr1, if_pos (by simpa using hd2)], by show l + 1 = _; rw [countP_step hy, ← hl1, if_pos (by simpa using hd3)]⟩, hw⟩
            · skip
              have hd3 : ¬ eI self y < eI self x := by simpa using h3
              refine JC.skip ?_
              refine JX.blockN ?_
              refine JX.thenN (hK13 _ _ ?_)
              refine JC.region ?_
              refine J.move rfl rfl ?_
              (first | refine J.addN rfl rfl (by omega) (by omega) rfl ?_ | refine J.bin rfl rfl rfl rfl ?_)
              refine J.assign rfl rfl ?_
              refine J.nil ?_
              refine JX.thenN ?_
              refine JX.again (⟨k + 1, r + 1, l⟩ : WK) ?_ ?_ ?_
              · simp only; omega
              · exact ⟨rfl, rfl, rfl, rfl, rfl, rfl, rfl, rfl, trivial⟩
              · exact fun w1 hw => ⟨⟨hkt, by show r + 1 = _; rw [countP_step hy, ← hr1, if_pos (by simpa using hd2)], by show l = _; rw [countP_step hy, ← hl1, if_neg (by simpa using hd3), Nat.add_zero]⟩, hw⟩
        · skip
          have hd2 : ¬ dI self y < dI self x := by simpa using h2
          refine JC.skip ?_
          refine JX.thenN (hK14 _ _ ?_)
          refine JC.seq (fun K17 hK17 => ?_)
          apply JC.drawL 13 [Eqv (.agg (cI self).toArray), Eqv (.slice (some ⟨qq, 0, none⟩) L.length cq), Eqv (.int .i64 ((k : Nat) : Int)), Eqv (.pointer (some ⟨qq, 0 + (k : Int).toNat * 16, none⟩)), Eqv (.agg (cI y).toArray), Eqv (.agg (cI (subI self y)).toArray), Eqv (.agg (cI self).toArray), Eqv (.slice (some ⟨qq, 0, none⟩) L.length cq), Eqv (.int .i64 ((i : Nat) : Int)), Eqv (.pointer (some ⟨qq, 0 + (i : Int).toNat * 16, none⟩)), Eqv (.agg (cI x).toArray), Eqv (.agg (cI (subI self x)).toArray), Eqv (.bool (decide (eI self y < eI self x)))] Ty.mixed rfl rfl rfl (by kernel_rfl) rfl rfl (fun w w' hw hb => hw.step hb) ⟨fun _ _ _ h _ => h, fun _ _ _ h _ => h, fun _ _ _ h _ => h, fun _ _ _ h _ => h, fun _ _ _ h _ => h, fun _ _ _ h _ => h, fun _ _ _ h _ => h, fun _ _ _ h _ => h, fun _ _ _ h _ => h, fun _ _ _ h _ => h, fun _ _ _ h _ => h, fun _ _ _ h _ => h, fun _ _ _ h _ => h, trivial⟩ ?hstep ?htail
          case hstep =>
            refine ⟨fun wi => ?_, fun wi => ?_, fun wi => ?_, fun wi => ?_, fun wi => ?_, fun wi => ?_, fun wi => ?_, fun wi => ?_, fun wi => ?_, fun wi => ?_, fun wi => ?_, fun wi => ?_, fun wi => ?_, trivial⟩
            · skip
              refine Fin.nil ?_
              refine J.loadA (vs := cI self) Ty.a23 Ty.s23 rfl rfl (fun w1 hw => Cells.of_block (hw.2.own _ (List.mem_append_right _ (.head _))) rfl) rfl ?_
              exact J.finP rfl
            · skip
              refine Fin.nil ?_
              refine J.move rfl rfl ?_
              exact J.finP rfl
            · skip
              refine Fin.nil ?_
              refine J.move rfl rfl ?_
              exact J.finP rfl
            · skip
              refine Fin.consE rfl (Fin.consE rfl (Fin.nil ?_))
              refine J.indexAddrS Ty.el24 Ty.s23 rfl rfl (by omega) (by omega) rfl ?_
              exact J.finP rfl
            · skip
              refine Fin.consE rfl (Fin.nil ?_)
              refine J.loadA (vs := cI y) Ty.a23 Ty.s23 rfl rfl (fun w1 hw => rowF_at (o := 0) (hvs.row (S := []) (l := lp ++ [(b3, cb (cI self) 23)]) (hw.2.perm (by (refine perm_cnt (fun _ => ?_)); simp only [cntB_append, cntB_cons, cntB_nil, Nat.add_zero, Nat.zero_add]; try ac_rfl))) hy (by omega)) rfl ?_
              exact J.finP rfl
            · skip
              refine Fin.consE rfl (Fin.consE rfl (Fin.nil ?_))
              refine J.callD (v := .agg (cI (subI self y)).toArray) Ty.bd45 rfl rfl (fun w1 hw => rsub_spec self y w1) ?_
              exact J.finQ rfl
            · skip
              refine Fin.nil ?_
              refine J.loadA (vs := cI self) Ty.a23 Ty.s23 rfl rfl (fun w1 hw => Cells.of_block (hw.2.own _ (List.mem_append_right _ (.head _))) rfl) rfl ?_
              exact J.finP rfl
            · skip
              refine Fin.nil ?_
              refine J.move rfl rfl ?_
              exact J.finP rfl
            · skip
              refine Fin.nil ?_
              refine J.move rfl rfl ?_
              exact J.finP rfl
            · skip
              refine Fin.consE rfl (Fin.consE rfl (Fin.nil ?_))
              refine J.indexAddrS Ty.el24 Ty.s23 rfl rfl (by omega) (by omega) rfl ?_
              exact J.finP rfl
            · skip
              refine Fin.consE rfl (Fin.nil ?_)
              refine J.loadA (vs := cI x) Ty.a23 Ty.s23 rfl rfl (fun w1 hw => rowF_at (o := 0) (hvs.row (S := []) (l := lp ++ [(b3, cb (cI self) 23)]) (hw.2.perm (by (refine perm_cnt (fun _ => ?_)); simp only [cntB_append, cntB_cons, cntB_nil, Nat.add_zero, Nat.zero_add]; try ac_rfl))) hx (by omega)) rfl ?_
              exact J.finP rfl
            · skip
              refine Fin.consE rfl (Fin.consE rfl (Fin.consE rfl (Fin.nil ?_)))
              refine J.callD (v := .agg (cI (subI self x)).toArray) Ty.bd45 rfl rfl (fun w1 hw => rsub_spec self x w1) ?_
              exact J.finQ rfl
            · skip
              refine Fin.consE rfl (Fin.consE rfl (Fin.consE rfl (Fin.nil ?_)))
              refine J.callD (v := .bool (decide (eI self y < eI self x))) Ty.bd41 rfl rfl (fun w1 hw => less_spec (subI self y) (subI self x) w1) ?_
              exact J.finQ rfl
          case htail =>
            refine Fin.consE rfl (Fin.consE rfl (Fin.consE rfl (Fin.consE rfl (Fin.consE rfl (Fin.consE rfl (Fin.consE rfl (Fin.consE rfl (Fin.consE rfl (Fin.consE rfl (Fin.consE rfl (Fin.consE rfl (Fin.consE rfl (Fin.nil ?_)))))))))))))
            refine J.nil ?_
            refine JX.thenN (hK17 _ _ ?_)
            refine JC.cond rfl (fun h3 => ?_) (fun h3 => ?_)
            · skip
              have hd3 : eI self y < eI self x := by simpa using h3
              refine JC.region ?_
              refine J.move rfl rfl ?_
              (first | refine J.addN rfl rfl (by omega) (by omega) rfl ?_ | refine J.bin rfl rfl rfl rfl ?_)
              refine J.assign rfl rfl ?_
              refine J.nil ?_
              refine JX.blockN ?_
              refine JX.thenN (hK13 _ _ ?_)
              refine JC.region ?_
              refine J.move rfl rfl ?_
              (first | refine J.addN rfl rfl (by omega) (by omega) rfl ?_ | refine J.bin rfl rfl rfl rfl ?_)
              refine J.assign rfl rfl ?_
              refine J.nil ?_
              refine JX.thenN ?_
              refine JX.again (⟨k + 1, r, l + 1⟩ : WK) ?_ ?_ ?_
              · simp only; omega
              · exact ⟨rfl, rfl, rfl, rfl, rfl, rfl, rfl, rfl, trivial⟩
              · exact fun w1 hw => ⟨⟨hkt, by show r = _; rw [countP_step hy, ← hr1, if_neg (by simpa using hd2), Nat.add_zero], by show l + 1 = _; rw [countP_step hy, ← hl1, if_pos (by simpa using hd3)]⟩, hw⟩
            · skip
              have hd3 : ¬ eI self y < eI self x := by simpa using h3
              refine JC.skip ?_
              refine JX.blockN ?_
              refine JX.thenN (hK13 _ _ ?_)
              refine JC.region ?_
              refine J.move rfl rfl ?_
              (first | refine J.addN rfl rfl (by omega) (by omega) rfl ?_ | refine J.bin rfl rfl rfl rfl ?_)
              refine J.assign rfl rfl ?_
              refine J.nil ?_
              refine JX.thenN ?_
              refine JX.again (⟨k + 1, r, l⟩ : WK) ?_ ?_ ?_
              · simp only; omega
              · exact ⟨rfl, rfl, rfl, rfl, rfl, rfl, rfl, rfl, trivial⟩
              · exact fun w1 hw => ⟨⟨hkt, by show r = _; rw [countP_step hy, ← hr1, if_neg (by simpa using hd2), Nat.add_zero], by show l = _; rw [countP_step hy, ← hl1, if_neg (by simpa using hd3), Nat.add_zero]⟩, hw⟩
    · skip
      have hkl : k = L.length := by simp at h1; omega
      have hri : rI self L x = r := by rw [hr1, hkl, List.take_of_length_le (Nat.le_refl _)]; rfl
      have hli : lI self L x = l := by rw [hl1, hkl, List.take_of_length_le (Nat.le_refl _)]; rfl
      refine JC.exit ?_
      refine JX.thenE ?_
      refine JX.thenE ?_
      refine JX.blockE ?_
      refine JX.thenN (hK9 _ _ ?_)
      refine JC.seq (fun K18 hK18 => ?_)
      refine JC.region ?_
      refine J.move rfl rfl ?_
      refine J.move rfl rfl ?_
      refine J.bin rfl rfl rfl rfl ?_
      refine J.move rfl rfl ?_
      refine J.split 61 rfl (fun hs61 => ?_) (fun hs61 => ?_)
      · skip
        try simp only [decide_eq_true_eq, decide_eq_false_iff_not, beq_iff_eq, bne_iff_ne, bne_eq_false_iff_eq, ne_eq, beq_eq_false_iff_ne, Bool.not_eq_true, Bool.not_eq_false, Int.not_lt, Int.not_le] at hs61
        first
        | exact absurd hs61 (by decide)
        | skip
          first | refine J.skip rfl rfl rfl rfl rfl ?_ | refine J.skipU rfl rfl rfl rfl ?_ | (refine J.unguard rfl rfl rfl ?_; refine J.move rfl rfl ?_)
          first | refine J.skip rfl rfl rfl rfl rfl ?_ | refine J.skipU rfl rfl rfl rfl ?_ | (refine J.unguard rfl rfl rfl ?_; refine J.move rfl rfl ?_)
          first | refine J.skip rfl rfl rfl rfl rfl ?_ | refine J.skipU rfl rfl rfl rfl ?_ | (refine J.unguard rfl rfl rfl ?_; refine J.bin rfl rfl rfl rfl ?_)
          (first | refine J.pickT rfl rfl rfl ?_ | refine J.pickF rfl rfl rfl ?_)
          refine J.nil ?_
          refine JX.thenN (hK18 _ _ ?_)
          first | refine JC.condT rfl ?_ | refine JC.cond rfl (fun _ => ?_) (fun h => by first | (exfalso; simp at h; omega) | (simp at h))
          refine JC.region ?_
          have hwp : wP self L half x = true := by
            first
              | assumption
              | (unfold wP; rw [hri, hli]; simp at hs61 ⊢; left; exact hs61)
          refine J.move rfl rfl ?_
          refine J.move rfl rfl ?_
          refine J.move rfl rfl ?_
          refine J.indexAddrS Ty.el24 Ty.s23 rfl rfl (by omega) (by omega) rfl ?_
          refine J.loadA (vs := cI x) Ty.a23 Ty.s23 rfl rfl (fun w1 hw => rowF_at (o := 0) (hvs.row (S := []) (l := lp ++ [(b3, cb (cI self) 23)]) (hw.perm (by (refine perm_cnt (fun _ => ?_)); simp only [cntB_append, cntB_cons, cntB_nil, Nat.add_zero, Nat.zero_add]; try ac_rfl))) hx (by omega)) rfl ?_
          refine J.buildSl (cs := cI x) Ty.el24 Ty.s23 Ty.zID rfl rfl rfl rfl (by kernel_rfl) rfl rfl (fun b71 => ?_)
          refine J.perm (lp ++ ((b71, cb (cI x) 23) :: (b3, cb (cI self) 23) :: [(qq, cb (fI L ++ spq) 23)])) (by (refine perm_cnt (fun _ => ?_)); simp only [cntB_append, cntB_cons, cntB_nil, Nat.add_zero, Nat.zero_add]; try ac_rfl) ?_
          refine J.append (lp := lp) (xs := fI out) (ys := fI [x]) (k := out.length) (m := 1) Ty.el24 Ty.s23 Ty.b23 Ty.zID rfl (.inl ⟨23, Ty.u24⟩) rfl rfl hvo (fun w1 hw => .inl (Row.own (cs := cI x) (tb := 23) (fr := (0, 0)) hw (List.mem_append_right _ (.head _)) rfl (Nat.le_refl _))) (fI_length _) (fun y hy => fI_one hy) (by omega) (by omega) rfl (fun v62 lp62 hv62 => ?_)
          rw [← fI_append] at hv62
          have hv62n : Vec 23 16 v62 (out ++ [x]).length (fI (out ++ [x])) lp62 := by rw [List.length_append]; exact hv62
          obtain ⟨a62, c62, rfl, hc62⟩ := hv62n.form
          refine J.assign rfl rfl ?_
          refine J.nil ?_
          refine JX.blockN ?_
          refine JX.thenN (hK7 _ _ ?_)
          refine JC.region ?_
          refine J.move rfl rfl ?_
          (first | refine J.addN rfl rfl (by omega) (by omega) rfl ?_ | refine J.bin rfl rfl rfl rfl ?_)
          refine J.assign rfl rfl ?_
          refine J.nil ?_
          refine JX.thenN ?_
          refine JX.again (⟨i + 1, (out ++ [x]), a62, c62, lp62⟩ : RS) ?_ ?_ ?_
          · simp only; omega
          · exact ⟨rfl, rfl, rfl, rfl, rfl, trivial⟩
          · exact fun w1 hw => ⟨⟨hlt, by rw [filter_step hx, ← ho, if_pos hwp], hv62n⟩, (hw.perm (l' := (lp62 ++ ((b3, cb (cI self) 23) :: [(qq, cb (fI L ++ spq) 23)])) ++ [(b71, cb (cI x) 23)]) (by (refine perm_cnt (fun _ => ?_)); simp only [cntB_append, cntB_cons, cntB_nil, Nat.add_zero, Nat.zero_add]; try ac_rfl)).drop (List.sublist_append_left _ _)⟩
      · skip
        try simp only [decide_eq_true_eq, decide_eq_false_iff_not, beq_iff_eq, bne_iff_ne, bne_eq_false_iff_eq, ne_eq, beq_eq_false_iff_ne, Bool.not_eq_true, Bool.not_eq_false, Int.not_lt, Int.not_le] at hs61
        first
        | exact absurd hs61 (by decide)
        | skip
          first | refine J.skip rfl rfl rfl rfl rfl ?_ | refine J.skipU rfl rfl rfl rfl ?_ | (refine J.unguard rfl rfl rfl ?_; refine J.move rfl rfl ?_)
          first | refine J.skip rfl rfl rfl rfl rfl ?_ | refine J.skipU rfl rfl rfl rfl ?_ | (refine J.unguard rfl rfl rfl ?_; refine J.move rfl rfl ?_)
          first | refine J.skip rfl rfl rfl rfl rfl ?_ | refine J.skipU rfl rfl rfl rfl ?_ | (refine J.unguard rfl rfl rfl ?_; refine J.bin rfl rfl rfl rfl ?_)
          (first | refine J.pickT rfl rfl rfl ?_ | refine J.pickF rfl rfl rfl ?_)
          refine J.nil ?_
          refine JX.thenN (hK18 _ _ ?_)
          refine JC.cond rfl (fun h4 => ?_) (fun h4 => ?_)
          · skip
            have hwp : wP self L half x = true := by unfold wP; rw [hri, hli]; simp at h4 ⊢; right; exact h4
            refine JC.region ?_
            have hwp : wP self L half x = true := by
              first
                | assumption
                | (unfold wP; rw [hri, hli]; simp at hs61 ⊢; left; exact hs61)
            refine J.move rfl rfl ?_
            refine J.move rfl rfl ?_
            refine J.move rfl rfl ?_
            refine J.indexAddrS Ty.el24 Ty.s23 rfl rfl (by omega) (by omega) rfl ?_
            refine J.loadA (vs := cI x) Ty.a23 Ty.s23 rfl rfl (fun w1 hw => rowF_at (o := 0) (hvs.row (S := []) (l := lp ++ [(b3, cb (cI self) 23)]) (hw.perm (by (refine perm_cnt (fun _ => ?_)); simp only [cntB_append, cntB_cons, cntB_nil, Nat.add_zero, Nat.zero_add]; try ac_rfl))) hx (by omega)) rfl ?_
            refine J.buildSl (cs := cI x) Ty.el24 Ty.s23 Ty.zID rfl rfl rfl rfl (by kernel_rfl) rfl rfl (fun b71 => ?_)
            refine J.perm (lp ++ ((b71, cb (cI x) 23) :: (b3, cb (cI self) 23) :: [(qq, cb (fI L ++ spq) 23)])) (by (refine perm_cnt (fun _ => ?_)); simp only [cntB_append, cntB_cons, cntB_nil, Nat.add_zero, Nat.zero_add]; try ac_rfl) ?_
            refine J.append (lp := lp) (xs := fI out) (ys := fI [x]) (k := out.length) (m := 1) Ty.el24 Ty.s23 Ty.b23 Ty.zID rfl (.inl ⟨23, Ty.u24⟩) rfl rfl hvo (fun w1 hw => .inl (Row.own (cs := cI x) (tb := 23) (fr := (0, 0)) hw (List.mem_append_right _ (.head _)) rfl (Nat.le_refl _))) (fI_length _) (fun y hy => fI_one hy) (by omega) (by omega) rfl (fun v62 lp62 hv62 => ?_)
            rw [← fI_append] at hv62
            have hv62n : Vec 23 16 v62 (out ++ [x]).length (fI (out ++ [x])) lp62 := by rw [List.length_append]; exact hv62
            obtain ⟨a62, c62, rfl, hc62⟩ := hv62n.form
            refine J.assign rfl rfl ?_
            refine J.nil ?_
            refine JX.blockN ?_
            refine JX.thenN (hK7 _ _ ?_)
            refine JC.region ?_
            refine J.move rfl rfl ?_
            (first | refine J.addN rfl rfl (by omega) (by omega) rfl ?_ | refine J.bin rfl rfl rfl rfl ?_)
            refine J.assign rfl rfl ?_
            refine J.nil ?_
            refine JX.thenN ?_
            refine JX.again (⟨i + 1, (out ++ [x]), a62, c62, lp62⟩ : RS) ?_ ?_ ?_
            · simp only; omega
            · exact ⟨rfl, rfl, rfl, rfl, rfl, trivial⟩
            · exact fun w1 hw => ⟨⟨hlt, by rw [filter_step hx, ← ho, if_pos hwp], hv62n⟩, (hw.perm (l' := (lp62 ++ ((b3, cb (cI self) 23) :: [(qq, cb (fI L ++ spq) 23)])) ++ [(b71, cb (cI x) 23)]) (by (refine perm_cnt (fun _ => ?_)); simp only [cntB_append, cntB_cons, cntB_nil, Nat.add_zero, Nat.zero_add]; try ac_rfl)).drop (List.sublist_append_left _ _)⟩
          · skip
            have hwp : ¬ wP self L half x = true := by unfold wP; rw [hri, hli]; simp at h4 hs61 ⊢; exact ⟨by omega, by omega⟩
            refine JC.skip ?_
            refine JX.blockN ?_
            refine JX.thenN (hK7 _ _ ?_)
            refine JC.region ?_
            refine J.move rfl rfl ?_
            (first | refine J.addN rfl rfl (by omega) (by omega) rfl ?_ | refine J.bin rfl rfl rfl rfl ?_)
            refine J.assign rfl rfl ?_
            refine J.nil ?_
            refine JX.thenN ?_
            refine JX.again (⟨i + 1, out, a, c, lp⟩ : RS) ?_ ?_ ?_
            · simp only; omega
            · exact ⟨rfl, rfl, rfl, rfl, rfl, trivial⟩
            · exact fun w1 hw => ⟨⟨hlt, by rw [filter_step hx, ← ho, if_neg hwp, List.append_nil], hvo⟩, hw⟩
  · skip
    have hge : i = L.length := by simp at h0; omega
    subst hge
    rw [List.take_of_length_le (Nat.le_refl _), ← hwe] at ho
    refine JC.exit ?_
    refine JX.thenE ?_
    refine JX.thenE ?_
    refine JX.blockE ?_
    refine JX.thenN (hK3 _ _ ?_)
    refine JC.seq (fun K19 hK19 => ?_)
    refine JC.region ?_
    refine J.move rfl rfl ?_
    refine J.assign rfl rfl ?_
    refine J.nil ?_
    refine JX.thenN (hK19 _ _ ?_)
    refine JC.ret ?_
    refine JX.ret1 rfl rfl (fun w hw => ?_)
    rw [ho] at hvo ⊢
    exact ⟨(_, lp), rfl, hvo, hw.drop (List.sublist_append_left _ _)⟩

end Go.Proofs.Ytbafhclandendaa
