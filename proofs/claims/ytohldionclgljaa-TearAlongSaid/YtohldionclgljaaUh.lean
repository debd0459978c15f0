/-
  The document's Remove; where a key stands: contracts.
-/
import Derived.Test.YtohldionclgljaaUg
namespace Go.Proofs.Ytohldionclgljaa
open Go.J Go.RowKit
set_option linter.unusedVariables false
set_option linter.unusedSimpArgs false
set_option maxRecDepth 4000
/-- another key -/
def neK (p : PV) (y : EV) : Bool := decide (y.p ≠ p)
theorem neK_iff {p : PV} {y : EV} : neK p y = true ↔ y.p ≠ p := by unfold neK; rw [decide_eq_true_eq]
def placeE (xs : List EV) (p : PV) : Int := match xs.findIdx? (fun x => decide (x.p = p)) with
  | some i => (i : Int)
  | none => -1
theorem placeE_at {xs : List EV} {p : PV} {i : Nat} {x : EV} (h : xs[i]? = some x) (hp : x.p = p) (hb : ∀ j y, j < i → xs[j]? = some y → y.p ≠ p) : placeE xs p = i := by
  unfold placeE
  have : xs.findIdx? (fun x => decide (x.p = p)) = some i := by
    have hi := (List.getElem?_eq_some_iff.1 h).1
    rw [List.findIdx?_eq_some_iff_getElem]
    refine ⟨hi, ?_, fun j hj => ?_⟩
    · rw [List.getElem?_eq_getElem hi] at h
      cases h
      simpa using hp
    · have := hb j xs[j] hj (List.getElem?_eq_getElem (by omega))
      simpa using this
  rw [this]
theorem placeE_no {xs : List EV} {p : PV} (hb : ∀ j y, j < xs.length → xs[j]? = some y → y.p ≠ p) : placeE xs p = -1 := by
  unfold placeE
  have : xs.findIdx? (fun x => decide (x.p = p)) = none := by
    rw [List.findIdx?_eq_none_iff]
    intro x hx
    obtain ⟨j, hj, rfl⟩ := List.getElem_of_mem hx
    have := hb j xs[j] hj (List.getElem?_eq_getElem hj)
    simpa using this
  rw [this]

set_option maxHeartbeats 1000000 in
theorem rremove_spec (rt : Nat) (v : Value) (most : Int) (R : List EV) (lp : List (Nat × Obj)) (w : World) (hw0 : Own w ((rt, rtabO v most) :: lp)) (hv : Vec 55 51 v R.length (fE R) lp) (hR : ∀ x, x ∈ R → okE x) (hrl : R.length ≤ 549755813888) (p : PV) (hp : okN p.n) :
    Calls Try.prog 58 [.pointer (some ⟨rt, 0, none⟩), .agg (cP p).toArray].toArray w fun r w' => ∃ y : Value × List (Nat × Obj), r = .returned (.tuple #[.agg (cE ((tget R p).getD zE)).toArray, .bool (tget R p).isSome]) ∧ Vec 55 51 y.1 (R.filter (neK p)).length (fE (R.filter (neK p))) y.2 ∧ St w (rt :: lp.map (·.1)) ((rt, rtabO y.1 most) :: y.2) w' := by
  obtain ⟨ar, cr, rfl, hcr⟩ := hv.form
  refine calls_of_J (args := [.pointer (some ⟨rt, 0, none⟩), .agg (cP p).toArray]) (e := [(0, .pointer (some ⟨rt, 0, none⟩)), (1, .agg (cP p).toArray)]) Try.func58 rfl rfl ⟨rfl, rfl, trivial⟩ (hw0.st) ?_
  refine JC.seq (fun K0 hK0 => ?_)
  refine JC.region ?_
  refine J.box rfl rfl rfl (fun b3 => ?_)
  refine J.alloc Ty.zE_ rfl rfl (fun b4 => ?_)
  refine J.assign rfl rfl ?_
  refine J.nil ?_
  refine JX.thenN (hK0 _ _ ?_)
  refine JC.seq (fun K1 hK1 => ?_)
  refine JC.region ?_
  refine J.move rfl rfl ?_
  refine J.loadOA (vs := cP p) Ty.a38 Ty.s38 rfl (by repeat first | exact .head _ | apply List.Mem.tail | apply List.mem_append_right) (by exact rfl) rfl rfl ?_
  refine J.callB (v := .tuple #[.agg (cE ((tget R p).getD zE)).toArray, .bool (tget R p).isSome]) (fun w1 w2 hw hb => hw.step hb) Ty.bd57 rfl rfl (fun w1 hw => rget_spec rt _ most R w1 (hw.own _ (.tail _ (.tail _ (.head _)))) (vec_rowM hv hw (fun q hq => by simp [hq])) hR (by omega) p hp) ?_
  refine J.move rfl rfl ?_
  refine J.extract rfl rfl rfl ?_
  refine J.extract rfl rfl rfl ?_
  refine J.alloc Ty.zE_ rfl rfl (fun b6 => ?_)
  refine J.storeW (cs := cE zE) (vs := cE ((tget R p).getD zE)) Ty.s55 rfl rfl rfl rfl rfl (one_cE _) .here ?_
  refine J.assign rfl rfl ?_
  refine J.nil ?_
  refine JX.thenN (hK1 _ _ ?_)
  refine JC.seq (fun K2 hK2 => ?_)
  refine JC.region ?_
  refine J.assign rfl rfl ?_
  refine J.nil ?_
  refine JX.thenN (hK2 _ _ ?_)
  refine JC.seq (fun K3 hK3 => ?_)
  refine JC.seq (fun K4 hK4 => ?_)
  refine JC.region ?_
  refine J.assign rfl rfl ?_
  refine J.nil ?_
  refine JX.thenN (hK4 _ _ ?_)
  refine JC.block ?_
  refine JC.conseq (JC.cov (f := (fun st => [(0, .pointer (some ⟨rt, 0, none⟩)), (3, .pointer (some ⟨b3, 0, none⟩)), (4, .pointer (some ⟨b4, 0, none⟩)), (6, .pointer (some ⟨b6, 0, none⟩)), (7, .bool (tget R p).isSome), (8, st.2.1), (9, .int .i64 ((st.1 : Nat) : Int))]) ((0, .slice none 0 0, []) : Nat × Value × List (Nat × Obj))) ⟨rfl, rfl, rfl, rfl, rfl, rfl, rfl, trivial⟩ (JC.loop (α := Nat × Value × List (Nat × Obj)) (fun st => [(0, .pointer (some ⟨rt, 0, none⟩)), (3, .pointer (some ⟨b3, 0, none⟩)), (4, .pointer (some ⟨b4, 0, none⟩)), (6, .pointer (some ⟨b6, 0, none⟩)), (7, .bool (tget R p).isSome), (8, st.2.1), (9, .int .i64 ((st.1 : Nat) : Int))]) (fun st w' => (st.1 ≤ R.length ∧ Vec 55 51 st.2.1 ((R.take st.1).filter (neK p)).length (fE ((R.take st.1).filter (neK p))) st.2.2) ∧ St w (rt :: lp.map (·.1)) (st.2.2 ++ ((b6, cb (cE ((tget R p).getD zE)) 55) :: (b4, cb (cE zE) 55) :: (b3, cb (cP p) 38) :: (rt, rtabO (.slice ar R.length cr) most) :: lp)) w') (fun st => R.length - st.1) ((0, .slice none 0 0, []) : Nat × Value × List (Nat × Obj)) (fun st => ?_))) (fun w hw => ⟨⟨Nat.zero_le _, Vec.nil _ _⟩, hw⟩)
  obtain ⟨i, vo, lo⟩ := st
  refine JC.pr (fun hx1 => ?_)
  obtain ⟨hi, hvo⟩ := hx1
  simp only at hi hvo ⊢
  refine JC.seq (fun K5 hK5 => ?_)
  refine JC.seq (fun K6 hK6 => ?_)
  refine JC.region ?_
  refine J.move rfl rfl ?_
  refine J.move rfl rfl ?_
  refine J.nilCheck rfl rfl ?_
  refine J.fieldAddr Ty.fd94_0 rfl rfl ?_
  refine J.load1 (v := .slice ar R.length cr) Ty.a25 rfl (fun w1 hw => by rw [cell_of (hw.own _ (List.mem_append_right _ (.tail _ (.tail _ (.tail _ (.head _))))))]; rfl) rfl ?_
  refine J.lenS rfl Ty.u25 rfl rfl ?_
  refine J.bin rfl rfl rfl rfl ?_
  refine J.nil ?_
  refine JX.thenN (hK6 _ _ ?_)
  refine JC.cond rfl (fun h0 => ?_) (fun h0 => ?_)
  · skip
    have hlt : i < R.length := by simp at h0; omega
    obtain ⟨q1, sp1, rfl, hlp, hsp, _⟩ := vec_pos hv (by omega)
    obtain ⟨xe, hxe⟩ : ∃ x, R[i]? = some x := ⟨_, List.getElem?_eq_getElem hlt⟩
    have hxo := hR xe (List.mem_of_getElem? hxe)
    refine JC.skip ?_
    refine JX.thenN (hK5 _ _ ?_)
    refine JC.seq (fun K7 hK7 => ?_)
    refine JC.block ?_
    refine JC.seq (fun K8 hK8 => ?_)
    apply JC.drawL 10 [Eqv (.pointer (some ⟨rt, 0, none⟩)), Eqv (.pointer (some ⟨rt, 0, none⟩)), Eqv (.pointer (some ⟨rt, 0 + 0, none⟩)), Eqv (.slice (some ⟨q1, 0, none⟩) R.length cr), Eqv (.int .i64 ((i : Nat) : Int)), Eqv (.pointer (some ⟨q1, 0 + (i : Int).toNat * 51, none⟩)), Eqv (.pointer (some ⟨q1, 0 + (i : Int).toNat * 51 + 0, none⟩)), Eqv (.agg (cP xe.p).toArray), Eqv (.agg (cP p).toArray), Eqv (.bool (!decide (xe.p = p)))] Ty.mixed rfl rfl rfl (by kernel_rfl) rfl rfl (fun w w' hw hb => hw.step hb) ⟨fun _ _ _ h _ => h, fun _ _ _ h _ => h, fun _ _ _ h _ => h, fun _ _ _ h _ => h, fun _ _ _ h _ => h, fun _ _ _ h _ => h, fun _ _ _ h _ => h, fun _ _ _ h _ => h, fun _ _ _ h _ => h, fun _ _ _ h _ => h, trivial⟩ ?hstep ?htail
    case hstep =>
      refine ⟨fun wi => ?_, fun wi => ?_, fun wi => ?_, fun wi => ?_, fun wi => ?_, fun wi => ?_, fun wi => ?_, fun wi => ?_, fun wi => ?_, fun wi => ?_, trivial⟩
      · skip
        refine Fin.nil ?_
        refine J.move rfl rfl ?_
        exact J.finP rfl
      · skip
        refine Fin.consE rfl (Fin.nil ?_)
        refine J.nilCheck rfl rfl ?_
        exact J.finP rfl
      · skip
        refine Fin.consE rfl (Fin.nil ?_)
        refine J.fieldAddr Ty.fd94_0 rfl rfl ?_
        exact J.finP rfl
      · skip
        refine Fin.consE rfl (Fin.nil ?_)
        refine J.load1 (v := .slice (some ⟨q1, 0, none⟩) R.length cr) Ty.a25 rfl (fun w1 hw => by rw [cell_of (hw.2.own _ (List.mem_append_right _ (.tail _ (.tail _ (.tail _ (.head _))))))]; rfl) rfl ?_
        exact J.finP rfl
      · skip
        refine Fin.nil ?_
        refine J.move rfl rfl ?_
        exact J.finP rfl
      · skip
        refine Fin.consE rfl (Fin.consE rfl (Fin.nil ?_))
        refine J.indexAddrS Ty.el25 Ty.s55 rfl rfl (by omega) (by omega) rfl ?_
        exact J.finP rfl
      · skip
        refine Fin.consE rfl (Fin.nil ?_)
        refine J.fieldAddr Ty.fd55_0 rfl rfl ?_
        exact J.finP rfl
      · skip
        refine Fin.consE rfl (Fin.nil ?_)
        refine J.loadA (vs := cP xe.p) Ty.a38 Ty.s38 rfl rfl (fun w1 hw => cells_sub (rowE_at (vec_rowM hv hw.2 (fun q hq => List.mem_append_right _ (.tail _ (.tail _ (.tail _ (.tail _ hq)))))) hxe (by omega)) rfl) rfl ?_
        exact J.finP rfl
      · skip
        refine Fin.nil ?_
        refine J.loadA (vs := cP p) Ty.a38 Ty.s38 rfl rfl (fun w1 hw => Cells.of_block (hw.2.own _ (List.mem_append_right _ (.tail _ (.tail _ (.head _))))) rfl) rfl ?_
        exact J.finP rfl
      · skip
        refine Fin.consE rfl (Fin.consE rfl (Fin.nil ?_))
        refine J.neP Ty.QP Ty.keyP rfl rfl hxo.1 hp rfl ?_
        exact J.finP rfl
    case htail =>
      refine Fin.consE rfl (Fin.consE rfl (Fin.consE rfl (Fin.consE rfl (Fin.consE rfl (Fin.consE rfl (Fin.consE rfl (Fin.consE rfl (Fin.consE rfl (Fin.consE rfl (Fin.nil ?_))))))))))
      refine J.nil ?_
      refine JX.thenN (hK8 _ _ ?_)
      refine JC.cond rfl (fun h1 => ?_) (fun h1 => ?_)
      · skip
        have hne : xe.p ≠ p := by simpa using h1
        refine JC.region ?_
        refine J.move rfl rfl ?_
        refine J.move rfl rfl ?_
        refine J.nilCheck rfl rfl ?_
        refine J.fieldAddr Ty.fd94_0 rfl rfl ?_
        refine J.load1 (v := .slice (some ⟨q1, 0, none⟩) R.length cr) Ty.a25 rfl (fun w1 hw => by rw [cell_of (hw.own _ (List.mem_append_right _ (.tail _ (.tail _ (.tail _ (.head _))))))]; rfl) rfl ?_
        refine J.move rfl rfl ?_
        refine J.indexAddrS Ty.el25 Ty.s55 rfl rfl (by omega) (by omega) rfl ?_
        refine J.loadA (vs := cE xe) Ty.a55 Ty.s55 rfl rfl (fun w1 hw => rowE_at (vec_rowM hv hw (fun q hq => List.mem_append_right _ (.tail _ (.tail _ (.tail _ (.tail _ hq)))))) hxe (by omega)) rfl ?_
        refine J.buildSl (cs := cE xe) Ty.el25 Ty.s55 Ty.zE_ rfl rfl rfl rfl (by kernel_rfl) rfl rfl (fun b43 => ?_)
        have hol : ((R.take i).filter (neK p)).length ≤ i := Nat.le_trans (List.length_filter_le _ _) (by rw [List.length_take]; omega)
        refine J.perm (lo ++ ((b43, cb (cE xe) 55) :: (b6, cb (cE ((tget R p).getD zE)) 55) :: (b4, cb (cE zE) 55) :: (b3, cb (cP p) 38) :: (rt, rtabO (.slice (some ⟨q1, 0, none⟩) R.length cr) most) :: lp)) (by (refine perm_cnt (fun _ => ?_)); simp only [cntB_append, cntB_cons, cntB_nil, Nat.add_zero, Nat.zero_add]; try ac_rfl) ?_
        refine J.append (lp := lo) (xs := fE ((R.take i).filter (neK p))) (ys := cE xe) (k := ((R.take i).filter (neK p)).length) (m := 1) Ty.el25 Ty.s55 Ty.b55 Ty.zE_ rfl (.inl ⟨55, Ty.u25⟩) rfl rfl hvo (fun w3 hw3 => .inl (Row.own hw3 (List.mem_append_right _ (.head _)) rfl (Nat.le_refl _))) rfl (one_cE xe) (by omega) (by omega) rfl (fun vn ln hvn => ?_)
        refine J.assign rfl rfl ?_
        refine J.nil ?_
        refine JX.blockN ?_
        refine JX.thenN (hK7 _ _ ?_)
        refine JC.region ?_
        refine J.move rfl rfl ?_
        (first | refine J.addN rfl rfl (by omega) (by omega) rfl ?_ | refine J.bin rfl rfl rfl rfl ?_)
        refine J.assign rfl rfl ?_
        refine J.nil ?_
        refine JX.thenN ?_
        refine JX.again ((i + 1, vn, ln) : Nat × Value × List (Nat × Obj)) ?_ ?_ ?_
        · simp only; omega
        · exact ⟨rfl, rfl, rfl, rfl, rfl, rfl, rfl, trivial⟩
        · exact fun w1 hw => ⟨⟨hlt, by rw [filter_stepE hxe, if_pos (neK_iff.2 hne), List.length_append, fE_append]; simpa [fE] using hvn⟩, hw.drop (List.Sublist.append_left (List.sublist_cons_self _ _) _)⟩
      · skip
        have heq : xe.p = p := by simpa using h1
        refine JC.skip ?_
        refine JX.blockN ?_
        refine JX.thenN (hK7 _ _ ?_)
        refine JC.region ?_
        refine J.move rfl rfl ?_
        (first | refine J.addN rfl rfl (by omega) (by omega) rfl ?_ | refine J.bin rfl rfl rfl rfl ?_)
        refine J.assign rfl rfl ?_
        refine J.nil ?_
        refine JX.thenN ?_
        refine JX.again ((i + 1, vo, lo) : Nat × Value × List (Nat × Obj)) ?_ ?_ ?_
        · simp only; omega
        · exact ⟨rfl, rfl, rfl, rfl, rfl, rfl, rfl, trivial⟩
        · exact fun w1 hw => ⟨⟨hlt, by rw [filter_stepE hxe, if_neg (fun h => neK_iff.1 h heq), List.append_nil]; exact hvo⟩, hw⟩
  · skip
    have hge : i = R.length := by simp at h0; omega
    refine JC.exit ?_
    refine JX.thenE ?_
    refine JX.thenE ?_
    refine JX.blockE ?_
    refine JX.thenN (hK3 _ _ ?_)
    refine JC.seq (fun K9 hK9 => ?_)
    refine JC.region ?_
    refine J.move rfl rfl ?_
    refine J.move rfl rfl ?_
    refine J.nilCheck rfl rfl ?_
    refine J.fieldAddr Ty.fd94_0 rfl rfl ?_
    have hfin : (R.take i).filter (neK p) = R.filter (neK p) := by rw [List.take_of_length_le (by omega)]
    rw [hfin] at hvo
    obtain ⟨ao, co, rfl, hco⟩ := hvo.form
    refine J.perm ((rt, rtabO (.slice ar R.length cr) most) :: (b6, cb (cE ((tget R p).getD zE)) 55) :: (b4, cb (cE zE) 55) :: (b3, cb (cP p) 38) :: (lo ++ lp)) (by (refine perm_cnt (fun _ => ?_)); simp only [cntB_append, cntB_cons, cntB_nil, Nat.add_zero, Nat.zero_add]; try ac_rfl) ?_
    refine J.storeO (vs := [.slice ao (R.filter (neK p)).length co]) Ty.s25 rfl rfl rfl rfl (by simp [Value.oneCell']) .here (by simp) ?_
    refine J.nil ?_
    refine JX.thenN (hK9 _ _ ?_)
    refine JC.seq (fun K10 hK10 => ?_)
    refine JC.region ?_
    refine J.loadOA (vs := cE ((tget R p).getD zE)) Ty.a55 Ty.s55 rfl (.tail _ (.head _)) rfl rfl rfl ?_
    refine J.move rfl rfl ?_
    refine J.storeW (cs := cE zE) (vs := cE ((tget R p).getD zE)) Ty.s55 rfl rfl rfl rfl rfl (one_cE _) (.there (.there .here)) ?_
    refine J.assign rfl rfl ?_
    refine J.nil ?_
    refine JX.thenN (hK10 _ _ ?_)
    refine JC.ret ?_
    refine JX.retCT rfl rfl rfl Ty.a55 Ty.s55 (vs := cE ((tget R p).getD zE)) rfl (fun w1 hw => Cells.of_block (hw.own _ (.tail _ (.tail _ (.head _)))) rfl) (fun w1 hw => ?_)
    exact ⟨(_, lo), rfl, hvo, hw.drop (.cons_cons _ (.cons _ (.cons _ (.cons _ (List.sublist_append_left _ _)))))⟩

end Go.Proofs.Ytohldionclgljaa
