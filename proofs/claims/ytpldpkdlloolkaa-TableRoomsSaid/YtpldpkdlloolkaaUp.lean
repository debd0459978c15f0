/-
  TableRooms: the walk.
-/
import Derived.Test.YtpldpkdlloolkaaUn
namespace Go.Proofs.Ytpldpkdlloolkaa
open Go.J Go.RowKit
set_option linter.unusedVariables false
set_option linter.unusedSimpArgs false
set_option maxRecDepth 4000
theorem cE_length (x : EV) : (cE x).length = 51 := rfl
theorem place_some {L : List EV} (hd : L.Pairwise (fun x y => x.p ≠ y.p)) {p : PV} {y : EV} (h : tget L p = some y) : ∃ k, L[k]? = some y ∧ placeE L p = (k : Nat) ∧ y.p = p := by
  have hy := List.mem_of_find?_eq_some h
  have hp : y.p = p := by simpa using List.find?_some h
  obtain ⟨k, hk, hke⟩ := List.getElem_of_mem hy
  refine ⟨k, by rw [List.getElem?_eq_getElem hk, hke], placeE_at (by rw [List.getElem?_eq_getElem hk, hke]) hp (fun j z hj hz => ?_), hp⟩
  obtain ⟨hjl, hje⟩ := List.getElem?_eq_some_iff.1 hz
  have := List.pairwise_iff_getElem.1 hd j k hjl hk hj
  rw [hje, hke, hp] at this
  exact this
theorem place_none {L : List EV} {p : PV} (h : tget L p = none) : placeE L p = -1 := placeE_no fun j y hj hy => tget_none.1 h y (List.mem_of_getElem? hy)
theorem del_cut {L : List EV} {k : Nat} {y : EV} (hd : L.Pairwise (fun x y => x.p ≠ y.p)) (h : L[k]? = some y) : delL L y.p = L.take k ++ L.drop (k + 1) := by
  unfold delL
  rw [← erase_filter hd h, List.eraseIdx_eq_take_drop_succ]
theorem ord_less {L : List EV} {es : Array MapEntry} {clock : Nat} (hT : Tab L es clock) {i : Nat} {x y : EV} (h0 : (ordE L)[i]? = some y) (h1 : (ordE L)[i + 1]? = some x) : ltP y.p x.p = true := by
  obtain ⟨hi, rfl⟩ := List.getElem?_eq_some_iff.1 h0
  obtain ⟨hj, rfl⟩ := List.getElem?_eq_some_iff.1 h1
  have hs := List.pairwise_iff_getElem.1 (ordE_sorted L) i (i + 1) hi hj (by omega)
  have hd := List.pairwise_iff_getElem.1 ((ordE_perm L).symm.pairwise hT.dist (fun {a b} h => h.symm)) i (i + 1) hi hj (by omega)
  cases h : ltP (ordE L)[i].p (ordE L)[i + 1].p with
  | true => rfl
  | false => exact absurd (ltP_total h hs) hd

set_option maxHeartbeats 1000000 in
theorem tableRooms_spec (n : Int) (v : Value) (os : List OV) (w : World) (hrv : Row w v os.length (fO os)) (hok : ∀ x, x ∈ os → okO x) (hxl : os.length ≤ 1954687338213) :
    Calls Try.prog 9 [.int .i64 n, v].toArray w fun r w' => r = .returned (.bool true) ∧ Bel w w' := by
  obtain ⟨ao, co_, rfl, hcv, _⟩ := id hrv
  obtain ⟨mo, hmo⟩ : ∃ mo, min (max n 0) 128 = mo := ⟨_, rfl⟩
  have hmb : mo ≤ 128 := by omega
  have hmb0 : 0 ≤ mo := by omega
  refine calls_of_J (args := [.int .i64 n, .slice ao os.length co_]) (e := [(0, .int .i64 n), (1, .slice ao os.length co_)]) Try.func9 rfl rfl ⟨rfl, rfl, trivial⟩ (St.start w) ?_
  refine JC.seq (fun K0 hK0 => ?_)
  refine JC.region ?_
  refine J.assign rfl rfl ?_
  refine J.nil ?_
  refine JX.thenN (hK0 _ _ ?_)
  refine JC.seq (fun K1 hK1 => ?_)
  refine JC.region ?_
  refine J.move rfl rfl ?_
  refine J.perm ([] ++ ([])) (.refl _) ?_
  refine J.callS (α := Nat × Nat) (V := fun x => .pointer (some ⟨x.1, 0, none⟩)) (Pr := fun _ => True) (L := fun x => [(x.1, tabO (min (max (n) 0) 128) x.2), (x.2, .map #[] 0)]) (l1 := []) Ty.bd16 rfl rfl (fun w1 hw => (new_spec n w1).mono fun _ _ ⟨x, h1, h2⟩ => ⟨x, h1, trivial, h2⟩) (fun x _ => ?_)
  obtain ⟨t1, m1⟩ := x
  simp only [List.cons_append, List.nil_append]
  rw [hmo]
  refine J.assign rfl rfl ?_
  refine J.nil ?_
  refine JX.thenN (hK1 _ _ ?_)
  refine JC.seq (fun K2 hK2 => ?_)
  refine JC.seq (fun K3 hK3 => ?_)
  refine JC.region ?_
  refine J.move rfl rfl ?_
  refine J.eqNil Ty.u29 rfl rfl rfl ?_
  refine J.move rfl rfl ?_
  first
    | (refine J.skip rfl rfl rfl rfl rfl ?_)
    | (refine J.skipU rfl rfl rfl rfl ?_)
    | (refine J.unguard rfl rfl rfl ?_; refine J.callB (v := .bool true) (fun w1 w2 hw hb => hw.step hb) Ty.bd24 rfl rfl (fun w1 hw => fixed12_spec w1) ?_)
  first
    | (refine J.skip rfl rfl rfl rfl rfl ?_)
    | (refine J.skipU rfl rfl rfl rfl ?_)
    | (refine J.unguard rfl rfl rfl ?_; refine J.not rfl rfl ?_)
  (first | refine J.pickT rfl rfl rfl ?_ | refine J.pickF rfl rfl rfl ?_)
  refine J.nil ?_
  refine JX.thenN (hK3 _ _ ?_)
  first | refine JC.condF rfl ?_ | refine JC.cond rfl (fun h => by first | (exfalso; simp at h; omega) | (simp at h)) (fun _ => ?_)
  refine JC.skip ?_
  refine JX.thenN (hK2 _ _ ?_)
  refine JC.seq (fun K4 hK4 => ?_)
  refine JC.region ?_
  refine J.move rfl rfl ?_
  refine J.max2 rfl rfl rfl ?_
  refine J.min2 rfl rfl rfl ?_
  refine J.name 27 rfl (show _ = Value.int .i64 mo by rw [hmo]) ?_
  refine J.assign rfl rfl ?_
  refine J.nil ?_
  refine JX.thenN (hK4 _ _ ?_)
  refine JC.seq (fun K5 hK5 => ?_)
  refine JC.region ?_
  refine J.assign rfl rfl ?_
  refine J.nil ?_
  refine JX.thenN (hK5 _ _ ?_)
  refine JC.seq (fun K6 hK6 => ?_)
  refine JC.seq (fun K7 hK7 => ?_)
  refine JC.region ?_
  refine J.move rfl rfl ?_
  refine J.lenS rfl Ty.u74 rfl rfl ?_
  refine J.move rfl rfl ?_
  refine J.nil ?_
  refine JX.thenN (hK7 _ _ ?_)
  refine JC.block ?_
  refine JC.conseq (JC.cov (f := (fun st => [(5, .pointer (some ⟨t1, 0, none⟩)), (6, .int .i64 mo), (7, st.2.2.2.2.1), (28, .slice ao os.length co_), (29, .int .i64 ((os.length : Nat) : Int)), (30, .int .i64 ((st.1 : Nat) : Int))]) ((0, [], #[], 0, .slice none 0 0, []) : Nat × List EV × Array MapEntry × Nat × Value × List (Nat × Obj))) ⟨rfl, rfl, rfl, rfl, rfl, rfl, trivial⟩ (JC.loop (α := Nat × List EV × Array MapEntry × Nat × Value × List (Nat × Obj)) (fun st => [(5, .pointer (some ⟨t1, 0, none⟩)), (6, .int .i64 mo), (7, st.2.2.2.2.1), (28, .slice ao os.length co_), (29, .int .i64 ((os.length : Nat) : Int)), (30, .int .i64 ((st.1 : Nat) : Int))]) (fun st w' => (st.1 ≤ os.length ∧ Tab st.2.1 st.2.2.1 st.2.2.2.1 ∧ GoodL st.2.1 mo ∧ VecW 34 51 st.2.2.2.2.1 (st.2.1).length (fE (st.2.1)) st.2.2.2.2.2) ∧ St w [] ((t1, tabO mo m1) :: (m1, .map st.2.2.1 st.2.2.2.1) :: st.2.2.2.2.2) w') (fun st => os.length - st.1) ((0, [], #[], 0, .slice none 0 0, []) : Nat × List EV × Array MapEntry × Nat × Value × List (Nat × Obj)) (fun st => ?_))) (fun w hw => ⟨⟨Nat.zero_le _, Tab.nil, laidL_good mo [], VecW.nil _ _⟩, hw⟩)
  obtain ⟨i, L, es, ck, vi, li⟩ := st
  refine JC.pr (fun hx1 => ?_)
  obtain ⟨hi, hT, hgood, hvi⟩ := hx1
  simp only at hi hT hgood hvi ⊢
  obtain ⟨ai, ci, rfl, hci⟩ := hvi.form
  have hlen := hgood.len
  have hol := (ordE_perm L).length_eq
  have hl128 : L.length ≤ 128 := by omega
  have ho128 : (ordE L).length ≤ 128 := by omega
  have hflL := fE_length L
  refine JC.seq (fun K8 hK8 => ?_)
  refine JC.region ?_
  refine J.bin rfl rfl rfl rfl ?_
  refine J.nil ?_
  refine JX.thenN (hK8 _ _ ?_)
  refine JC.seq (fun K9 hK9 => ?_)
  refine JC.cond rfl (fun h1 => ?_) (fun h1 => ?_)
  · skip
    have hlt : i < os.length := by simp at h1; omega
    have hflo := fO_length os
    have hclo := (Row.some hrv (by omega))
    obtain ⟨qx, ox, cx', hqe, _, _⟩ := hclo
    simp only [Value.slice.injEq] at hqe
    obtain ⟨rfl, _, rfl⟩ := hqe
    obtain ⟨oo, hoe⟩ : ∃ x, os[i]? = some x := ⟨_, List.getElem?_eq_getElem hlt⟩
    have hoo := hok oo (List.mem_of_getElem? hoe)
    have hcs := tadd_cases L mo oo.x
    refine JC.skip ?_
    refine JX.thenN (hK9 _ _ ?_)
    refine JC.seq (fun K10 hK10 => ?_)
    refine JC.block ?_
    refine JC.seq (fun K11 hK11 => ?_)
    refine JC.region ?_
    refine J.move rfl rfl ?_
    refine J.indexAddrS Ty.el74 Ty.s76 rfl rfl (by omega) (by omega) rfl ?_
    refine J.loadA (vs := cO oo) Ty.a76 Ty.s76 rfl rfl (fun w1 hw => rowG_at cO_length (hrv.below (hw.drop (List.nil_sublist _)).below) hoe (by omega)) rfl ?_
    refine J.alloc Ty.zO_ rfl rfl (fun b9 => ?_)
    refine J.assign rfl rfl ?_
    refine J.storeW (cs := cO zO) (vs := cO oo) Ty.s76 rfl rfl rfl rfl rfl (one_cO _) .here ?_
    refine J.nil ?_
    refine JX.thenN (hK11 _ _ ?_)
    refine JC.seq (fun K12 hK12 => ?_)
    refine JC.seq (fun K13 hK13 => ?_)
    refine JC.region ?_
    refine J.move rfl rfl ?_
    refine J.bin rfl rfl rfl rfl ?_
    refine J.nil ?_
    refine JX.thenN (hK13 _ _ ?_)
    refine JC.cond rfl (fun h2 => ?_) (fun h2 => ?_)
    · skip
      refine JC.conseq (I' := St w [] ((t1, tabO mo m1) :: (m1, .map es ck) :: li)) ?_ (fun w1 hw => hw.drop (List.sublist_cons_self _ _))
      refine JC.exit ?_
      refine JX.thenE ?_
      refine JX.blockO rfl ?_
      refine JX.thenE ?_
      refine JX.thenE ?_
      refine JX.blockE ?_
      refine JX.thenN (hK6 _ _ ?_)
      refine JC.seq (fun K14 hK14 => ?_)
      refine JC.region ?_
      refine J.move rfl rfl ?_
      have hvi2 := hvi
      refine J.perm ([] ++ ((t1, tabO mo m1) :: (m1, .map es ck) :: li)) (.refl _) ?_
      refine J.callS (α := Value × List (Nat × Obj)) (V := (·.1)) (Pr := fun x => Vec 34 51 x.1 ((ordE L)).length (fE ((ordE L))) x.2) (L := (·.2)) (l1 := []) Ty.bd25 rfl rfl (fun w1 hw => all_spec t1 m1 mo (L) es ck w1 (hw.own _ (.head _)) (hw.own _ (.tail _ (.head _))) hT (by omega)) (fun x hvz => ?_)
      obtain ⟨vz, lz⟩ := x
      simp only at hvz ⊢
      obtain ⟨az, cz, rfl, hcz⟩ := hvz.form
      refine J.assign rfl rfl ?_
      refine J.nil ?_
      refine JX.thenN (hK14 _ _ ?_)
      refine JC.seq (fun K15 hK15 => ?_)
      refine JC.seq (fun K16 hK16 => ?_)
      refine JC.region ?_
      refine J.move rfl rfl ?_
      refine J.lenS rfl Ty.u62 rfl rfl ?_
      refine J.move rfl rfl ?_
      refine J.nil ?_
      refine JX.thenN (hK16 _ _ ?_)
      refine JC.block ?_
      refine JC.conseq (JC.cov (f := (fun j => [(5, .pointer (some ⟨t1, 0, none⟩)), (6, .int .i64 mo), (7, .slice ai L.length ci), (13, .slice az (ordE L).length cz), (97, .slice az (ordE L).length cz), (98, .int .i64 (((ordE L).length : Nat) : Int)), (99, .int .i64 ((j : Nat) : Int))]) 0) ⟨rfl, rfl, rfl, rfl, rfl, rfl, rfl, trivial⟩ (JC.loop (α := Nat) (fun j => [(5, .pointer (some ⟨t1, 0, none⟩)), (6, .int .i64 mo), (7, .slice ai L.length ci), (13, .slice az (ordE L).length cz), (97, .slice az (ordE L).length cz), (98, .int .i64 (((ordE L).length : Nat) : Int)), (99, .int .i64 ((j : Nat) : Int))]) (fun j w' => (j ≤ (ordE L).length) ∧ St w [] ((t1, tabO mo m1) :: (m1, .map es ck) :: (lz ++ li)) w') (fun j => (ordE L).length - j) 0 (fun j => ?_))) (fun w hw => ⟨Nat.zero_le _, hw.perm (by (refine perm_cnt (fun _ => ?_)); simp only [cntB_append, cntB_cons, cntB_nil, Nat.add_zero, Nat.zero_add]; try ac_rfl)⟩)
      refine JC.pr (fun hj => ?_)
      refine JC.seq (fun K17 hK17 => ?_)
      refine JC.region ?_
      refine J.bin rfl rfl rfl rfl ?_
      refine J.nil ?_
      refine JX.thenN (hK17 _ _ ?_)
      refine JC.seq (fun K18 hK18 => ?_)
      refine JC.cond rfl (fun h9 => ?_) (fun h9 => ?_)
      · skip
        have hltj : j < (ordE L).length := by simp at h9; omega
        obtain ⟨qz, spz, rfl, rfl, hsz, hcz3⟩ := vec_pos hvz (by omega)
        obtain ⟨qi, spi, rfl, rfl, hsi, hci3⟩ := hvi.pos (by omega)
        obtain ⟨xe, hxe⟩ : ∃ y, (ordE L)[j]? = some y := ⟨_, List.getElem?_eq_getElem hltj⟩
        have hxm := List.mem_of_getElem? hxe
        have hxo := ordE_ok hT xe hxm
        obtain ⟨k, hk, hpl, _⟩ := place_some hT.dist (tget_some hT.dist ((ordE_perm L).mem_iff.1 hxm))
        have hkl : k < L.length := (List.getElem?_eq_some_iff.1 hk).1
        refine JC.skip ?_
        refine JX.thenN (hK18 _ _ ?_)
        refine JC.seq (fun K19 hK19 => ?_)
        refine JC.block ?_
        refine JC.seq (fun K20 hK20 => ?_)
        refine JC.region ?_
        refine J.move rfl rfl ?_
        refine J.indexAddrS Ty.el62 Ty.s34 rfl rfl (by omega) (by omega) rfl ?_
        refine J.loadA (vs := cE xe) Ty.a34 Ty.s34 rfl rfl (fun w1 hw => rowE_at (o := 0) (vec_rowM hvz hw (fun q hq => by first | (simp [hq]; done) | (simp at hq; simp [hq]; done) | (simp at hq; subst hq; simp))) hxe (by omega)) rfl ?_
        refine J.alloc Ty.zE_ rfl rfl (fun b15 => ?_)
        refine J.assign rfl rfl ?_
        refine J.storeW (cs := cE zE) (vs := cE xe) Ty.s34 rfl rfl rfl rfl rfl (one_cE _) .here ?_
        refine J.nil ?_
        refine JX.thenN (hK20 _ _ ?_)
        refine JC.seq (fun K21 hK21 => ?_)
        refine JC.region ?_
        refine J.move rfl rfl ?_
        refine J.fieldAddr Ty.fd34_0 rfl rfl ?_
        refine J.loadOA (vs := cP xe.p) Ty.a25 Ty.s25 rfl (.head _) rfl rfl rfl ?_
        refine J.callB (v := .int .i64 ((k : Nat) : Int)) (fun w1 w2 hw hb => hw.step hb) Ty.bd36 rfl rfl (fun w1 hw => (by have h := placeE_spec _ L xe.p w1 (hvi.rowM hw (fun q hq => by first | (simp [hq]; done) | (simp at hq; simp [hq]; done) | (simp at hq; subst hq; simp))) hT.ok hxo.1 (by omega); rwa [hpl] at h)) ?_
        refine J.assign rfl rfl ?_
        refine J.nil ?_
        refine JX.thenN (hK21 _ _ ?_)
        refine JC.seq (fun K22 hK22 => ?_)
        by_cases hj0 : 0 < j
        · skip
          obtain ⟨yp, hyp⟩ : ∃ y, (ordE L)[j - 1]? = some y := ⟨_, List.getElem?_eq_getElem (by omega)⟩
          have hles := ord_less hT hyp (by rw [show j - 1 + 1 = j by omega]; exact hxe)
          apply JC.drawL 26 [Eqv (.int .i64 ((k : Nat) : Int)), Eqv (.bool false), Eqv (.bool false), Eqv (.slice (some ⟨qi, 0, none⟩) L.length ci), Eqv (.int .i64 ((k : Nat) : Int)), Eqv (.pointer (some ⟨qi, 0 + ((k : Nat) : Int).toNat * 51, none⟩)), Eqv (.agg (cE xe).toArray), Eqv (.agg (cE xe).toArray), Eqv (.bool false), Eqv (.bool false), Eqv (.bool false), Eqv (.int .i64 ((j : Nat) : Int)), Eqv (.bool true), Eqv (.bool true), Eqv (.slice (some ⟨qz, 0, none⟩) (ordE L).length cz), Eqv (.int .i64 ((j : Nat) : Int)), Eqv (.int .i64 ((j - 1 : Nat) : Int)), Eqv (.pointer (some ⟨qz, 0 + ((j - 1 : Nat) : Int).toNat * 51, none⟩)), Eqv (.pointer (some ⟨qz, 0 + ((j - 1 : Nat) : Int).toNat * 51 + 0, none⟩)), Eqv (.agg (cP yp.p).toArray), Eqv (.pointer (some ⟨b15, 0 + 0, none⟩)), Eqv (.agg (cP xe.p).toArray), Eqv (.bool true), Eqv (.bool false), Eqv (.bool false), Eqv (.bool false)] Ty.mixed rfl rfl rfl (by kernel_rfl) rfl rfl (fun w w' hw hb => hw.step hb) ⟨fun _ _ _ h _ => h, fun _ _ _ h _ => h, fun _ _ _ h _ => h, fun _ _ _ h _ => h, fun _ _ _ h _ => h, fun _ _ _ h _ => h, fun _ _ _ h _ => h, fun _ _ _ h _ => h, fun _ _ _ h _ => h, fun _ _ _ h _ => h, fun _ _ _ h _ => h, fun _ _ _ h _ => h, fun _ _ _ h _ => h, fun _ _ _ h _ => h, fun _ _ _ h _ => h, fun _ _ _ h _ => h, fun _ _ _ h _ => h, fun _ _ _ h _ => h, fun _ _ _ h _ => h, fun _ _ _ h _ => h, fun _ _ _ h _ => h, fun _ _ _ h _ => h, fun _ _ _ h _ => h, fun _ _ _ h _ => h, fun _ _ _ h _ => h, fun _ _ _ h _ => h, trivial⟩ ?hstep ?htail
          case hstep =>
            refine ⟨fun wi => ?_, fun wi => ?_, fun wi => ?_, fun wi => ?_, fun wi => ?_, fun wi => ?_, fun wi => ?_, fun wi => ?_, fun wi => ?_, fun wi => ?_, fun wi => ?_, fun wi => ?_, fun wi => ?_, fun wi => ?_, fun wi => ?_, fun wi => ?_, fun wi => ?_, fun wi => ?_, fun wi => ?_, fun wi => ?_, fun wi => ?_, fun wi => ?_, fun wi => ?_, fun wi => ?_, fun wi => ?_, fun wi => ?_, trivial⟩
            · skip
              refine Fin.nil ?_
              refine J.move rfl rfl ?_
              refine J.nil (JX.fin rfl (fun w hw => ⟨rfl, (by rw [hw.1]; exact Bel.refl _)⟩))
            · skip
              refine Fin.cons (fun v29_0 => ?_)
              refine Fin.nil ?_
              refine J.prE (fun h => ?_); subst h
              refine J.bin rfl rfl rfl rfl ?_
              refine J.name 109 rfl (show _ = Value.bool false by simp) ?_
              refine J.nil (JX.fin rfl (fun w hw => ⟨rfl, (by rw [hw.1]; exact Bel.refl _)⟩))
            · skip
              refine Fin.cons (fun v29_1 => ?_)
              refine Fin.nil ?_
              refine J.prE (fun h => ?_); subst h
              refine J.move rfl rfl ?_
              refine J.nil (JX.fin rfl (fun w hw => ⟨rfl, (by rw [hw.1]; exact Bel.refl _)⟩))
            · skip
              refine Fin.cons (fun v29_2 => ?_)
              refine Fin.nil ?_
              refine J.prE (fun h => ?_); subst h
              first
                | (refine J.skip rfl rfl rfl rfl rfl ?_)
                | (refine J.skipU rfl rfl rfl rfl ?_)
                | (refine J.unguard rfl rfl rfl ?_; refine J.move rfl rfl ?_)
              refine J.nil (JX.fin rfl (fun w hw => ⟨rfl, (by rw [hw.1]; exact Bel.refl _)⟩))
            · skip
              refine Fin.cons (fun v29_2 => ?_)
              refine Fin.nil ?_
              refine J.prE (fun h => ?_); subst h
              first
                | (refine J.skip rfl rfl rfl rfl rfl ?_)
                | (refine J.skipU rfl rfl rfl rfl ?_)
                | (refine J.unguard rfl rfl rfl ?_; refine J.move rfl rfl ?_)
              refine J.nil (JX.fin rfl (fun w hw => ⟨rfl, (by rw [hw.1]; exact Bel.refl _)⟩))
            · skip
              refine Fin.cons (fun v29_3 => ?_)
              refine Fin.cons (fun v29_4 => ?_)
              refine Fin.cons (fun v29_2 => ?_)
              refine Fin.nil ?_
              refine J.prE (fun h => ?_); subst h
              refine J.prE (fun h => ?_); subst h
              refine J.prE (fun h => ?_); subst h
              refine J.unguard rfl rfl rfl ?_
              refine J.indexAddrS Ty.el62 Ty.s34 rfl rfl (by omega) (by omega) rfl ?_
              refine J.nil (JX.fin rfl (fun w hw => ⟨rfl, (by rw [hw.1]; exact Bel.refl _)⟩))
            · skip
              refine Fin.cons (fun v29_5 => ?_)
              refine Fin.cons (fun v29_2 => ?_)
              refine Fin.nil ?_
              refine J.prE (fun h => ?_); subst h
              refine J.prE (fun h => ?_); subst h
              refine J.unguard rfl rfl rfl ?_
              refine J.loadA (vs := cE xe) Ty.a34 Ty.s34 rfl rfl (fun w1 hw => rowE_at (o := 0) (hvi.rowM hw.2 (fun q hq => by first | (simp [hq]; done) | (simp at hq; simp [hq]; done) | (simp at hq; subst hq; simp))) hk (by omega)) rfl ?_
              refine J.nil (JX.fin rfl (fun w hw => ⟨rfl, (by rw [hw.1]; exact Bel.refl _)⟩))
            · skip
              refine Fin.cons (fun v29_2 => ?_)
              refine Fin.nil ?_
              refine J.prE (fun h => ?_); subst h
              refine J.unguard rfl rfl rfl ?_
              refine J.loadA (vs := cE xe) Ty.a34 Ty.s34 rfl rfl (fun w1 hw => Cells.of_block (hw.2.own _ (.head _)) rfl) rfl ?_
              refine J.nil (JX.fin rfl (fun w hw => ⟨rfl, (by rw [hw.1]; exact Bel.refl _)⟩))
            · skip
              refine Fin.cons (fun v29_6 => ?_)
              refine Fin.cons (fun v29_7 => ?_)
              refine Fin.cons (fun v29_2 => ?_)
              refine Fin.nil ?_
              refine J.prE (fun h => ?_); subst h
              refine J.prE (fun h => ?_); subst h
              refine J.prE (fun h => ?_); subst h
              refine J.unguard rfl rfl rfl ?_
              refine J.neE Ty.QE Ty.keyE rfl rfl hxo hxo rfl ?_
              refine J.name 116 rfl (show _ = Value.bool false by simp) ?_
              refine J.nil (JX.fin rfl (fun w hw => ⟨rfl, (by rw [hw.1]; exact Bel.refl _)⟩))
            · skip
              refine Fin.cons (fun v29_2 => ?_)
              refine Fin.cons (fun v29_8 => ?_)
              refine Fin.nil ?_
              refine J.prE (fun h => ?_); subst h
              refine J.prE (fun h => ?_); subst h
              (first | refine J.pickT rfl rfl rfl ?_ | refine J.pickF rfl rfl rfl ?_)
              refine J.nil (JX.fin rfl (fun w hw => ⟨rfl, (by rw [hw.1]; exact Bel.refl _)⟩))
            · skip
              refine Fin.cons (fun v29_9 => ?_)
              refine Fin.cons (fun v29_2 => ?_)
              refine Fin.nil ?_
              refine J.prE (fun h => ?_); subst h
              refine J.prE (fun h => ?_); subst h
              refine J.move rfl rfl ?_
              refine J.nil (JX.fin rfl (fun w hw => ⟨rfl, (by rw [hw.1]; exact Bel.refl _)⟩))
            · skip
              refine Fin.cons (fun v29_10 => ?_)
              refine Fin.nil ?_
              refine J.prE (fun h => ?_); subst h
              first
                | (refine J.skip rfl rfl rfl rfl rfl ?_)
                | (refine J.skipU rfl rfl rfl rfl ?_)
                | (refine J.unguard rfl rfl rfl ?_; refine J.move rfl rfl ?_)
              refine J.nil (JX.fin rfl (fun w hw => ⟨rfl, (by rw [hw.1]; exact Bel.refl _)⟩))
            · skip
              refine Fin.cons (fun v29_11 => ?_)
              refine Fin.cons (fun v29_10 => ?_)
              refine Fin.nil ?_
              refine J.prE (fun h => ?_); subst h
              refine J.prE (fun h => ?_); subst h
              refine J.unguard rfl rfl rfl ?_
              refine J.bin rfl rfl rfl rfl ?_
              refine J.name 120 rfl (show _ = Value.bool true by simp [hj0]) ?_
              refine J.nil (JX.fin rfl (fun w hw => ⟨rfl, (by rw [hw.1]; exact Bel.refl _)⟩))
            · skip
              refine Fin.cons (fun v29_12 => ?_)
              refine Fin.cons (fun v29_10 => ?_)
              refine Fin.cons (fun v29_10 => ?_)
              refine Fin.nil ?_
              refine J.prE (fun h => ?_); subst h
              refine J.prE (fun h => ?_); subst h
              refine J.prE (fun h => ?_); subst h
              first
                | (refine J.skip rfl rfl rfl rfl rfl ?_)
                | (refine J.skipU rfl rfl rfl rfl ?_)
                | (refine J.unguard rfl rfl rfl ?_; refine J.move rfl rfl ?_)
              refine J.nil (JX.fin rfl (fun w hw => ⟨rfl, (by rw [hw.1]; exact Bel.refl _)⟩))
            · skip
              refine Fin.cons (fun v29_13 => ?_)
              refine Fin.nil ?_
              refine J.prE (fun h => ?_); subst h
              first
                | (refine J.skip rfl rfl rfl rfl rfl ?_)
                | (refine J.skipU rfl rfl rfl rfl ?_)
                | (refine J.unguard rfl rfl rfl ?_; refine J.move rfl rfl ?_)
              refine J.nil (JX.fin rfl (fun w hw => ⟨rfl, (by rw [hw.1]; exact Bel.refl _)⟩))
            · skip
              refine Fin.cons (fun v29_13 => ?_)
              refine Fin.nil ?_
              refine J.prE (fun h => ?_); subst h
              first
                | (refine J.skip rfl rfl rfl rfl rfl ?_)
                | (refine J.skipU rfl rfl rfl rfl ?_)
                | (refine J.unguard rfl rfl rfl ?_; refine J.move rfl rfl ?_)
              refine J.nil (JX.fin rfl (fun w hw => ⟨rfl, (by rw [hw.1]; exact Bel.refl _)⟩))
            · skip
              refine Fin.cons (fun v29_15 => ?_)
              refine Fin.cons (fun v29_13 => ?_)
              refine Fin.nil ?_
              refine J.prE (fun h => ?_); subst h
              refine J.prE (fun h => ?_); subst h
              refine J.unguard rfl rfl rfl ?_
              refine J.subN rfl rfl (by omega) (by omega) rfl ?_
              refine J.name 124 rfl (show Value.int .i64 (((j : Nat) : Int) - 1) = .int .i64 ((j - 1 : Nat) : Int) from congrArg _ (by omega)) ?_
              refine J.nil (JX.fin rfl (fun w hw => ⟨rfl, (by rw [hw.1]; exact Bel.refl _)⟩))
            · skip
              refine Fin.cons (fun v29_14 => ?_)
              refine Fin.cons (fun v29_16 => ?_)
              refine Fin.cons (fun v29_13 => ?_)
              refine Fin.nil ?_
              refine J.prE (fun h => ?_); subst h
              refine J.prE (fun h => ?_); subst h
              refine J.prE (fun h => ?_); subst h
              refine J.unguard rfl rfl rfl ?_
              refine J.indexAddrS Ty.el62 Ty.s34 rfl rfl (by omega) (by omega) rfl ?_
              refine J.nil (JX.fin rfl (fun w hw => ⟨rfl, (by rw [hw.1]; exact Bel.refl _)⟩))
            · skip
              refine Fin.cons (fun v29_17 => ?_)
              refine Fin.cons (fun v29_13 => ?_)
              refine Fin.nil ?_
              refine J.prE (fun h => ?_); subst h
              refine J.prE (fun h => ?_); subst h
              first
                | (refine J.skip rfl rfl rfl rfl rfl ?_)
                | (refine J.skipU rfl rfl rfl rfl ?_)
                | (refine J.unguard rfl rfl rfl ?_; refine J.fieldAddr Ty.fd34_0 rfl rfl ?_)
              refine J.nil (JX.fin rfl (fun w hw => ⟨rfl, (by rw [hw.1]; exact Bel.refl _)⟩))
            · skip
              refine Fin.cons (fun v29_18 => ?_)
              refine Fin.cons (fun v29_13 => ?_)
              refine Fin.nil ?_
              refine J.prE (fun h => ?_); subst h
              refine J.prE (fun h => ?_); subst h
              refine J.unguard rfl rfl rfl ?_
              refine J.loadA (vs := cP yp.p) Ty.a25 Ty.s25 rfl rfl (fun w1 hw => cells_sub (rowE_at (o := 0) (vec_rowM hvz hw.2 (fun q hq => by first | (simp [hq]; done) | (simp at hq; simp [hq]; done) | (simp at hq; subst hq; simp))) hyp (by omega)) rfl) rfl ?_
              refine J.nil (JX.fin rfl (fun w hw => ⟨rfl, (by rw [hw.1]; exact Bel.refl _)⟩))
            · skip
              refine Fin.cons (fun v29_13 => ?_)
              refine Fin.nil ?_
              refine J.prE (fun h => ?_); subst h
              first
                | (refine J.skip rfl rfl rfl rfl rfl ?_)
                | (refine J.skipU rfl rfl rfl rfl ?_)
                | (refine J.unguard rfl rfl rfl ?_; refine J.fieldAddr Ty.fd34_0 rfl rfl ?_)
              refine J.nil (JX.fin rfl (fun w hw => ⟨rfl, (by rw [hw.1]; exact Bel.refl _)⟩))
            · skip
              refine Fin.cons (fun v29_20 => ?_)
              refine Fin.cons (fun v29_13 => ?_)
              refine Fin.nil ?_
              refine J.prE (fun h => ?_); subst h
              refine J.prE (fun h => ?_); subst h
              refine J.unguard rfl rfl rfl ?_
              refine J.loadA (vs := cP xe.p) Ty.a25 Ty.s25 rfl rfl (fun w1 hw => Cells.of_block (hw.2.own _ (.head _)) rfl) rfl ?_
              refine J.nil (JX.fin rfl (fun w hw => ⟨rfl, (by rw [hw.1]; exact Bel.refl _)⟩))
            · skip
              refine Fin.cons (fun v29_19 => ?_)
              refine Fin.cons (fun v29_21 => ?_)
              refine Fin.cons (fun v29_13 => ?_)
              refine Fin.cons (fun v29_13 => ?_)
              refine Fin.nil ?_
              refine J.prE (fun h => ?_); subst h
              refine J.prE (fun h => ?_); subst h
              refine J.prE (fun h => ?_); subst h
              refine J.prE (fun h => ?_); subst h
              refine J.unguard rfl rfl rfl ?_
              refine J.callD (v := .bool true) Ty.bd32 rfl rfl (fun w1 hw => (by have h := rless12_spec yp.p xe.p w1; rwa [hles] at h)) ?_
              refine J.nil (JX.fin rfl (fun w hw => ⟨rfl, hw⟩))
            · skip
              refine Fin.cons (fun v29_22 => ?_)
              refine Fin.cons (fun v29_13 => ?_)
              refine Fin.nil ?_
              refine J.prE (fun h => ?_); subst h
              refine J.prE (fun h => ?_); subst h
              first
                | (refine J.skip rfl rfl rfl rfl rfl ?_)
                | (refine J.skipU rfl rfl rfl rfl ?_)
                | (refine J.unguard rfl rfl rfl ?_; refine J.not rfl rfl ?_)
              refine J.nil (JX.fin rfl (fun w hw => ⟨rfl, (by rw [hw.1]; exact Bel.refl _)⟩))
            · skip
              refine Fin.cons (fun v29_13 => ?_)
              refine Fin.cons (fun v29_23 => ?_)
              refine Fin.cons (fun v29_10 => ?_)
              refine Fin.nil ?_
              refine J.prE (fun h => ?_); subst h
              refine J.prE (fun h => ?_); subst h
              refine J.prE (fun h => ?_); subst h
              first
                | (refine J.skip rfl rfl rfl rfl rfl ?_)
                | (refine J.skipU rfl rfl rfl rfl ?_)
                | (refine J.unguard rfl rfl rfl ?_; (first | refine J.pickT rfl rfl rfl ?_ | refine J.pickF rfl rfl rfl ?_))
              refine J.nil (JX.fin rfl (fun w hw => ⟨rfl, (by rw [hw.1]; exact Bel.refl _)⟩))
            · skip
              refine Fin.cons (fun v29_10 => ?_)
              refine Fin.cons (fun v29_24 => ?_)
              refine Fin.nil ?_
              refine J.prE (fun h => ?_); subst h
              refine J.prE (fun h => ?_); subst h
              (first | refine J.pickT rfl rfl rfl ?_ | refine J.pickF rfl rfl rfl ?_)
              refine J.nil (JX.fin rfl (fun w hw => ⟨rfl, (by rw [hw.1]; exact Bel.refl _)⟩))
          case htail =>
            refine Fin.cons (fun v29_0 => ?_)
            refine Fin.cons (fun v29_1 => ?_)
            refine Fin.cons (fun v29_2 => ?_)
            refine Fin.cons (fun v29_3 => ?_)
            refine Fin.cons (fun v29_4 => ?_)
            refine Fin.cons (fun v29_5 => ?_)
            refine Fin.cons (fun v29_6 => ?_)
            refine Fin.cons (fun v29_7 => ?_)
            refine Fin.cons (fun v29_8 => ?_)
            refine Fin.cons (fun v29_9 => ?_)
            refine Fin.cons (fun v29_10 => ?_)
            refine Fin.cons (fun v29_11 => ?_)
            refine Fin.cons (fun v29_12 => ?_)
            refine Fin.cons (fun v29_13 => ?_)
            refine Fin.cons (fun v29_14 => ?_)
            refine Fin.cons (fun v29_15 => ?_)
            refine Fin.cons (fun v29_16 => ?_)
            refine Fin.cons (fun v29_17 => ?_)
            refine Fin.cons (fun v29_18 => ?_)
            refine Fin.cons (fun v29_19 => ?_)
            refine Fin.cons (fun v29_20 => ?_)
            refine Fin.cons (fun v29_21 => ?_)
            refine Fin.cons (fun v29_22 => ?_)
            refine Fin.cons (fun v29_23 => ?_)
            refine Fin.cons (fun v29_24 => ?_)
            refine Fin.cons (fun v29_25 => ?_)
            refine Fin.nil ?_
            refine J.prE (fun h => ?_); subst h
            refine J.prE (fun h => ?_); subst h
            refine J.prE (fun h => ?_); subst h
            refine J.prE (fun h => ?_); subst h
            refine J.prE (fun h => ?_); subst h
            refine J.prE (fun h => ?_); subst h
            refine J.prE (fun h => ?_); subst h
            refine J.prE (fun h => ?_); subst h
            refine J.prE (fun h => ?_); subst h
            refine J.prE (fun h => ?_); subst h
            refine J.prE (fun h => ?_); subst h
            refine J.prE (fun h => ?_); subst h
            refine J.prE (fun h => ?_); subst h
            refine J.prE (fun h => ?_); subst h
            refine J.prE (fun h => ?_); subst h
            refine J.prE (fun h => ?_); subst h
            refine J.prE (fun h => ?_); subst h
            refine J.prE (fun h => ?_); subst h
            refine J.prE (fun h => ?_); subst h
            refine J.prE (fun h => ?_); subst h
            refine J.prE (fun h => ?_); subst h
            refine J.prE (fun h => ?_); subst h
            refine J.prE (fun h => ?_); subst h
            refine J.prE (fun h => ?_); subst h
            refine J.prE (fun h => ?_); subst h
            refine J.prE (fun h => ?_); subst h
            refine J.nil ?_
            refine JX.thenN (hK22 _ _ ?_)
            first | refine JC.condF rfl ?_ | refine JC.cond rfl (fun h => by first | (exfalso; simp at h; omega) | (simp at h)) (fun _ => ?_)
            refine JC.skip ?_
            refine JX.blockN ?_
            refine JX.thenN (hK19 _ _ ?_)
            refine JC.region ?_
            (first | refine J.addN rfl rfl (by omega) (by omega) rfl ?_ | refine J.bin rfl rfl rfl rfl ?_)
            refine J.move rfl rfl ?_
            refine J.nil ?_
            refine JX.thenN ?_
            refine JX.again (j + 1) ?_ ?_ ?_
            · omega
            · exact ⟨rfl, rfl, rfl, rfl, rfl, rfl, rfl, trivial⟩
            · exact fun w1 hw => ⟨hltj, hw.drop (List.sublist_cons_self _ _)⟩
        · skip
          apply JC.drawL 26 [Eqv (.int .i64 ((k : Nat) : Int)), Eqv (.bool false), Eqv (.bool false), Eqv (.slice (some ⟨qi, 0, none⟩) L.length ci), Eqv (.int .i64 ((k : Nat) : Int)), Eqv (.pointer (some ⟨qi, 0 + ((k : Nat) : Int).toNat * 51, none⟩)), Eqv (.agg (cE xe).toArray), Eqv (.agg (cE xe).toArray), Eqv (.bool false), Eqv (.bool false), Eqv (.bool false), Eqv (.int .i64 ((j : Nat) : Int)), Eqv (.bool false), Eqv (.bool false), Eqv (undef), Eqv (undef), Eqv (undef), Eqv (undef), Eqv (undef), Eqv (undef), Eqv (undef), Eqv (undef), Eqv (undef), Eqv (undef), Eqv (.bool false), Eqv (.bool false)] Ty.mixed rfl rfl rfl (by kernel_rfl) rfl rfl (fun w w' hw hb => hw.step hb) ⟨fun _ _ _ h _ => h, fun _ _ _ h _ => h, fun _ _ _ h _ => h, fun _ _ _ h _ => h, fun _ _ _ h _ => h, fun _ _ _ h _ => h, fun _ _ _ h _ => h, fun _ _ _ h _ => h, fun _ _ _ h _ => h, fun _ _ _ h _ => h, fun _ _ _ h _ => h, fun _ _ _ h _ => h, fun _ _ _ h _ => h, fun _ _ _ h _ => h, fun _ _ _ h _ => h, fun _ _ _ h _ => h, fun _ _ _ h _ => h, fun _ _ _ h _ => h, fun _ _ _ h _ => h, fun _ _ _ h _ => h, fun _ _ _ h _ => h, fun _ _ _ h _ => h, fun _ _ _ h _ => h, fun _ _ _ h _ => h, fun _ _ _ h _ => h, fun _ _ _ h _ => h, trivial⟩ ?hstep ?htail
          case hstep =>
            refine ⟨fun wi => ?_, fun wi => ?_, fun wi => ?_, fun wi => ?_, fun wi => ?_, fun wi => ?_, fun wi => ?_, fun wi => ?_, fun wi => ?_, fun wi => ?_, fun wi => ?_, fun wi => ?_, fun wi => ?_, fun wi => ?_, fun wi => ?_, fun wi => ?_, fun wi => ?_, fun wi => ?_, fun wi => ?_, fun wi => ?_, fun wi => ?_, fun wi => ?_, fun wi => ?_, fun wi => ?_, fun wi => ?_, fun wi => ?_, trivial⟩
            · skip
              refine Fin.nil ?_
              refine J.move rfl rfl ?_
              refine J.nil (JX.fin rfl (fun w hw => ⟨rfl, (by rw [hw.1]; exact Bel.refl _)⟩))
            · skip
              refine Fin.cons (fun v29_0 => ?_)
              refine Fin.nil ?_
              refine J.prE (fun h => ?_); subst h
              refine J.bin rfl rfl rfl rfl ?_
              refine J.name 109 rfl (show _ = Value.bool false by simp) ?_
              refine J.nil (JX.fin rfl (fun w hw => ⟨rfl, (by rw [hw.1]; exact Bel.refl _)⟩))
            · skip
              refine Fin.cons (fun v29_1 => ?_)
              refine Fin.nil ?_
              refine J.prE (fun h => ?_); subst h
              refine J.move rfl rfl ?_
              refine J.nil (JX.fin rfl (fun w hw => ⟨rfl, (by rw [hw.1]; exact Bel.refl _)⟩))
            · skip
              refine Fin.cons (fun v29_2 => ?_)
              refine Fin.nil ?_
              refine J.prE (fun h => ?_); subst h
              first
                | (refine J.skip rfl rfl rfl rfl rfl ?_)
                | (refine J.skipU rfl rfl rfl rfl ?_)
                | (refine J.unguard rfl rfl rfl ?_; refine J.move rfl rfl ?_)
              refine J.nil (JX.fin rfl (fun w hw => ⟨rfl, (by rw [hw.1]; exact Bel.refl _)⟩))
            · skip
              refine Fin.cons (fun v29_2 => ?_)
              refine Fin.nil ?_
              refine J.prE (fun h => ?_); subst h
              first
                | (refine J.skip rfl rfl rfl rfl rfl ?_)
                | (refine J.skipU rfl rfl rfl rfl ?_)
                | (refine J.unguard rfl rfl rfl ?_; refine J.move rfl rfl ?_)
              refine J.nil (JX.fin rfl (fun w hw => ⟨rfl, (by rw [hw.1]; exact Bel.refl _)⟩))
            · skip
              refine Fin.cons (fun v29_3 => ?_)
              refine Fin.cons (fun v29_4 => ?_)
              refine Fin.cons (fun v29_2 => ?_)
              refine Fin.nil ?_
              refine J.prE (fun h => ?_); subst h
              refine J.prE (fun h => ?_); subst h
              refine J.prE (fun h => ?_); subst h
              refine J.unguard rfl rfl rfl ?_
              refine J.indexAddrS Ty.el62 Ty.s34 rfl rfl (by omega) (by omega) rfl ?_
              refine J.nil (JX.fin rfl (fun w hw => ⟨rfl, (by rw [hw.1]; exact Bel.refl _)⟩))
            · skip
              refine Fin.cons (fun v29_5 => ?_)
              refine Fin.cons (fun v29_2 => ?_)
              refine Fin.nil ?_
              refine J.prE (fun h => ?_); subst h
              refine J.prE (fun h => ?_); subst h
              refine J.unguard rfl rfl rfl ?_
              refine J.loadA (vs := cE xe) Ty.a34 Ty.s34 rfl rfl (fun w1 hw => rowE_at (o := 0) (hvi.rowM hw.2 (fun q hq => by first | (simp [hq]; done) | (simp at hq; simp [hq]; done) | (simp at hq; subst hq; simp))) hk (by omega)) rfl ?_
              refine J.nil (JX.fin rfl (fun w hw => ⟨rfl, (by rw [hw.1]; exact Bel.refl _)⟩))
            · skip
              refine Fin.cons (fun v29_2 => ?_)
              refine Fin.nil ?_
              refine J.prE (fun h => ?_); subst h
              refine J.unguard rfl rfl rfl ?_
              refine J.loadA (vs := cE xe) Ty.a34 Ty.s34 rfl rfl (fun w1 hw => Cells.of_block (hw.2.own _ (.head _)) rfl) rfl ?_
              refine J.nil (JX.fin rfl (fun w hw => ⟨rfl, (by rw [hw.1]; exact Bel.refl _)⟩))
            · skip
              refine Fin.cons (fun v29_6 => ?_)
              refine Fin.cons (fun v29_7 => ?_)
              refine Fin.cons (fun v29_2 => ?_)
              refine Fin.nil ?_
              refine J.prE (fun h => ?_); subst h
              refine J.prE (fun h => ?_); subst h
              refine J.prE (fun h => ?_); subst h
              refine J.unguard rfl rfl rfl ?_
              refine J.neE Ty.QE Ty.keyE rfl rfl hxo hxo rfl ?_
              refine J.name 116 rfl (show _ = Value.bool false by simp) ?_
              refine J.nil (JX.fin rfl (fun w hw => ⟨rfl, (by rw [hw.1]; exact Bel.refl _)⟩))
            · skip
              refine Fin.cons (fun v29_2 => ?_)
              refine Fin.cons (fun v29_8 => ?_)
              refine Fin.nil ?_
              refine J.prE (fun h => ?_); subst h
              refine J.prE (fun h => ?_); subst h
              (first | refine J.pickT rfl rfl rfl ?_ | refine J.pickF rfl rfl rfl ?_)
              refine J.nil (JX.fin rfl (fun w hw => ⟨rfl, (by rw [hw.1]; exact Bel.refl _)⟩))
            · skip
              refine Fin.cons (fun v29_9 => ?_)
              refine Fin.cons (fun v29_2 => ?_)
              refine Fin.nil ?_
              refine J.prE (fun h => ?_); subst h
              refine J.prE (fun h => ?_); subst h
              refine J.move rfl rfl ?_
              refine J.nil (JX.fin rfl (fun w hw => ⟨rfl, (by rw [hw.1]; exact Bel.refl _)⟩))
            · skip
              refine Fin.cons (fun v29_10 => ?_)
              refine Fin.nil ?_
              refine J.prE (fun h => ?_); subst h
              first
                | (refine J.skip rfl rfl rfl rfl rfl ?_)
                | (refine J.skipU rfl rfl rfl rfl ?_)
                | (refine J.unguard rfl rfl rfl ?_; refine J.move rfl rfl ?_)
              refine J.nil (JX.fin rfl (fun w hw => ⟨rfl, (by rw [hw.1]; exact Bel.refl _)⟩))
            · skip
              refine Fin.cons (fun v29_11 => ?_)
              refine Fin.cons (fun v29_10 => ?_)
              refine Fin.nil ?_
              refine J.prE (fun h => ?_); subst h
              refine J.prE (fun h => ?_); subst h
              refine J.unguard rfl rfl rfl ?_
              refine J.bin rfl rfl rfl rfl ?_
              refine J.name 120 rfl (show _ = Value.bool false by simp [hj0]) ?_
              refine J.nil (JX.fin rfl (fun w hw => ⟨rfl, (by rw [hw.1]; exact Bel.refl _)⟩))
            · skip
              refine Fin.cons (fun v29_12 => ?_)
              refine Fin.cons (fun v29_10 => ?_)
              refine Fin.cons (fun v29_10 => ?_)
              refine Fin.nil ?_
              refine J.prE (fun h => ?_); subst h
              refine J.prE (fun h => ?_); subst h
              refine J.prE (fun h => ?_); subst h
              first
                | (refine J.skip rfl rfl rfl rfl rfl ?_)
                | (refine J.skipU rfl rfl rfl rfl ?_)
                | (refine J.unguard rfl rfl rfl ?_; refine J.move rfl rfl ?_)
              refine J.nil (JX.fin rfl (fun w hw => ⟨rfl, (by rw [hw.1]; exact Bel.refl _)⟩))
            · skip
              refine Fin.cons (fun v29_13 => ?_)
              refine Fin.nil ?_
              refine J.prE (fun h => ?_); subst h
              first
                | (refine J.skip rfl rfl rfl rfl rfl ?_)
                | (refine J.skipU rfl rfl rfl rfl ?_)
                | (refine J.unguard rfl rfl rfl ?_; refine J.move rfl rfl ?_)
              refine J.nil (JX.fin rfl (fun w hw => ⟨rfl, (by rw [hw.1]; exact Bel.refl _)⟩))
            · skip
              refine Fin.cons (fun v29_13 => ?_)
              refine Fin.nil ?_
              refine J.prE (fun h => ?_); subst h
              first
                | (refine J.skip rfl rfl rfl rfl rfl ?_)
                | (refine J.skipU rfl rfl rfl rfl ?_)
                | (refine J.unguard rfl rfl rfl ?_; refine J.move rfl rfl ?_)
              refine J.nil (JX.fin rfl (fun w hw => ⟨rfl, (by rw [hw.1]; exact Bel.refl _)⟩))
            · skip
              refine Fin.cons (fun v29_15 => ?_)
              refine Fin.cons (fun v29_13 => ?_)
              refine Fin.nil ?_
              refine J.prE (fun h => ?_); subst h
              refine J.prE (fun h => ?_); subst h
              first
                | (refine J.skip rfl rfl rfl rfl rfl ?_)
                | (refine J.skipU rfl rfl rfl rfl ?_)
                | (refine J.unguard rfl rfl rfl ?_; (first | refine J.subN rfl rfl (by omega) (by omega) rfl ?_ | refine J.bin rfl rfl rfl rfl ?_))
              refine J.nil (JX.fin rfl (fun w hw => ⟨rfl, (by rw [hw.1]; exact Bel.refl _)⟩))
            · skip
              refine Fin.cons (fun v29_14 => ?_)
              refine Fin.cons (fun v29_16 => ?_)
              refine Fin.cons (fun v29_13 => ?_)
              refine Fin.nil ?_
              refine J.prE (fun h => ?_); subst h
              refine J.prE (fun h => ?_); subst h
              refine J.prE (fun h => ?_); subst h
              first
                | (refine J.skip rfl rfl rfl rfl rfl ?_)
                | (refine J.skipU rfl rfl rfl rfl ?_)
                | (refine J.unguard rfl rfl rfl ?_; refine J.indexAddrS Ty.el62 Ty.s34 rfl rfl (by omega) (by omega) rfl ?_)
              refine J.nil (JX.fin rfl (fun w hw => ⟨rfl, (by rw [hw.1]; exact Bel.refl _)⟩))
            · skip
              refine Fin.cons (fun v29_17 => ?_)
              refine Fin.cons (fun v29_13 => ?_)
              refine Fin.nil ?_
              refine J.prE (fun h => ?_); subst h
              refine J.prE (fun h => ?_); subst h
              first
                | (refine J.skip rfl rfl rfl rfl rfl ?_)
                | (refine J.skipU rfl rfl rfl rfl ?_)
                | (refine J.unguard rfl rfl rfl ?_; refine J.fieldAddr Ty.fd34_0 rfl rfl ?_)
              refine J.nil (JX.fin rfl (fun w hw => ⟨rfl, (by rw [hw.1]; exact Bel.refl _)⟩))
            · skip
              refine Fin.cons (fun v29_18 => ?_)
              refine Fin.cons (fun v29_13 => ?_)
              refine Fin.nil ?_
              refine J.prE (fun h => ?_); subst h
              refine J.prE (fun h => ?_); subst h
              first
                | (refine J.skip rfl rfl rfl rfl rfl ?_)
                | (refine J.skipU rfl rfl rfl rfl ?_)
                | (refine J.unguard rfl rfl rfl ?_; (first | refine J.loadOA Ty.a25 Ty.s25 rfl (.head _) rfl rfl rfl ?_ | refine J.loadOA Ty.a25 Ty.s25 rfl (.tail _ (.head _)) rfl rfl rfl ?_ | refine J.loadOA Ty.a25 Ty.s25 rfl (.tail _ (.tail _ (.head _))) rfl rfl rfl ?_ | refine J.loadOA Ty.a25 Ty.s25 rfl (.tail _ (.tail _ (.tail _ (.head _)))) rfl rfl rfl ?_ | refine J.loadOA Ty.a25 Ty.s25 rfl (.tail _ (.tail _ (.tail _ (.tail _ (.head _))))) rfl rfl rfl ?_ | refine J.loadOA Ty.a25 Ty.s25 rfl (.tail _ (.tail _ (.tail _ (.tail _ (.tail _ (.head _)))))) rfl rfl rfl ?_ | refine J.loadOA Ty.a25 Ty.s25 rfl (.tail _ (.tail _ (.tail _ (.tail _ (.tail _ (.tail _ (.head _))))))) rfl rfl rfl ?_ | refine J.loadOA Ty.a25 Ty.s25 rfl (.tail _ (.tail _ (.tail _ (.tail _ (.tail _ (.tail _ (.tail _ (.head _)))))))) rfl rfl rfl ?_ | refine J.loadOA Ty.a25 Ty.s25 rfl (.tail _ (.tail _ (.tail _ (.tail _ (.tail _ (.tail _ (.tail _ (.tail _ (.head _))))))))) rfl rfl rfl ?_ | refine J.loadOA Ty.a25 Ty.s25 rfl (.tail _ (.tail _ (.tail _ (.tail _ (.tail _ (.tail _ (.tail _ (.tail _ (.tail _ (.head _)))))))))) rfl rfl rfl ?_ | refine J.loadOA Ty.a25 Ty.s25 rfl (.tail _ (.tail _ (.tail _ (.tail _ (.tail _ (.tail _ (.tail _ (.tail _ (.tail _ (.tail _ (.head _))))))))))) rfl rfl rfl ?_ | refine J.loadOA Ty.a25 Ty.s25 rfl (.tail _ (.tail _ (.tail _ (.tail _ (.tail _ (.tail _ (.tail _ (.tail _ (.tail _ (.tail _ (.tail _ (.head _)))))))))))) rfl rfl rfl ?_ | refine J.loadOA Ty.a25 Ty.s25 rfl (List.mem_append_right _ (.head _)) rfl rfl rfl ?_ | refine J.loadOA Ty.a25 Ty.s25 rfl (List.mem_append_right _ (.tail _ (.head _))) rfl rfl rfl ?_ | refine J.loadOA Ty.a25 Ty.s25 rfl (List.mem_append_right _ (.tail _ (.tail _ (.head _)))) rfl rfl rfl ?_ | refine J.loadOA Ty.a25 Ty.s25 rfl (List.mem_append_right _ (.tail _ (.tail _ (.tail _ (.head _))))) rfl rfl rfl ?_ | refine J.loadOA Ty.a25 Ty.s25 rfl (List.mem_append_right _ (.tail _ (.tail _ (.tail _ (.tail _ (.head _)))))) rfl rfl rfl ?_ | refine J.loadOA Ty.a25 Ty.s25 rfl (List.mem_append_right _ (.tail _ (.tail _ (.tail _ (.tail _ (.tail _ (.head _))))))) rfl rfl rfl ?_ | refine J.loadOA Ty.a25 Ty.s25 rfl (List.mem_append_right _ (.tail _ (.tail _ (.tail _ (.tail _ (.tail _ (.tail _ (.head _)))))))) rfl rfl rfl ?_ | refine J.loadOA Ty.a25 Ty.s25 rfl (List.mem_append_right _ (.tail _ (.tail _ (.tail _ (.tail _ (.tail _ (.tail _ (.tail _ (.head _))))))))) rfl rfl rfl ?_ | refine J.loadOA Ty.a25 Ty.s25 rfl (List.mem_append_right _ (.tail _ (.tail _ (.tail _ (.tail _ (.tail _ (.tail _ (.tail _ (.tail _ (.head _)))))))))) rfl rfl rfl ?_ | refine J.loadOA Ty.a25 Ty.s25 rfl (List.mem_append_right _ (.tail _ (.tail _ (.tail _ (.tail _ (.tail _ (.tail _ (.tail _ (.tail _ (.tail _ (.head _))))))))))) rfl rfl rfl ?_ | refine J.loadOA Ty.a25 Ty.s25 rfl (List.mem_append_right _ (.tail _ (.tail _ (.tail _ (.tail _ (.tail _ (.tail _ (.tail _ (.tail _ (.tail _ (.tail _ (.head _)))))))))))) rfl rfl rfl ?_ | refine J.loadOA Ty.a25 Ty.s25 rfl (List.mem_append_right _ (.tail _ (.tail _ (.tail _ (.tail _ (.tail _ (.tail _ (.tail _ (.tail _ (.tail _ (.tail _ (.tail _ (.head _))))))))))))) rfl rfl rfl ?_))
              refine J.nil (JX.fin rfl (fun w hw => ⟨rfl, (by rw [hw.1]; exact Bel.refl _)⟩))
            · skip
              refine Fin.cons (fun v29_13 => ?_)
              refine Fin.nil ?_
              refine J.prE (fun h => ?_); subst h
              first
                | (refine J.skip rfl rfl rfl rfl rfl ?_)
                | (refine J.skipU rfl rfl rfl rfl ?_)
                | (refine J.unguard rfl rfl rfl ?_; refine J.fieldAddr Ty.fd34_0 rfl rfl ?_)
              refine J.nil (JX.fin rfl (fun w hw => ⟨rfl, (by rw [hw.1]; exact Bel.refl _)⟩))
            · skip
              refine Fin.cons (fun v29_20 => ?_)
              refine Fin.cons (fun v29_13 => ?_)
              refine Fin.nil ?_
              refine J.prE (fun h => ?_); subst h
              refine J.prE (fun h => ?_); subst h
              first
                | (refine J.skip rfl rfl rfl rfl rfl ?_)
                | (refine J.skipU rfl rfl rfl rfl ?_)
                | (refine J.unguard rfl rfl rfl ?_; (first | refine J.loadOA Ty.a25 Ty.s25 rfl (.head _) rfl rfl rfl ?_ | refine J.loadOA Ty.a25 Ty.s25 rfl (.tail _ (.head _)) rfl rfl rfl ?_ | refine J.loadOA Ty.a25 Ty.s25 rfl (.tail _ (.tail _ (.head _))) rfl rfl rfl ?_ | refine J.loadOA Ty.a25 Ty.s25 rfl (.tail _ (.tail _ (.tail _ (.head _)))) rfl rfl rfl ?_ | refine J.loadOA Ty.a25 Ty.s25 rfl (.tail _ (.tail _ (.tail _ (.tail _ (.head _))))) rfl rfl rfl ?_ | refine J.loadOA Ty.a25 Ty.s25 rfl (.tail _ (.tail _ (.tail _ (.tail _ (.tail _ (.head _)))))) rfl rfl rfl ?_ | refine J.loadOA Ty.a25 Ty.s25 rfl (.tail _ (.tail _ (.tail _ (.tail _ (.tail _ (.tail _ (.head _))))))) rfl rfl rfl ?_ | refine J.loadOA Ty.a25 Ty.s25 rfl (.tail _ (.tail _ (.tail _ (.tail _ (.tail _ (.tail _ (.tail _ (.head _)))))))) rfl rfl rfl ?_ | refine J.loadOA Ty.a25 Ty.s25 rfl (.tail _ (.tail _ (.tail _ (.tail _ (.tail _ (.tail _ (.tail _ (.tail _ (.head _))))))))) rfl rfl rfl ?_ | refine J.loadOA Ty.a25 Ty.s25 rfl (.tail _ (.tail _ (.tail _ (.tail _ (.tail _ (.tail _ (.tail _ (.tail _ (.tail _ (.head _)))))))))) rfl rfl rfl ?_ | refine J.loadOA Ty.a25 Ty.s25 rfl (.tail _ (.tail _ (.tail _ (.tail _ (.tail _ (.tail _ (.tail _ (.tail _ (.tail _ (.tail _ (.head _))))))))))) rfl rfl rfl ?_ | refine J.loadOA Ty.a25 Ty.s25 rfl (.tail _ (.tail _ (.tail _ (.tail _ (.tail _ (.tail _ (.tail _ (.tail _ (.tail _ (.tail _ (.tail _ (.head _)))))))))))) rfl rfl rfl ?_ | refine J.loadOA Ty.a25 Ty.s25 rfl (List.mem_append_right _ (.head _)) rfl rfl rfl ?_ | refine J.loadOA Ty.a25 Ty.s25 rfl (List.mem_append_right _ (.tail _ (.head _))) rfl rfl rfl ?_ | refine J.loadOA Ty.a25 Ty.s25 rfl (List.mem_append_right _ (.tail _ (.tail _ (.head _)))) rfl rfl rfl ?_ | refine J.loadOA Ty.a25 Ty.s25 rfl (List.mem_append_right _ (.tail _ (.tail _ (.tail _ (.head _))))) rfl rfl rfl ?_ | refine J.loadOA Ty.a25 Ty.s25 rfl (List.mem_append_right _ (.tail _ (.tail _ (.tail _ (.tail _ (.head _)))))) rfl rfl rfl ?_ | refine J.loadOA Ty.a25 Ty.s25 rfl (List.mem_append_right _ (.tail _ (.tail _ (.tail _ (.tail _ (.tail _ (.head _))))))) rfl rfl rfl ?_ | refine J.loadOA Ty.a25 Ty.s25 rfl (List.mem_append_right _ (.tail _ (.tail _ (.tail _ (.tail _ (.tail _ (.tail _ (.head _)))))))) rfl rfl rfl ?_ | refine J.loadOA Ty.a25 Ty.s25 rfl (List.mem_append_right _ (.tail _ (.tail _ (.tail _ (.tail _ (.tail _ (.tail _ (.tail _ (.head _))))))))) rfl rfl rfl ?_ | refine J.loadOA Ty.a25 Ty.s25 rfl (List.mem_append_right _ (.tail _ (.tail _ (.tail _ (.tail _ (.tail _ (.tail _ (.tail _ (.tail _ (.head _)))))))))) rfl rfl rfl ?_ | refine J.loadOA Ty.a25 Ty.s25 rfl (List.mem_append_right _ (.tail _ (.tail _ (.tail _ (.tail _ (.tail _ (.tail _ (.tail _ (.tail _ (.tail _ (.head _))))))))))) rfl rfl rfl ?_ | refine J.loadOA Ty.a25 Ty.s25 rfl (List.mem_append_right _ (.tail _ (.tail _ (.tail _ (.tail _ (.tail _ (.tail _ (.tail _ (.tail _ (.tail _ (.tail _ (.head _)))))))))))) rfl rfl rfl ?_ | refine J.loadOA Ty.a25 Ty.s25 rfl (List.mem_append_right _ (.tail _ (.tail _ (.tail _ (.tail _ (.tail _ (.tail _ (.tail _ (.tail _ (.tail _ (.tail _ (.tail _ (.head _))))))))))))) rfl rfl rfl ?_))
              refine J.nil (JX.fin rfl (fun w hw => ⟨rfl, (by rw [hw.1]; exact Bel.refl _)⟩))
            · skip
              refine Fin.cons (fun v29_19 => ?_)
              refine Fin.cons (fun v29_21 => ?_)
              refine Fin.cons (fun v29_13 => ?_)
              refine Fin.cons (fun v29_13 => ?_)
              refine Fin.nil ?_
              refine J.prE (fun h => ?_); subst h
              refine J.prE (fun h => ?_); subst h
              refine J.prE (fun h => ?_); subst h
              refine J.prE (fun h => ?_); subst h
              first
                | (refine J.skip rfl rfl rfl rfl rfl ?_)
                | (refine J.skipU rfl rfl rfl rfl ?_)
                | (refine J.unguard rfl rfl rfl ?_; fail)
              refine J.nil (JX.fin rfl (fun w hw => ⟨rfl, (by rw [hw.1]; exact Bel.refl _)⟩))
            · skip
              refine Fin.cons (fun v29_22 => ?_)
              refine Fin.cons (fun v29_13 => ?_)
              refine Fin.nil ?_
              refine J.prE (fun h => ?_); subst h
              refine J.prE (fun h => ?_); subst h
              first
                | (refine J.skip rfl rfl rfl rfl rfl ?_)
                | (refine J.skipU rfl rfl rfl rfl ?_)
                | (refine J.unguard rfl rfl rfl ?_; refine J.not rfl rfl ?_)
              refine J.nil (JX.fin rfl (fun w hw => ⟨rfl, (by rw [hw.1]; exact Bel.refl _)⟩))
            · skip
              refine Fin.cons (fun v29_13 => ?_)
              refine Fin.cons (fun v29_23 => ?_)
              refine Fin.cons (fun v29_10 => ?_)
              refine Fin.nil ?_
              refine J.prE (fun h => ?_); subst h
              refine J.prE (fun h => ?_); subst h
              refine J.prE (fun h => ?_); subst h
              first
                | (refine J.skip rfl rfl rfl rfl rfl ?_)
                | (refine J.skipU rfl rfl rfl rfl ?_)
                | (refine J.unguard rfl rfl rfl ?_; (first | refine J.pickT rfl rfl rfl ?_ | refine J.pickF rfl rfl rfl ?_))
              refine J.nil (JX.fin rfl (fun w hw => ⟨rfl, (by rw [hw.1]; exact Bel.refl _)⟩))
            · skip
              refine Fin.cons (fun v29_10 => ?_)
              refine Fin.cons (fun v29_24 => ?_)
              refine Fin.nil ?_
              refine J.prE (fun h => ?_); subst h
              refine J.prE (fun h => ?_); subst h
              (first | refine J.pickT rfl rfl rfl ?_ | refine J.pickF rfl rfl rfl ?_)
              refine J.nil (JX.fin rfl (fun w hw => ⟨rfl, (by rw [hw.1]; exact Bel.refl _)⟩))
          case htail =>
            refine Fin.cons (fun v29_0 => ?_)
            refine Fin.cons (fun v29_1 => ?_)
            refine Fin.cons (fun v29_2 => ?_)
            refine Fin.cons (fun v29_3 => ?_)
            refine Fin.cons (fun v29_4 => ?_)
            refine Fin.cons (fun v29_5 => ?_)
            refine Fin.cons (fun v29_6 => ?_)
            refine Fin.cons (fun v29_7 => ?_)
            refine Fin.cons (fun v29_8 => ?_)
            refine Fin.cons (fun v29_9 => ?_)
            refine Fin.cons (fun v29_10 => ?_)
            refine Fin.cons (fun v29_11 => ?_)
            refine Fin.cons (fun v29_12 => ?_)
            refine Fin.cons (fun v29_13 => ?_)
            refine Fin.cons (fun v29_14 => ?_)
            refine Fin.cons (fun v29_15 => ?_)
            refine Fin.cons (fun v29_16 => ?_)
            refine Fin.cons (fun v29_17 => ?_)
            refine Fin.cons (fun v29_18 => ?_)
            refine Fin.cons (fun v29_19 => ?_)
            refine Fin.cons (fun v29_20 => ?_)
            refine Fin.cons (fun v29_21 => ?_)
            refine Fin.cons (fun v29_22 => ?_)
            refine Fin.cons (fun v29_23 => ?_)
            refine Fin.cons (fun v29_24 => ?_)
            refine Fin.cons (fun v29_25 => ?_)
            refine Fin.nil ?_
            refine J.prE (fun h => ?_); subst h
            refine J.prE (fun h => ?_); subst h
            refine J.prE (fun h => ?_); subst h
            refine J.prE (fun h => ?_); subst h
            refine J.prE (fun h => ?_); subst h
            refine J.prE (fun h => ?_); subst h
            refine J.prE (fun h => ?_); subst h
            refine J.prE (fun h => ?_); subst h
            refine J.prE (fun h => ?_); subst h
            refine J.prE (fun h => ?_); subst h
            refine J.prE (fun h => ?_); subst h
            refine J.prE (fun h => ?_); subst h
            refine J.prE (fun h => ?_); subst h
            refine J.prE (fun h => ?_); subst h
            refine J.prE (fun h => ?_); subst h
            refine J.prE (fun h => ?_); subst h
            refine J.prE (fun h => ?_); subst h
            refine J.prE (fun h => ?_); subst h
            refine J.prE (fun h => ?_); subst h
            refine J.prE (fun h => ?_); subst h
            refine J.prE (fun h => ?_); subst h
            refine J.prE (fun h => ?_); subst h
            refine J.prE (fun h => ?_); subst h
            refine J.prE (fun h => ?_); subst h
            refine J.prE (fun h => ?_); subst h
            refine J.prE (fun h => ?_); subst h
            refine J.nil ?_
            refine JX.thenN (hK22 _ _ ?_)
            first | refine JC.condF rfl ?_ | refine JC.cond rfl (fun h => by first | (exfalso; simp at h; omega) | (simp at h)) (fun _ => ?_)
            refine JC.skip ?_
            refine JX.blockN ?_
            refine JX.thenN (hK19 _ _ ?_)
            refine JC.region ?_
            (first | refine J.addN rfl rfl (by omega) (by omega) rfl ?_ | refine J.bin rfl rfl rfl rfl ?_)
            refine J.move rfl rfl ?_
            refine J.nil ?_
            refine JX.thenN ?_
            refine JX.again (j + 1) ?_ ?_ ?_
            · omega
            · exact ⟨rfl, rfl, rfl, rfl, rfl, rfl, rfl, trivial⟩
            · exact fun w1 hw => ⟨hltj, hw.drop (List.sublist_cons_self _ _)⟩
      · skip
        have hge9 : j = (ordE L).length := by simp at h9; omega
        refine JC.exit ?_
        refine JX.thenE ?_
        refine JX.thenE ?_
        refine JX.blockE ?_
        refine JX.thenN (hK15 _ _ ?_)
        refine JC.seq (fun K23 hK23 => ?_)
        refine JC.region ?_
        refine J.move rfl rfl ?_
        refine J.lenS rfl Ty.u62 rfl rfl ?_
        refine J.move rfl rfl ?_
        refine J.lenS rfl Ty.u62 rfl rfl ?_
        refine J.bin rfl rfl rfl rfl ?_
        refine J.name 139 rfl (show _ = Value.bool true by rw [hol]; simp) ?_
        refine J.assign rfl rfl ?_
        refine J.nil ?_
        refine JX.thenN (hK23 _ _ ?_)
        refine JC.ret ?_
        refine JX.ret1 rfl rfl (fun w hw => ?_)
        exact ⟨rfl, (hw.drop (List.nil_sublist _)).below⟩
    · skip
      try simp only [decide_eq_true_eq, decide_eq_false_iff_not, beq_iff_eq, bne_iff_ne, bne_eq_false_iff_eq, ne_eq, beq_eq_false_iff_ne, Bool.not_eq_true, Bool.not_eq_false, Int.not_lt, Int.not_le] at h2
      refine JC.skip ?_
      refine JX.thenN (hK12 _ _ ?_)
      refine JC.seq (fun K24 hK24 => ?_)
      refine JC.seq (fun K25 hK25 => ?_)
      refine JC.region ?_
      refine J.fieldAddr Ty.fd76_0 rfl rfl ?_
      refine J.load1 (v := .int .i64 oo.k) Ty.a3 rfl (fun w1 hw => by rw [cell_of (hw.own _ (.head _))]; rfl) rfl ?_
      refine J.bin rfl rfl rfl rfl ?_
      refine J.nil ?_
      refine JX.thenN (hK25 _ _ ?_)
      refine JC.cond rfl (fun h3 => ?_) (fun h3 => ?_)
      · skip
        try simp only [decide_eq_true_eq, decide_eq_false_iff_not, beq_iff_eq, bne_iff_ne, bne_eq_false_iff_eq, ne_eq, beq_eq_false_iff_ne, Bool.not_eq_true, Bool.not_eq_false, Int.not_lt, Int.not_le] at h3
        refine JC.seq (fun K26 hK26 => ?_)
        refine JC.region ?_
        refine J.move rfl rfl ?_
        refine J.fieldAddr Ty.fd76_2 rfl rfl ?_
        refine J.fieldAddr Ty.fd34_0 rfl rfl ?_
        refine J.loadOA (vs := cP oo.x.p) Ty.a25 Ty.s25 rfl (.head _) rfl rfl rfl ?_
        refine J.perm ([(t1, tabO mo m1), (m1, .map es ck)] ++ ((b9, cb (cO oo) 76) :: li)) (by (refine perm_cnt (fun _ => ?_)); simp only [cntB_append, cntB_cons, cntB_nil, Nat.add_zero, Nat.zero_add]; try ac_rfl) ?_
        refine J.callS (α := Array MapEntry) (V := fun _ => .tuple #[.agg (cE ((tget (L) oo.x.p).getD zE)).toArray, .bool (tget (L) oo.x.p).isSome]) (Pr := fun y => Tab (delL (L) oo.x.p) y ck) (L := fun y => [(t1, tabO mo m1), (m1, .map y ck)]) (l1 := [(t1, tabO mo m1), (m1, .map es ck)]) Ty.bd35 rfl rfl (fun w1 hw => (remove_spec t1 m1 mo (L) es ck w1 hw.owns hT oo.x.p hoo.2.2.1).mono fun _ _ ⟨y, h1, h2, h3⟩ => ⟨y, h1, h2, h3⟩) (fun es4 hT4 => ?_)
        simp only [List.cons_append, List.nil_append]
        refine J.move rfl rfl ?_
        refine J.extract rfl rfl rfl ?_
        refine J.extract rfl rfl rfl ?_
        refine J.alloc Ty.zE_ rfl rfl (fun b10 => ?_)
        refine J.storeW (cs := cE zE) (vs := cE ((tget L oo.x.p).getD zE)) Ty.s34 rfl rfl rfl rfl rfl (one_cE _) .here ?_
        refine J.assign rfl rfl ?_
        refine J.nil ?_
        refine JX.thenN (hK26 _ _ ?_)
        refine JC.seq (fun K27 hK27 => ?_)
        have hgc : tget L oo.x.p = none ∨ ∃ ye, tget L oo.x.p = some ye := by
          cases tget L oo.x.p with
          | none => exact .inl rfl
          | some y => exact .inr ⟨y, rfl⟩
        rcases hgc with hg | ⟨ye, hg⟩
        · skip
          have hpl := place_none hg
          refine JC.region ?_
          refine J.move rfl rfl ?_
          refine J.fieldAddr Ty.fd76_2 rfl rfl ?_
          refine J.fieldAddr Ty.fd34_0 rfl rfl ?_
          refine J.loadOA (vs := cP oo.x.p) Ty.a25 Ty.s25 rfl (.tail _ (.tail _ (.tail _ (.head _)))) rfl rfl rfl ?_
          refine J.callB (v := .int .i64 (-1)) (fun w1 w2 hw hb => hw.step hb) Ty.bd36 rfl rfl (fun w1 hw => (by have h := placeE_spec _ L oo.x.p w1 (hvi.rowM hw (fun q hq => by first | (simp [hq]; done) | (simp at hq; simp [hq]; done) | (simp at hq; subst hq; simp))) hT.ok hoo.2.2.1 (by omega); rwa [hpl] at h)) ?_
          refine J.assign rfl rfl ?_
          refine J.nil ?_
          refine JX.thenN (hK27 _ _ ?_)
          refine JC.seq (fun K28 hK28 => ?_)
          refine JC.seq (fun K29 hK29 => ?_)
          refine JC.region ?_
          refine J.move rfl rfl ?_
          refine J.move rfl rfl ?_
          refine J.bin rfl rfl rfl rfl ?_
          refine J.eqBool (.inr rfl) Ty.u4 rfl rfl rfl ?_
          refine J.name 56 rfl (show _ = Value.bool false by rw [hg]; rfl) ?_
          refine J.nil ?_
          refine JX.thenN (hK29 _ _ ?_)
          first | refine JC.condF rfl ?_ | refine JC.cond rfl (fun h => by first | (exfalso; simp at h; omega) | (simp at h)) (fun _ => ?_)
          refine JC.skip ?_
          refine JX.thenN (hK28 _ _ ?_)
          refine JC.seq (fun K30 hK30 => ?_)
          refine JC.seq (fun K31 hK31 => ?_)
          refine JC.region ?_
          refine J.move rfl rfl ?_
          refine J.name 57 rfl (show _ = Value.bool false by rw [hg]; rfl) ?_
          refine J.nil ?_
          refine JX.thenN (hK31 _ _ ?_)
          first | refine JC.condF rfl ?_ | refine JC.cond rfl (fun h => by first | (exfalso; simp at h; omega) | (simp at h)) (fun _ => ?_)
          refine JC.skip ?_
          refine JX.thenN (hK30 _ _ ?_)
          refine JC.exit ?_
          refine JX.thenE ?_
          refine JX.blockE ?_
          refine JX.thenN (hK10 _ _ ?_)
          refine JC.region ?_
          (first | refine J.addN rfl rfl (by omega) (by omega) rfl ?_ | refine J.bin rfl rfl rfl rfl ?_)
          refine J.move rfl rfl ?_
          refine J.nil ?_
          refine JX.thenN ?_
          refine JX.again ((i + 1, delL L oo.x.p, es4, ck, .slice ai L.length ci, li) : Nat × List EV × Array MapEntry × Nat × Value × List (Nat × Obj)) ?_ ?_ ?_
          · simp only; omega
          · exact ⟨rfl, rfl, rfl, rfl, rfl, rfl, trivial⟩
          · exact fun w1 hw => ⟨⟨hlt, hT4, hgood.del _, (by rw [del_none hg]; exact hvi)⟩, hw.drop (.cons _ (.cons_cons _ (.cons_cons _ (.cons _ (List.Sublist.refl _)))))⟩
        · skip
          obtain ⟨k, hk, hpl, hyp⟩ := place_some hT.dist hg
          have hkl : k < L.length := (List.getElem?_eq_some_iff.1 hk).1
          have hdc := del_cut hT.dist hk
          rw [hyp] at hdc
          obtain ⟨qi, spi, rfl, hlie, hsi, hci3⟩ := hvi.pos (by omega)
          refine JC.region ?_
          refine J.move rfl rfl ?_
          refine J.fieldAddr Ty.fd76_2 rfl rfl ?_
          refine J.fieldAddr Ty.fd34_0 rfl rfl ?_
          refine J.loadOA (vs := cP oo.x.p) Ty.a25 Ty.s25 rfl (.tail _ (.tail _ (.tail _ (.head _)))) rfl rfl rfl ?_
          refine J.callB (v := .int .i64 ((k : Nat) : Int)) (fun w1 w2 hw hb => hw.step hb) Ty.bd36 rfl rfl (fun w1 hw => (by have h := placeE_spec _ L oo.x.p w1 (hvi.rowM hw (fun q hq => by first | (simp [hq]; done) | (simp at hq; simp [hq]; done) | (simp at hq; subst hq; simp))) hT.ok hoo.2.2.1 (by omega); rwa [hpl] at h)) ?_
          refine J.assign rfl rfl ?_
          refine J.nil ?_
          refine JX.thenN (hK27 _ _ ?_)
          refine JC.seq (fun K32 hK32 => ?_)
          refine JC.seq (fun K33 hK33 => ?_)
          refine JC.region ?_
          refine J.move rfl rfl ?_
          refine J.move rfl rfl ?_
          refine J.bin rfl rfl rfl rfl ?_
          refine J.eqBool (.inr rfl) Ty.u4 rfl rfl rfl ?_
          refine J.name 56 rfl (show _ = Value.bool false by rw [hg]; simp) ?_
          refine J.nil ?_
          refine JX.thenN (hK33 _ _ ?_)
          first | refine JC.condF rfl ?_ | refine JC.cond rfl (fun h => by first | (exfalso; simp at h; omega) | (simp at h)) (fun _ => ?_)
          refine JC.skip ?_
          refine JX.thenN (hK32 _ _ ?_)
          refine JC.seq (fun K34 hK34 => ?_)
          refine JC.seq (fun K35 hK35 => ?_)
          refine JC.region ?_
          refine J.move rfl rfl ?_
          refine J.name 57 rfl (show _ = Value.bool true by rw [hg]; rfl) ?_
          refine J.nil ?_
          refine JX.thenN (hK35 _ _ ?_)
          first | refine JC.condT rfl ?_ | refine JC.cond rfl (fun _ => ?_) (fun h => by first | (exfalso; simp at h; omega) | (simp at h))
          refine JC.conseq (I' := St w [] ((t1, tabO mo m1) :: (m1, .map es4 ck) :: (b10, cb (cE ((tget L oo.x.p).getD zE)) 34) :: (b9, cb (cO oo) 76) :: li)) ?_ (fun w1 hw => hw.perm (by (refine perm_cnt (fun _ => ?_)); simp only [cntB_append, cntB_cons, cntB_nil, Nat.add_zero, Nat.zero_add]; try ac_rfl))
          apply JC.drawX (α := Value × List (Nat × Obj)) 9 (fun x => match x with | ⟨v66, l66⟩ => [.slice (some ⟨qi, 0, none⟩) L.length ci, .int .i64 ((k : Nat) : Int), .int .i64 ((k : Nat) : Int), .slice (some ⟨qi, 0, none⟩) k k, .slice (some ⟨qi, 0, none⟩) L.length ci, .int .i64 ((k : Nat) : Int), .int .i64 ((k + 1 : Nat) : Int), .slice (if ci = k + 1 then some ⟨qi, 0, none⟩ else (some ⟨qi, 0, none⟩ : Option Addr).map (·.add ((k + 1) * 51))) (L.length - (k + 1)) (ci - (k + 1)), v66]) (fun m x => match x with | ⟨v66, l66⟩ => fun w1 => (m 8 = true → VecW 34 51 v66 (delL L oo.x.p).length (fE (delL L oo.x.p)) l66) ∧ St w [] ((t1, tabO mo m1) :: (m1, .map es4 ck) :: (b10, cb (cE ((tget L oo.x.p).getD zE)) 34) :: (b9, cb (cO oo) 76) :: (bif m 8 then l66 else li)) w1) Ty.mixed rfl rfl rfl (by kernel_rfl) rfl rfl ?hinit ?hstep ?htail
          case hinit => exact fun w1 hw => ⟨(.slice none 0 0, []), fun h => (by cases h), hw.drew⟩
          case hstep =>
            refine ⟨fun m x hm hp => ?_, fun m x hm hp => ?_, fun m x hm hp => ?_, fun m x hm hp => ?_, fun m x hm hp => ?_, fun m x hm hp => ?_, fun m x hm hp => ?_, fun m x hm hp => ?_, fun m x hm hp => ?_, trivial⟩
            · skip
              obtain ⟨v66, l66⟩ := x
              show J _ _ _ _ _ (_) (fun w1 => (m 8 = true → VecW 34 51 v66 (delL L oo.x.p).length (fE (delL L oo.x.p)) l66) ∧ St w [] ((t1, tabO mo m1) :: (m1, .map es4 ck) :: (b10, cb (cE ((tget L oo.x.p).getD zE)) 34) :: (b9, cb (cO oo) 76) :: (bif m 8 then l66 else li)) w1)
              refine J.pr (fun hF => ?_)
              refine J.move rfl rfl ?_
              exact J.nil (JX.finB rfl (fun w1 hw => ⟨⟨⟨v66, l66⟩, rfl, fun _ _ _ => rfl, hF, hw⟩, trivial⟩))
            · skip
              obtain ⟨v66, l66⟩ := x
              show J _ _ _ _ _ (_) (fun w1 => (m 8 = true → VecW 34 51 v66 (delL L oo.x.p).length (fE (delL L oo.x.p)) l66) ∧ St w [] ((t1, tabO mo m1) :: (m1, .map es4 ck) :: (b10, cb (cE ((tget L oo.x.p).getD zE)) 34) :: (b9, cb (cO oo) 76) :: (bif m 8 then l66 else li)) w1)
              refine J.pr (fun hF => ?_)
              refine J.move rfl rfl ?_
              exact J.nil (JX.finB rfl (fun w1 hw => ⟨⟨⟨v66, l66⟩, rfl, fun _ _ _ => rfl, hF, hw⟩, trivial⟩))
            · skip
              obtain ⟨v66, l66⟩ := x
              show J _ _ _ _ _ (_) (fun w1 => (m 8 = true → VecW 34 51 v66 (delL L oo.x.p).length (fE (delL L oo.x.p)) l66) ∧ St w [] ((t1, tabO mo m1) :: (m1, .map es4 ck) :: (b10, cb (cE ((tget L oo.x.p).getD zE)) 34) :: (b9, cb (cO oo) 76) :: (bif m 8 then l66 else li)) w1)
              refine J.pr (fun hF => ?_)
              refine J.move rfl rfl ?_
              exact J.nil (JX.finB rfl (fun w1 hw => ⟨⟨⟨v66, l66⟩, rfl, fun _ _ _ => rfl, hF, hw⟩, trivial⟩))
            · skip
              obtain ⟨v66, l66⟩ := x
              show J _ _ _ _ _ ((60, .int .i64 ((k : Nat) : Int)) :: (59, .int .i64 ((k : Nat) : Int)) :: (58, .slice (some ⟨qi, 0, none⟩) L.length ci) :: _) (fun w1 => (m 8 = true → VecW 34 51 v66 (delL L oo.x.p).length (fE (delL L oo.x.p)) l66) ∧ St w [] ((t1, tabO mo m1) :: (m1, .map es4 ck) :: (b10, cb (cE ((tget L oo.x.p).getD zE)) 34) :: (b9, cb (cO oo) 76) :: (bif m 8 then l66 else li)) w1)
              refine J.pr (fun hF => ?_)
              refine J.slice3 (i := 0) (j := k) (m := k) Ty.el62 Ty.s34 rfl rfl rfl rfl rfl rfl rfl (by omega) (by omega) (by omega) rfl ?_
              refine J.name 61 rfl (show _ = Value.slice (some ⟨qi, 0, none⟩) k k by simp only [Nat.sub_zero]; congr 1; split <;> simp [Addr.add]) ?_
              exact J.nil (JX.finB rfl (fun w1 hw => ⟨⟨⟨v66, l66⟩, rfl, fun _ _ _ => rfl, hF, hw⟩, trivial⟩))
            · skip
              obtain ⟨v66, l66⟩ := x
              show J _ _ _ _ _ (_) (fun w1 => (m 8 = true → VecW 34 51 v66 (delL L oo.x.p).length (fE (delL L oo.x.p)) l66) ∧ St w [] ((t1, tabO mo m1) :: (m1, .map es4 ck) :: (b10, cb (cE ((tget L oo.x.p).getD zE)) 34) :: (b9, cb (cO oo) 76) :: (bif m 8 then l66 else li)) w1)
              refine J.pr (fun hF => ?_)
              refine J.move rfl rfl ?_
              exact J.nil (JX.finB rfl (fun w1 hw => ⟨⟨⟨v66, l66⟩, rfl, fun _ _ _ => rfl, hF, hw⟩, trivial⟩))
            · skip
              obtain ⟨v66, l66⟩ := x
              show J _ _ _ _ _ (_) (fun w1 => (m 8 = true → VecW 34 51 v66 (delL L oo.x.p).length (fE (delL L oo.x.p)) l66) ∧ St w [] ((t1, tabO mo m1) :: (m1, .map es4 ck) :: (b10, cb (cE ((tget L oo.x.p).getD zE)) 34) :: (b9, cb (cO oo) 76) :: (bif m 8 then l66 else li)) w1)
              refine J.pr (fun hF => ?_)
              refine J.move rfl rfl ?_
              exact J.nil (JX.finB rfl (fun w1 hw => ⟨⟨⟨v66, l66⟩, rfl, fun _ _ _ => rfl, hF, hw⟩, trivial⟩))
            · skip
              obtain ⟨v66, l66⟩ := x
              show J _ _ _ _ _ ((63, .int .i64 ((k : Nat) : Int)) :: _) (fun w1 => (m 8 = true → VecW 34 51 v66 (delL L oo.x.p).length (fE (delL L oo.x.p)) l66) ∧ St w [] ((t1, tabO mo m1) :: (m1, .map es4 ck) :: (b10, cb (cE ((tget L oo.x.p).getD zE)) 34) :: (b9, cb (cO oo) 76) :: (bif m 8 then l66 else li)) w1)
              refine J.pr (fun hF => ?_)
              refine J.addN rfl rfl (by omega) (by omega) rfl ?_
              exact J.nil (JX.finB rfl (fun w1 hw => ⟨⟨⟨v66, l66⟩, rfl, fun _ _ _ => rfl, hF, hw⟩, trivial⟩))
            · skip
              obtain ⟨v66, l66⟩ := x
              show J _ _ _ _ _ ((64, .int .i64 ((k + 1 : Nat) : Int)) :: (62, .slice (some ⟨qi, 0, none⟩) L.length ci) :: _) (fun w1 => (m 8 = true → VecW 34 51 v66 (delL L oo.x.p).length (fE (delL L oo.x.p)) l66) ∧ St w [] ((t1, tabO mo m1) :: (m1, .map es4 ck) :: (b10, cb (cE ((tget L oo.x.p).getD zE)) 34) :: (b9, cb (cO oo) 76) :: (bif m 8 then l66 else li)) w1)
              refine J.pr (fun hF => ?_)
              refine J.sliceS (i := k + 1) (j := L.length) Ty.el62 Ty.s34 rfl rfl rfl rfl rfl (by omega) (by omega) (by omega) rfl ?_
              exact J.nil (JX.finB rfl (fun w1 hw => ⟨⟨⟨v66, l66⟩, rfl, fun _ _ _ => rfl, hF, hw⟩, trivial⟩))
            · skip
              obtain ⟨v66, l66⟩ := x
              show J _ _ _ _ _ ((65, .slice (if ci = k + 1 then some ⟨qi, 0, none⟩ else (some ⟨qi, 0, none⟩ : Option Addr).map (·.add ((k + 1) * 51))) (L.length - (k + 1)) (ci - (k + 1))) :: (61, .slice (some ⟨qi, 0, none⟩) k k) :: _) (fun w1 => (m 8 = true → VecW 34 51 v66 (delL L oo.x.p).length (fE (delL L oo.x.p)) l66) ∧ St w [] ((t1, tabO mo m1) :: (m1, .map es4 ck) :: (b10, cb (cE ((tget L oo.x.p).getD zE)) 34) :: (b9, cb (cO oo) 76) :: (bif m 8 then l66 else li)) w1)
              refine J.pr (fun hF => ?_)
              refine J.conseq (I' := St w [] ((t1, tabO mo m1) :: (m1, .map es4 ck) :: (b10, cb (cE ((tget L oo.x.p).getD zE)) 34) :: (b9, cb (cO oo) 76) :: li)) ?_ (fun w1 hw => by simp only [hm, cond_false] at hw; exact hw)
              refine J.perm (li ++ ((t1, tabO mo m1) :: (m1, .map es4 ck) :: (b10, cb (cE ((tget L oo.x.p).getD zE)) 34) :: (b9, cb (cO oo) 76) :: [])) (by (refine perm_cnt (fun _ => ?_)); simp only [cntB_append, cntB_cons, cntB_nil, Nat.add_zero, Nat.zero_add]; try ac_rfl) ?_
              refine J.appendW (lp := li) (xs := fE (L.take k)) (ys := fE (L.drop (k + 1))) (k := k) (m := L.length - (k + 1)) Ty.el62 Ty.s34 Ty.b34 Ty.zE_ rfl (.inl ⟨34, Ty.u62⟩) rfl rfl (by have h := hvi.cut (j := k) (by omega); rw [fG_take cE_length] at h; exact h) (fun w3 hw3 => .inl (by
                have h := Row.slice (hvi.rowM hw3 (fun q hq => List.mem_append_left _ hq)) (sz := 51) (fE_length L) (show k + 1 ≤ L.length from hkl) (Nat.le_refl _)
                rw [List.take_of_length_le (by rw [List.length_drop, fE_length]; omega), fG_drop cE_length] at h
                exact h)) (by rw [fE_length, List.length_drop]) (fun y hy => fE_one hy) (by omega) (by omega) rfl (fun vn ln hvn => ?_)
              have hvn2 : VecW 34 51 vn (delL L oo.x.p).length (fE (delL L oo.x.p)) ln := by
                rw [hdc, fE_append, List.length_append, List.length_take, List.length_drop, Nat.min_eq_left (by omega)]
                exact hvn
              refine J.nil (JX.finB rfl (fun w1 hw => ⟨⟨⟨vn, ln⟩, rfl, fun j h1 h2 => ?_, ?_⟩, trivial⟩))
              · match j, h1 with
                | 0, _ => (first | rfl | trivial)
                | 1, _ => (first | rfl | trivial)
                | 2, _ => (first | rfl | trivial)
                | 3, _ => (first | rfl | trivial)
                | 4, _ => (first | rfl | trivial)
                | 5, _ => (first | rfl | trivial)
                | 6, _ => (first | rfl | trivial)
                | 7, _ => (first | rfl | trivial)
                | 8, _ => exact absurd (h2.symm.trans hm) (by decide)
                | j + 9, h1 => omega
              show (true = true → VecW 34 51 vn (delL L oo.x.p).length (fE (delL L oo.x.p)) ln) ∧ St w [] ((t1, tabO mo m1) :: (m1, .map es4 ck) :: (b10, cb (cE ((tget L oo.x.p).getD zE)) 34) :: (b9, cb (cO oo) 76) :: (bif true then ln else li)) w1
              simp only [hm, cond_true, cond_false] at hw ⊢
              exact ⟨fun _ => hvn2, hw.perm (by (refine perm_cnt (fun _ => ?_)); simp only [cntB_append, cntB_cons, cntB_nil, Nat.add_zero, Nat.zero_add]; try ac_rfl)⟩
          case htail =>
            intro x
            obtain ⟨v66, l66⟩ := x
            show J _ _ _ _ _ ((66, v66) :: (65, .slice (if ci = k + 1 then some ⟨qi, 0, none⟩ else (some ⟨qi, 0, none⟩ : Option Addr).map (·.add ((k + 1) * 51))) (L.length - (k + 1)) (ci - (k + 1))) :: (64, .int .i64 ((k + 1 : Nat) : Int)) :: (63, .int .i64 ((k : Nat) : Int)) :: (62, .slice (some ⟨qi, 0, none⟩) L.length ci) :: (61, .slice (some ⟨qi, 0, none⟩) k k) :: (60, .int .i64 ((k : Nat) : Int)) :: (59, .int .i64 ((k : Nat) : Int)) :: (58, .slice (some ⟨qi, 0, none⟩) L.length ci) :: _) (fun w1 => (true = true → VecW 34 51 v66 (delL L oo.x.p).length (fE (delL L oo.x.p)) l66) ∧ St w [] ((t1, tabO mo m1) :: (m1, .map es4 ck) :: (b10, cb (cE ((tget L oo.x.p).getD zE)) 34) :: (b9, cb (cO oo) 76) :: (bif true then l66 else li)) w1)
            refine J.pr (fun hF => ?_)
            refine J.conseq (I' := St w [] ((t1, tabO mo m1) :: (m1, .map es4 ck) :: (b10, cb (cE ((tget L oo.x.p).getD zE)) 34) :: (b9, cb (cO oo) 76) :: l66)) ?_ (fun w1 hw => by simp only [cond_true] at hw; exact hw)
            refine J.conseq (I' := St w [] ((t1, tabO mo m1) :: (m1, .map es4 ck) :: (b10, cb (cE ((tget L oo.x.p).getD zE)) 34) :: (b9, cb (cO oo) 76) :: l66)) ?_ (fun w1 hw => hw)
            refine J.assign rfl rfl ?_
            refine J.nil ?_
            refine JX.thenN (hK34 _ _ ?_)
            refine JC.exit ?_
            refine JX.thenE ?_
            refine JX.blockE ?_
            refine JX.thenN (hK10 _ _ ?_)
            refine JC.region ?_
            (first | refine J.addN rfl rfl (by omega) (by omega) rfl ?_ | refine J.bin rfl rfl rfl rfl ?_)
            refine J.move rfl rfl ?_
            refine J.nil ?_
            refine JX.thenN ?_
            refine JX.again ((i + 1, delL L oo.x.p, es4, ck, v66, l66) : Nat × List EV × Array MapEntry × Nat × Value × List (Nat × Obj)) ?_ ?_ ?_
            · simp only; omega
            · exact ⟨rfl, rfl, rfl, rfl, rfl, rfl, trivial⟩
            · exact fun w1 hw => ⟨⟨hlt, hT4, hgood.del _, (hF rfl)⟩, hw.drop (.cons_cons _ (.cons_cons _ (.cons _ (.cons _ (List.Sublist.refl _)))))⟩
      · skip
        try simp only [decide_eq_true_eq, decide_eq_false_iff_not, beq_iff_eq, bne_iff_ne, bne_eq_false_iff_eq, ne_eq, beq_eq_false_iff_ne, Bool.not_eq_true, Bool.not_eq_false, Int.not_lt, Int.not_le] at h3
        refine JC.skip ?_
        refine JX.thenN (hK24 _ _ ?_)
        refine JC.seq (fun K36 hK36 => ?_)
        refine JC.seq (fun K37 hK37 => ?_)
        refine JC.region ?_
        refine J.move rfl rfl ?_
        refine J.fieldAddr Ty.fd76_2 rfl rfl ?_
        refine J.loadOA (vs := cE oo.x) Ty.a34 Ty.s34 rfl (.head _) rfl rfl rfl ?_
        refine J.perm ([(t1, tabO mo m1), (m1, .map es ck)] ++ ((b9, cb (cO oo) 76) :: li)) (by (refine perm_cnt (fun _ => ?_)); simp only [cntB_append, cntB_cons, cntB_nil, Nat.add_zero, Nat.zero_add]; try ac_rfl) ?_
        refine J.callS (α := Array MapEntry × Nat) (V := fun _ => .int .i64 (tadd (L) mo oo.x).1) (Pr := fun y => Tab (tadd (L) mo oo.x).2 y.1 y.2) (L := fun y => [(t1, tabO mo m1), (m1, .map y.1 y.2)]) (l1 := [(t1, tabO mo m1), (m1, .map es ck)]) Ty.bd17 rfl rfl (fun w1 hw => (add_spec t1 m1 mo (L) es ck w1 hw.owns hT oo.x hoo.2.2).mono fun _ _ ⟨y, h1, h2, h3⟩ => ⟨y, h1, h2, h3⟩) (fun y hT3 => ?_)
        obtain ⟨es3, ck3⟩ := y
        simp only [List.cons_append, List.nil_append] at hT3 ⊢
        refine J.bin rfl rfl rfl rfl ?_
        refine J.nil ?_
        refine JX.thenN (hK37 _ _ ?_)
        refine JC.cond rfl (fun h6 => ?_) (fun h6 => ?_)
        · skip
          have hcd0 : (tadd L mo oo.x).1 = 0 := by simpa using h6
          obtain ⟨hta, htb, htr, hno, htl⟩ : (tadd L mo oo.x).1 = 0 ∧ (tadd L mo oo.x).2 = L ++ [oo.x] ∧ rightP oo.x ∧ tget L oo.x.p = none ∧ (L.length : Int) < mo := by
            rcases hcs with h | ⟨h, _⟩
            · exact h
            · exact absurd hcd0 h
          have hpl := place_none hno
          have hlen2 : (tadd L mo oo.x).2.length = L.length + 1 := by rw [htb]; simp
          have hgl2 := (hgood.add oo.x).len
          refine JC.seq (fun K38 hK38 => ?_)
          refine JC.seq (fun K39 hK39 => ?_)
          refine JC.region ?_
          refine J.move rfl rfl ?_
          refine J.fieldAddr Ty.fd76_2 rfl rfl ?_
          refine J.fieldAddr Ty.fd34_0 rfl rfl ?_
          refine J.loadOA (vs := cP oo.x.p) Ty.a25 Ty.s25 rfl (.tail _ (.tail _ (.head _))) rfl rfl rfl ?_
          refine J.callB (v := .int .i64 (-1)) (fun w1 w2 hw hb => hw.step hb) Ty.bd36 rfl rfl (fun w1 hw => (by have h := placeE_spec _ L oo.x.p w1 (hvi.rowM hw (fun q hq => by first | (simp [hq]; done) | (simp at hq; simp [hq]; done) | (simp at hq; subst hq; simp))) hT.ok hoo.2.2.1 (by omega); rwa [hpl] at h)) ?_
          refine J.bin rfl rfl rfl rfl ?_
          refine J.nil ?_
          refine JX.thenN (hK39 _ _ ?_)
          first | refine JC.condF rfl ?_ | refine JC.cond rfl (fun h => by first | (exfalso; simp at h; omega) | (simp at h)) (fun _ => ?_)
          refine JC.skip ?_
          refine JX.thenN (hK38 _ _ ?_)
          refine JC.region ?_
          refine J.move rfl rfl ?_
          refine J.fieldAddr Ty.fd76_2 rfl rfl ?_
          refine J.loadOA (vs := cE oo.x) Ty.a34 Ty.s34 rfl (.tail _ (.tail _ (.head _))) rfl rfl rfl ?_
          refine J.buildSl (cs := cE oo.x) Ty.el62 Ty.s34 Ty.zE_ rfl rfl rfl rfl (by kernel_rfl) rfl rfl (fun b81 => ?_)
          refine J.perm (li ++ ((b81, cb (cE oo.x) 34) :: (t1, tabO mo m1) :: (m1, .map es3 ck3) :: (b9, cb (cO oo) 76) :: [])) (by (refine perm_cnt (fun _ => ?_)); simp only [cntB_append, cntB_cons, cntB_nil, Nat.add_zero, Nat.zero_add]; try ac_rfl) ?_
          refine J.appendW (lp := li) (xs := fE L) (ys := cE oo.x) (k := L.length) (m := 1) Ty.el62 Ty.s34 Ty.b34 Ty.zE_ rfl (.inl ⟨34, Ty.u62⟩) rfl rfl hvi (fun w3 hw3 => .inl (Row.own hw3 (List.mem_append_right _ (.head _)) rfl (Nat.le_refl _))) rfl (one_cE oo.x) (by omega) (by omega) rfl (fun vn ln hvn => ?_)
          obtain ⟨an, cn, rfl, hcn⟩ := hvn.form
          refine J.perm ((t1, tabO mo m1) :: (m1, .map es3 ck3) :: (b9, cb (cO oo) 76) :: (b81, cb (cE oo.x) 34) :: ln) (by (refine perm_cnt (fun _ => ?_)); simp only [cntB_append, cntB_cons, cntB_nil, Nat.add_zero, Nat.zero_add]; try ac_rfl) ?_
          refine J.assign rfl rfl ?_
          refine J.nil ?_
          refine JX.thenN (hK36 _ _ ?_)
          refine JC.seq (fun K40 hK40 => ?_)
          refine JC.region ?_
          refine J.move rfl rfl ?_
          refine J.callB (v := .int .i64 (((tadd L mo oo.x).2.length : Nat) : Int)) (fun w1 w2 hw hb => hw.step hb) Ty.bd20 rfl rfl (fun w1 hw => len_spec t1 m1 mo (tadd L mo oo.x).2 es3 ck3 w1 (St.owns (l1 := [(t1, tabO mo m1), (m1, .map es3 ck3)]) (hw.perm (l' := (t1, tabO mo m1) :: (m1, .map es3 ck3) :: (b9, cb (cO oo) 76) :: (b81, cb (cE oo.x) 34) :: ln) (by (refine perm_cnt (fun _ => ?_)); simp only [cntB_append, cntB_cons, cntB_nil, Nat.add_zero, Nat.zero_add]; try ac_rfl))) hT3) ?_
          refine J.move rfl rfl ?_
          refine J.lenS rfl Ty.u62 rfl rfl ?_
          refine J.bin rfl rfl rfl rfl ?_
          refine J.name 87 rfl (show _ = Value.bool false by rw [hlen2]; simp) ?_
          refine J.move rfl rfl ?_
          first
            | (refine J.skip rfl rfl rfl rfl rfl ?_)
            | (refine J.skipU rfl rfl rfl rfl ?_)
            | (refine J.unguard rfl rfl rfl ?_; refine J.move rfl rfl ?_)
          first
            | (refine J.skip rfl rfl rfl rfl rfl ?_)
            | (refine J.skipU rfl rfl rfl rfl ?_)
            | (refine J.unguard rfl rfl rfl ?_; refine J.lenS rfl Ty.u62 rfl rfl ?_)
          first
            | (refine J.skip rfl rfl rfl rfl rfl ?_)
            | (refine J.skipU rfl rfl rfl rfl ?_)
            | (refine J.unguard rfl rfl rfl ?_; refine J.move rfl rfl ?_)
          first
            | (refine J.skip rfl rfl rfl rfl rfl ?_)
            | (refine J.skipU rfl rfl rfl rfl ?_)
            | (refine J.unguard rfl rfl rfl ?_; refine J.bin rfl rfl rfl rfl ?_; refine J.name 92 rfl (show _ = Value.bool false by simp; omega) ?_)
          (first | refine J.pickT rfl rfl rfl ?_ | refine J.pickF rfl rfl rfl ?_)
          refine J.nil ?_
          refine JX.thenN (hK40 _ _ ?_)
          first | refine JC.condF rfl ?_ | refine JC.cond rfl (fun h => by first | (exfalso; simp at h; omega) | (simp at h)) (fun _ => ?_)
          refine JC.skip ?_
          refine JX.blockN ?_
          refine JX.thenN (hK10 _ _ ?_)
          refine JC.region ?_
          (first | refine J.addN rfl rfl (by omega) (by omega) rfl ?_ | refine J.bin rfl rfl rfl rfl ?_)
          refine J.move rfl rfl ?_
          refine J.nil ?_
          refine JX.thenN ?_
          refine JX.again ((i + 1, (tadd L mo oo.x).2, es3, ck3, .slice an (L.length + 1) cn, ln) : Nat × List EV × Array MapEntry × Nat × Value × List (Nat × Obj)) ?_ ?_ ?_
          · simp only; omega
          · exact ⟨rfl, rfl, rfl, rfl, rfl, rfl, trivial⟩
          · exact fun w1 hw => ⟨⟨hlt, hT3, hgood.add _, (by rw [htb, List.length_append, fE_append]; simpa [fE] using hvn)⟩, hw.drop (.cons_cons _ (.cons_cons _ (.cons _ (.cons _ (List.Sublist.refl _)))))⟩
        · skip
          have hcd0 : ¬ (tadd L mo oo.x).1 = 0 := by simpa using h6
          have htb : (tadd L mo oo.x).2 = L := by
            rcases hcs with ⟨h, _⟩ | ⟨_, h, _⟩
            · exact absurd h hcd0
            · exact h
          have hlen2 : (tadd L mo oo.x).2.length = L.length := by rw [htb]
          have hgl2 := (hgood.add oo.x).len
          refine JC.skip ?_
          refine JX.thenN (hK36 _ _ ?_)
          refine JC.seq (fun K41 hK41 => ?_)
          refine JC.region ?_
          refine J.move rfl rfl ?_
          refine J.callB (v := .int .i64 (((tadd L mo oo.x).2.length : Nat) : Int)) (fun w1 w2 hw hb => hw.step hb) Ty.bd20 rfl rfl (fun w1 hw => len_spec t1 m1 mo (tadd L mo oo.x).2 es3 ck3 w1 (St.owns (l1 := [(t1, tabO mo m1), (m1, .map es3 ck3)]) (hw.perm (l' := (t1, tabO mo m1) :: (m1, .map es3 ck3) :: (b9, cb (cO oo) 76) :: li) (by (refine perm_cnt (fun _ => ?_)); simp only [cntB_append, cntB_cons, cntB_nil, Nat.add_zero, Nat.zero_add]; try ac_rfl))) hT3) ?_
          refine J.move rfl rfl ?_
          refine J.lenS rfl Ty.u62 rfl rfl ?_
          refine J.bin rfl rfl rfl rfl ?_
          refine J.name 87 rfl (show _ = Value.bool false by rw [hlen2]; simp) ?_
          refine J.move rfl rfl ?_
          first
            | (refine J.skip rfl rfl rfl rfl rfl ?_)
            | (refine J.skipU rfl rfl rfl rfl ?_)
            | (refine J.unguard rfl rfl rfl ?_; refine J.move rfl rfl ?_)
          first
            | (refine J.skip rfl rfl rfl rfl rfl ?_)
            | (refine J.skipU rfl rfl rfl rfl ?_)
            | (refine J.unguard rfl rfl rfl ?_; refine J.lenS rfl Ty.u62 rfl rfl ?_)
          first
            | (refine J.skip rfl rfl rfl rfl rfl ?_)
            | (refine J.skipU rfl rfl rfl rfl ?_)
            | (refine J.unguard rfl rfl rfl ?_; refine J.move rfl rfl ?_)
          first
            | (refine J.skip rfl rfl rfl rfl rfl ?_)
            | (refine J.skipU rfl rfl rfl rfl ?_)
            | (refine J.unguard rfl rfl rfl ?_; refine J.bin rfl rfl rfl rfl ?_; refine J.name 92 rfl (show _ = Value.bool false by simp; omega) ?_)
          (first | refine J.pickT rfl rfl rfl ?_ | refine J.pickF rfl rfl rfl ?_)
          refine J.nil ?_
          refine JX.thenN (hK41 _ _ ?_)
          first | refine JC.condF rfl ?_ | refine JC.cond rfl (fun h => by first | (exfalso; simp at h; omega) | (simp at h)) (fun _ => ?_)
          refine JC.skip ?_
          refine JX.blockN ?_
          refine JX.thenN (hK10 _ _ ?_)
          refine JC.region ?_
          (first | refine J.addN rfl rfl (by omega) (by omega) rfl ?_ | refine J.bin rfl rfl rfl rfl ?_)
          refine J.move rfl rfl ?_
          refine J.nil ?_
          refine JX.thenN ?_
          refine JX.again ((i + 1, (tadd L mo oo.x).2, es3, ck3, .slice ai L.length ci, li) : Nat × List EV × Array MapEntry × Nat × Value × List (Nat × Obj)) ?_ ?_ ?_
          · simp only; omega
          · exact ⟨rfl, rfl, rfl, rfl, rfl, rfl, trivial⟩
          · exact fun w1 hw => ⟨⟨hlt, hT3, hgood.add _, (by rw [htb]; exact hvi)⟩, hw.drop (.cons_cons _ (.cons_cons _ (.cons _ (List.Sublist.refl _))))⟩
  · skip
    try simp only [decide_eq_true_eq, decide_eq_false_iff_not, beq_iff_eq, bne_iff_ne, bne_eq_false_iff_eq, ne_eq, beq_eq_false_iff_ne, Bool.not_eq_true, Bool.not_eq_false, Int.not_lt, Int.not_le] at h1
    refine JC.exit ?_
    refine JX.thenE ?_
    refine JX.thenE ?_
    refine JX.blockE ?_
    refine JX.thenN (hK6 _ _ ?_)
    refine JC.seq (fun K42 hK42 => ?_)
    refine JC.region ?_
    refine J.move rfl rfl ?_
    have hvi2 := hvi
    refine J.perm ([] ++ ((t1, tabO mo m1) :: (m1, .map es ck) :: li)) (.refl _) ?_
    refine J.callS (α := Value × List (Nat × Obj)) (V := (·.1)) (Pr := fun x => Vec 34 51 x.1 ((ordE L)).length (fE ((ordE L))) x.2) (L := (·.2)) (l1 := []) Ty.bd25 rfl rfl (fun w1 hw => all_spec t1 m1 mo (L) es ck w1 (hw.own _ (.head _)) (hw.own _ (.tail _ (.head _))) hT (by omega)) (fun x hvz => ?_)
    obtain ⟨vz, lz⟩ := x
    simp only at hvz ⊢
    obtain ⟨az, cz, rfl, hcz⟩ := hvz.form
    refine J.assign rfl rfl ?_
    refine J.nil ?_
    refine JX.thenN (hK42 _ _ ?_)
    refine JC.seq (fun K43 hK43 => ?_)
    refine JC.seq (fun K44 hK44 => ?_)
    refine JC.region ?_
    refine J.move rfl rfl ?_
    refine J.lenS rfl Ty.u62 rfl rfl ?_
    refine J.move rfl rfl ?_
    refine J.nil ?_
    refine JX.thenN (hK44 _ _ ?_)
    refine JC.block ?_
    refine JC.conseq (JC.cov (f := (fun j => [(5, .pointer (some ⟨t1, 0, none⟩)), (6, .int .i64 mo), (7, .slice ai L.length ci), (13, .slice az (ordE L).length cz), (97, .slice az (ordE L).length cz), (98, .int .i64 (((ordE L).length : Nat) : Int)), (99, .int .i64 ((j : Nat) : Int))]) 0) ⟨rfl, rfl, rfl, rfl, rfl, rfl, rfl, trivial⟩ (JC.loop (α := Nat) (fun j => [(5, .pointer (some ⟨t1, 0, none⟩)), (6, .int .i64 mo), (7, .slice ai L.length ci), (13, .slice az (ordE L).length cz), (97, .slice az (ordE L).length cz), (98, .int .i64 (((ordE L).length : Nat) : Int)), (99, .int .i64 ((j : Nat) : Int))]) (fun j w' => (j ≤ (ordE L).length) ∧ St w [] ((t1, tabO mo m1) :: (m1, .map es ck) :: (lz ++ li)) w') (fun j => (ordE L).length - j) 0 (fun j => ?_))) (fun w hw => ⟨Nat.zero_le _, hw.perm (by (refine perm_cnt (fun _ => ?_)); simp only [cntB_append, cntB_cons, cntB_nil, Nat.add_zero, Nat.zero_add]; try ac_rfl)⟩)
    refine JC.pr (fun hj => ?_)
    refine JC.seq (fun K45 hK45 => ?_)
    refine JC.region ?_
    refine J.bin rfl rfl rfl rfl ?_
    refine J.nil ?_
    refine JX.thenN (hK45 _ _ ?_)
    refine JC.seq (fun K46 hK46 => ?_)
    refine JC.cond rfl (fun h9 => ?_) (fun h9 => ?_)
    · skip
      have hltj : j < (ordE L).length := by simp at h9; omega
      obtain ⟨qz, spz, rfl, rfl, hsz, hcz3⟩ := vec_pos hvz (by omega)
      obtain ⟨qi, spi, rfl, rfl, hsi, hci3⟩ := hvi.pos (by omega)
      obtain ⟨xe, hxe⟩ : ∃ y, (ordE L)[j]? = some y := ⟨_, List.getElem?_eq_getElem hltj⟩
      have hxm := List.mem_of_getElem? hxe
      have hxo := ordE_ok hT xe hxm
      obtain ⟨k, hk, hpl, _⟩ := place_some hT.dist (tget_some hT.dist ((ordE_perm L).mem_iff.1 hxm))
      have hkl : k < L.length := (List.getElem?_eq_some_iff.1 hk).1
      refine JC.skip ?_
      refine JX.thenN (hK46 _ _ ?_)
      refine JC.seq (fun K47 hK47 => ?_)
      refine JC.block ?_
      refine JC.seq (fun K48 hK48 => ?_)
      refine JC.region ?_
      refine J.move rfl rfl ?_
      refine J.indexAddrS Ty.el62 Ty.s34 rfl rfl (by omega) (by omega) rfl ?_
      refine J.loadA (vs := cE xe) Ty.a34 Ty.s34 rfl rfl (fun w1 hw => rowE_at (o := 0) (vec_rowM hvz hw (fun q hq => by first | (simp [hq]; done) | (simp at hq; simp [hq]; done) | (simp at hq; subst hq; simp))) hxe (by omega)) rfl ?_
      refine J.alloc Ty.zE_ rfl rfl (fun b15 => ?_)
      refine J.assign rfl rfl ?_
      refine J.storeW (cs := cE zE) (vs := cE xe) Ty.s34 rfl rfl rfl rfl rfl (one_cE _) .here ?_
      refine J.nil ?_
      refine JX.thenN (hK48 _ _ ?_)
      refine JC.seq (fun K49 hK49 => ?_)
      refine JC.region ?_
      refine J.move rfl rfl ?_
      refine J.fieldAddr Ty.fd34_0 rfl rfl ?_
      refine J.loadOA (vs := cP xe.p) Ty.a25 Ty.s25 rfl (.head _) rfl rfl rfl ?_
      refine J.callB (v := .int .i64 ((k : Nat) : Int)) (fun w1 w2 hw hb => hw.step hb) Ty.bd36 rfl rfl (fun w1 hw => (by have h := placeE_spec _ L xe.p w1 (hvi.rowM hw (fun q hq => by first | (simp [hq]; done) | (simp at hq; simp [hq]; done) | (simp at hq; subst hq; simp))) hT.ok hxo.1 (by omega); rwa [hpl] at h)) ?_
      refine J.assign rfl rfl ?_
      refine J.nil ?_
      refine JX.thenN (hK49 _ _ ?_)
      refine JC.seq (fun K50 hK50 => ?_)
      by_cases hj0 : 0 < j
      · skip
        obtain ⟨yp, hyp⟩ : ∃ y, (ordE L)[j - 1]? = some y := ⟨_, List.getElem?_eq_getElem (by omega)⟩
        have hles := ord_less hT hyp (by rw [show j - 1 + 1 = j by omega]; exact hxe)
        apply JC.drawL 26 [Eqv (.int .i64 ((k : Nat) : Int)), Eqv (.bool false), Eqv (.bool false), Eqv (.slice (some ⟨qi, 0, none⟩) L.length ci), Eqv (.int .i64 ((k : Nat) : Int)), Eqv (.pointer (some ⟨qi, 0 + ((k : Nat) : Int).toNat * 51, none⟩)), Eqv (.agg (cE xe).toArray), Eqv (.agg (cE xe).toArray), Eqv (.bool false), Eqv (.bool false), Eqv (.bool false), Eqv (.int .i64 ((j : Nat) : Int)), Eqv (.bool true), Eqv (.bool true), Eqv (.slice (some ⟨qz, 0, none⟩) (ordE L).length cz), Eqv (.int .i64 ((j : Nat) : Int)), Eqv (.int .i64 ((j - 1 : Nat) : Int)), Eqv (.pointer (some ⟨qz, 0 + ((j - 1 : Nat) : Int).toNat * 51, none⟩)), Eqv (.pointer (some ⟨qz, 0 + ((j - 1 : Nat) : Int).toNat * 51 + 0, none⟩)), Eqv (.agg (cP yp.p).toArray), Eqv (.pointer (some ⟨b15, 0 + 0, none⟩)), Eqv (.agg (cP xe.p).toArray), Eqv (.bool true), Eqv (.bool false), Eqv (.bool false), Eqv (.bool false)] Ty.mixed rfl rfl rfl (by kernel_rfl) rfl rfl (fun w w' hw hb => hw.step hb) ⟨fun _ _ _ h _ => h, fun _ _ _ h _ => h, fun _ _ _ h _ => h, fun _ _ _ h _ => h, fun _ _ _ h _ => h, fun _ _ _ h _ => h, fun _ _ _ h _ => h, fun _ _ _ h _ => h, fun _ _ _ h _ => h, fun _ _ _ h _ => h, fun _ _ _ h _ => h, fun _ _ _ h _ => h, fun _ _ _ h _ => h, fun _ _ _ h _ => h, fun _ _ _ h _ => h, fun _ _ _ h _ => h, fun _ _ _ h _ => h, fun _ _ _ h _ => h, fun _ _ _ h _ => h, fun _ _ _ h _ => h, fun _ _ _ h _ => h, fun _ _ _ h _ => h, fun _ _ _ h _ => h, fun _ _ _ h _ => h, fun _ _ _ h _ => h, fun _ _ _ h _ => h, trivial⟩ ?hstep ?htail
        case hstep =>
          refine ⟨fun wi => ?_, fun wi => ?_, fun wi => ?_, fun wi => ?_, fun wi => ?_, fun wi => ?_, fun wi => ?_, fun wi => ?_, fun wi => ?_, fun wi => ?_, fun wi => ?_, fun wi => ?_, fun wi => ?_, fun wi => ?_, fun wi => ?_, fun wi => ?_, fun wi => ?_, fun wi => ?_, fun wi => ?_, fun wi => ?_, fun wi => ?_, fun wi => ?_, fun wi => ?_, fun wi => ?_, fun wi => ?_, fun wi => ?_, trivial⟩
          · skip
            refine Fin.nil ?_
            refine J.move rfl rfl ?_
            refine J.nil (JX.fin rfl (fun w hw => ⟨rfl, (by rw [hw.1]; exact Bel.refl _)⟩))
          · skip
            refine Fin.cons (fun v29_0 => ?_)
            refine Fin.nil ?_
            refine J.prE (fun h => ?_); subst h
            refine J.bin rfl rfl rfl rfl ?_
            refine J.name 109 rfl (show _ = Value.bool false by simp) ?_
            refine J.nil (JX.fin rfl (fun w hw => ⟨rfl, (by rw [hw.1]; exact Bel.refl _)⟩))
          · skip
            refine Fin.cons (fun v29_1 => ?_)
            refine Fin.nil ?_
            refine J.prE (fun h => ?_); subst h
            refine J.move rfl rfl ?_
            refine J.nil (JX.fin rfl (fun w hw => ⟨rfl, (by rw [hw.1]; exact Bel.refl _)⟩))
          · skip
            refine Fin.cons (fun v29_2 => ?_)
            refine Fin.nil ?_
            refine J.prE (fun h => ?_); subst h
            first
              | (refine J.skip rfl rfl rfl rfl rfl ?_)
              | (refine J.skipU rfl rfl rfl rfl ?_)
              | (refine J.unguard rfl rfl rfl ?_; refine J.move rfl rfl ?_)
            refine J.nil (JX.fin rfl (fun w hw => ⟨rfl, (by rw [hw.1]; exact Bel.refl _)⟩))
          · skip
            refine Fin.cons (fun v29_2 => ?_)
            refine Fin.nil ?_
            refine J.prE (fun h => ?_); subst h
            first
              | (refine J.skip rfl rfl rfl rfl rfl ?_)
              | (refine J.skipU rfl rfl rfl rfl ?_)
              | (refine J.unguard rfl rfl rfl ?_; refine J.move rfl rfl ?_)
            refine J.nil (JX.fin rfl (fun w hw => ⟨rfl, (by rw [hw.1]; exact Bel.refl _)⟩))
          · skip
            refine Fin.cons (fun v29_3 => ?_)
            refine Fin.cons (fun v29_4 => ?_)
            refine Fin.cons (fun v29_2 => ?_)
            refine Fin.nil ?_
            refine J.prE (fun h => ?_); subst h
            refine J.prE (fun h => ?_); subst h
            refine J.prE (fun h => ?_); subst h
            refine J.unguard rfl rfl rfl ?_
            refine J.indexAddrS Ty.el62 Ty.s34 rfl rfl (by omega) (by omega) rfl ?_
            refine J.nil (JX.fin rfl (fun w hw => ⟨rfl, (by rw [hw.1]; exact Bel.refl _)⟩))
          · skip
            refine Fin.cons (fun v29_5 => ?_)
            refine Fin.cons (fun v29_2 => ?_)
            refine Fin.nil ?_
            refine J.prE (fun h => ?_); subst h
            refine J.prE (fun h => ?_); subst h
            refine J.unguard rfl rfl rfl ?_
            refine J.loadA (vs := cE xe) Ty.a34 Ty.s34 rfl rfl (fun w1 hw => rowE_at (o := 0) (hvi.rowM hw.2 (fun q hq => by first | (simp [hq]; done) | (simp at hq; simp [hq]; done) | (simp at hq; subst hq; simp))) hk (by omega)) rfl ?_
            refine J.nil (JX.fin rfl (fun w hw => ⟨rfl, (by rw [hw.1]; exact Bel.refl _)⟩))
          · skip
            refine Fin.cons (fun v29_2 => ?_)
            refine Fin.nil ?_
            refine J.prE (fun h => ?_); subst h
            refine J.unguard rfl rfl rfl ?_
            refine J.loadA (vs := cE xe) Ty.a34 Ty.s34 rfl rfl (fun w1 hw => Cells.of_block (hw.2.own _ (.head _)) rfl) rfl ?_
            refine J.nil (JX.fin rfl (fun w hw => ⟨rfl, (by rw [hw.1]; exact Bel.refl _)⟩))
          · skip
            refine Fin.cons (fun v29_6 => ?_)
            refine Fin.cons (fun v29_7 => ?_)
            refine Fin.cons (fun v29_2 => ?_)
            refine Fin.nil ?_
            refine J.prE (fun h => ?_); subst h
            refine J.prE (fun h => ?_); subst h
            refine J.prE (fun h => ?_); subst h
            refine J.unguard rfl rfl rfl ?_
            refine J.neE Ty.QE Ty.keyE rfl rfl hxo hxo rfl ?_
            refine J.name 116 rfl (show _ = Value.bool false by simp) ?_
            refine J.nil (JX.fin rfl (fun w hw => ⟨rfl, (by rw [hw.1]; exact Bel.refl _)⟩))
          · skip
            refine Fin.cons (fun v29_2 => ?_)
            refine Fin.cons (fun v29_8 => ?_)
            refine Fin.nil ?_
            refine J.prE (fun h => ?_); subst h
            refine J.prE (fun h => ?_); subst h
            (first | refine J.pickT rfl rfl rfl ?_ | refine J.pickF rfl rfl rfl ?_)
            refine J.nil (JX.fin rfl (fun w hw => ⟨rfl, (by rw [hw.1]; exact Bel.refl _)⟩))
          · skip
            refine Fin.cons (fun v29_9 => ?_)
            refine Fin.cons (fun v29_2 => ?_)
            refine Fin.nil ?_
            refine J.prE (fun h => ?_); subst h
            refine J.prE (fun h => ?_); subst h
            refine J.move rfl rfl ?_
            refine J.nil (JX.fin rfl (fun w hw => ⟨rfl, (by rw [hw.1]; exact Bel.refl _)⟩))
          · skip
            refine Fin.cons (fun v29_10 => ?_)
            refine Fin.nil ?_
            refine J.prE (fun h => ?_); subst h
            first
              | (refine J.skip rfl rfl rfl rfl rfl ?_)
              | (refine J.skipU rfl rfl rfl rfl ?_)
              | (refine J.unguard rfl rfl rfl ?_; refine J.move rfl rfl ?_)
            refine J.nil (JX.fin rfl (fun w hw => ⟨rfl, (by rw [hw.1]; exact Bel.refl _)⟩))
          · skip
            refine Fin.cons (fun v29_11 => ?_)
            refine Fin.cons (fun v29_10 => ?_)
            refine Fin.nil ?_
            refine J.prE (fun h => ?_); subst h
            refine J.prE (fun h => ?_); subst h
            refine J.unguard rfl rfl rfl ?_
            refine J.bin rfl rfl rfl rfl ?_
            refine J.name 120 rfl (show _ = Value.bool true by simp [hj0]) ?_
            refine J.nil (JX.fin rfl (fun w hw => ⟨rfl, (by rw [hw.1]; exact Bel.refl _)⟩))
          · skip
            refine Fin.cons (fun v29_12 => ?_)
            refine Fin.cons (fun v29_10 => ?_)
            refine Fin.cons (fun v29_10 => ?_)
            refine Fin.nil ?_
            refine J.prE (fun h => ?_); subst h
            refine J.prE (fun h => ?_); subst h
            refine J.prE (fun h => ?_); subst h
            first
              | (refine J.skip rfl rfl rfl rfl rfl ?_)
              | (refine J.skipU rfl rfl rfl rfl ?_)
              | (refine J.unguard rfl rfl rfl ?_; refine J.move rfl rfl ?_)
            refine J.nil (JX.fin rfl (fun w hw => ⟨rfl, (by rw [hw.1]; exact Bel.refl _)⟩))
          · skip
            refine Fin.cons (fun v29_13 => ?_)
            refine Fin.nil ?_
            refine J.prE (fun h => ?_); subst h
            first
              | (refine J.skip rfl rfl rfl rfl rfl ?_)
              | (refine J.skipU rfl rfl rfl rfl ?_)
              | (refine J.unguard rfl rfl rfl ?_; refine J.move rfl rfl ?_)
            refine J.nil (JX.fin rfl (fun w hw => ⟨rfl, (by rw [hw.1]; exact Bel.refl _)⟩))
          · skip
            refine Fin.cons (fun v29_13 => ?_)
            refine Fin.nil ?_
            refine J.prE (fun h => ?_); subst h
            first
              | (refine J.skip rfl rfl rfl rfl rfl ?_)
              | (refine J.skipU rfl rfl rfl rfl ?_)
              | (refine J.unguard rfl rfl rfl ?_; refine J.move rfl rfl ?_)
            refine J.nil (JX.fin rfl (fun w hw => ⟨rfl, (by rw [hw.1]; exact Bel.refl _)⟩))
          · skip
            refine Fin.cons (fun v29_15 => ?_)
            refine Fin.cons (fun v29_13 => ?_)
            refine Fin.nil ?_
            refine J.prE (fun h => ?_); subst h
            refine J.prE (fun h => ?_); subst h
            refine J.unguard rfl rfl rfl ?_
            refine J.subN rfl rfl (by omega) (by omega) rfl ?_
            refine J.name 124 rfl (show Value.int .i64 (((j : Nat) : Int) - 1) = .int .i64 ((j - 1 : Nat) : Int) from congrArg _ (by omega)) ?_
            refine J.nil (JX.fin rfl (fun w hw => ⟨rfl, (by rw [hw.1]; exact Bel.refl _)⟩))
          · skip
            refine Fin.cons (fun v29_14 => ?_)
            refine Fin.cons (fun v29_16 => ?_)
            refine Fin.cons (fun v29_13 => ?_)
            refine Fin.nil ?_
            refine J.prE (fun h => ?_); subst h
            refine J.prE (fun h => ?_); subst h
            refine J.prE (fun h => ?_); subst h
            refine J.unguard rfl rfl rfl ?_
            refine J.indexAddrS Ty.el62 Ty.s34 rfl rfl (by omega) (by omega) rfl ?_
            refine J.nil (JX.fin rfl (fun w hw => ⟨rfl, (by rw [hw.1]; exact Bel.refl _)⟩))
          · skip
            refine Fin.cons (fun v29_17 => ?_)
            refine Fin.cons (fun v29_13 => ?_)
            refine Fin.nil ?_
            refine J.prE (fun h => ?_); subst h
            refine J.prE (fun h => ?_); subst h
            first
              | (refine J.skip rfl rfl rfl rfl rfl ?_)
              | (refine J.skipU rfl rfl rfl rfl ?_)
              | (refine J.unguard rfl rfl rfl ?_; refine J.fieldAddr Ty.fd34_0 rfl rfl ?_)
            refine J.nil (JX.fin rfl (fun w hw => ⟨rfl, (by rw [hw.1]; exact Bel.refl _)⟩))
          · skip
            refine Fin.cons (fun v29_18 => ?_)
            refine Fin.cons (fun v29_13 => ?_)
            refine Fin.nil ?_
            refine J.prE (fun h => ?_); subst h
            refine J.prE (fun h => ?_); subst h
            refine J.unguard rfl rfl rfl ?_
            refine J.loadA (vs := cP yp.p) Ty.a25 Ty.s25 rfl rfl (fun w1 hw => cells_sub (rowE_at (o := 0) (vec_rowM hvz hw.2 (fun q hq => by first | (simp [hq]; done) | (simp at hq; simp [hq]; done) | (simp at hq; subst hq; simp))) hyp (by omega)) rfl) rfl ?_
            refine J.nil (JX.fin rfl (fun w hw => ⟨rfl, (by rw [hw.1]; exact Bel.refl _)⟩))
          · skip
            refine Fin.cons (fun v29_13 => ?_)
            refine Fin.nil ?_
            refine J.prE (fun h => ?_); subst h
            first
              | (refine J.skip rfl rfl rfl rfl rfl ?_)
              | (refine J.skipU rfl rfl rfl rfl ?_)
              | (refine J.unguard rfl rfl rfl ?_; refine J.fieldAddr Ty.fd34_0 rfl rfl ?_)
            refine J.nil (JX.fin rfl (fun w hw => ⟨rfl, (by rw [hw.1]; exact Bel.refl _)⟩))
          · skip
            refine Fin.cons (fun v29_20 => ?_)
            refine Fin.cons (fun v29_13 => ?_)
            refine Fin.nil ?_
            refine J.prE (fun h => ?_); subst h
            refine J.prE (fun h => ?_); subst h
            refine J.unguard rfl rfl rfl ?_
            refine J.loadA (vs := cP xe.p) Ty.a25 Ty.s25 rfl rfl (fun w1 hw => Cells.of_block (hw.2.own _ (.head _)) rfl) rfl ?_
            refine J.nil (JX.fin rfl (fun w hw => ⟨rfl, (by rw [hw.1]; exact Bel.refl _)⟩))
          · skip
            refine Fin.cons (fun v29_19 => ?_)
            refine Fin.cons (fun v29_21 => ?_)
            refine Fin.cons (fun v29_13 => ?_)
            refine Fin.cons (fun v29_13 => ?_)
            refine Fin.nil ?_
            refine J.prE (fun h => ?_); subst h
            refine J.prE (fun h => ?_); subst h
            refine J.prE (fun h => ?_); subst h
            refine J.prE (fun h => ?_); subst h
            refine J.unguard rfl rfl rfl ?_
            refine J.callD (v := .bool true) Ty.bd32 rfl rfl (fun w1 hw => (by have h := rless12_spec yp.p xe.p w1; rwa [hles] at h)) ?_
            refine J.nil (JX.fin rfl (fun w hw => ⟨rfl, hw⟩))
          · skip
            refine Fin.cons (fun v29_22 => ?_)
            refine Fin.cons (fun v29_13 => ?_)
            refine Fin.nil ?_
            refine J.prE (fun h => ?_); subst h
            refine J.prE (fun h => ?_); subst h
            first
              | (refine J.skip rfl rfl rfl rfl rfl ?_)
              | (refine J.skipU rfl rfl rfl rfl ?_)
              | (refine J.unguard rfl rfl rfl ?_; refine J.not rfl rfl ?_)
            refine J.nil (JX.fin rfl (fun w hw => ⟨rfl, (by rw [hw.1]; exact Bel.refl _)⟩))
          · skip
            refine Fin.cons (fun v29_13 => ?_)
            refine Fin.cons (fun v29_23 => ?_)
            refine Fin.cons (fun v29_10 => ?_)
            refine Fin.nil ?_
            refine J.prE (fun h => ?_); subst h
            refine J.prE (fun h => ?_); subst h
            refine J.prE (fun h => ?_); subst h
            first
              | (refine J.skip rfl rfl rfl rfl rfl ?_)
              | (refine J.skipU rfl rfl rfl rfl ?_)
              | (refine J.unguard rfl rfl rfl ?_; (first | refine J.pickT rfl rfl rfl ?_ | refine J.pickF rfl rfl rfl ?_))
            refine J.nil (JX.fin rfl (fun w hw => ⟨rfl, (by rw [hw.1]; exact Bel.refl _)⟩))
          · skip
            refine Fin.cons (fun v29_10 => ?_)
            refine Fin.cons (fun v29_24 => ?_)
            refine Fin.nil ?_
            refine J.prE (fun h => ?_); subst h
            refine J.prE (fun h => ?_); subst h
            (first | refine J.pickT rfl rfl rfl ?_ | refine J.pickF rfl rfl rfl ?_)
            refine J.nil (JX.fin rfl (fun w hw => ⟨rfl, (by rw [hw.1]; exact Bel.refl _)⟩))
        case htail =>
          refine Fin.cons (fun v29_0 => ?_)
          refine Fin.cons (fun v29_1 => ?_)
          refine Fin.cons (fun v29_2 => ?_)
          refine Fin.cons (fun v29_3 => ?_)
          refine Fin.cons (fun v29_4 => ?_)
          refine Fin.cons (fun v29_5 => ?_)
          refine Fin.cons (fun v29_6 => ?_)
          refine Fin.cons (fun v29_7 => ?_)
          refine Fin.cons (fun v29_8 => ?_)
          refine Fin.cons (fun v29_9 => ?_)
          refine Fin.cons (fun v29_10 => ?_)
          refine Fin.cons (fun v29_11 => ?_)
          refine Fin.cons (fun v29_12 => ?_)
          refine Fin.cons (fun v29_13 => ?_)
          refine Fin.cons (fun v29_14 => ?_)
          refine Fin.cons (fun v29_15 => ?_)
          refine Fin.cons (fun v29_16 => ?_)
          refine Fin.cons (fun v29_17 => ?_)
          refine Fin.cons (fun v29_18 => ?_)
          refine Fin.cons (fun v29_19 => ?_)
          refine Fin.cons (fun v29_20 => ?_)
          refine Fin.cons (fun v29_21 => ?_)
          refine Fin.cons (fun v29_22 => ?_)
          refine Fin.cons (fun v29_23 => ?_)
          refine Fin.cons (fun v29_24 => ?_)
          refine Fin.cons (fun v29_25 => ?_)
          refine Fin.nil ?_
          refine J.prE (fun h => ?_); subst h
          refine J.prE (fun h => ?_); subst h
          refine J.prE (fun h => ?_); subst h
          refine J.prE (fun h => ?_); subst h
          refine J.prE (fun h => ?_); subst h
          refine J.prE (fun h => ?_); subst h
          refine J.prE (fun h => ?_); subst h
          refine J.prE (fun h => ?_); subst h
          refine J.prE (fun h => ?_); subst h
          refine J.prE (fun h => ?_); subst h
          refine J.prE (fun h => ?_); subst h
          refine J.prE (fun h => ?_); subst h
          refine J.prE (fun h => ?_); subst h
          refine J.prE (fun h => ?_); subst h
          refine J.prE (fun h => ?_); subst h
          refine J.prE (fun h => ?_); subst h
          refine J.prE (fun h => ?_); subst h
          refine J.prE (fun h => ?_); subst h
          refine J.prE (fun h => ?_); subst h
          refine J.prE (fun h => ?_); subst h
          refine J.prE (fun h => ?_); subst h
          refine J.prE (fun h => ?_); subst h
          refine J.prE (fun h => ?_); subst h
          refine J.prE (fun h => ?_); subst h
          refine J.prE (fun h => ?_); subst h
          refine J.prE (fun h => ?_); subst h
          refine J.nil ?_
          refine JX.thenN (hK50 _ _ ?_)
          first | refine JC.condF rfl ?_ | refine JC.cond rfl (fun h => by first | (exfalso; simp at h; omega) | (simp at h)) (fun _ => ?_)
          refine JC.skip ?_
          refine JX.blockN ?_
          refine JX.thenN (hK47 _ _ ?_)
          refine JC.region ?_
          (first | refine J.addN rfl rfl (by omega) (by omega) rfl ?_ | refine J.bin rfl rfl rfl rfl ?_)
          refine J.move rfl rfl ?_
          refine J.nil ?_
          refine JX.thenN ?_
          refine JX.again (j + 1) ?_ ?_ ?_
          · omega
          · exact ⟨rfl, rfl, rfl, rfl, rfl, rfl, rfl, trivial⟩
          · exact fun w1 hw => ⟨hltj, hw.drop (List.sublist_cons_self _ _)⟩
      · skip
        apply JC.drawL 26 [Eqv (.int .i64 ((k : Nat) : Int)), Eqv (.bool false), Eqv (.bool false), Eqv (.slice (some ⟨qi, 0, none⟩) L.length ci), Eqv (.int .i64 ((k : Nat) : Int)), Eqv (.pointer (some ⟨qi, 0 + ((k : Nat) : Int).toNat * 51, none⟩)), Eqv (.agg (cE xe).toArray), Eqv (.agg (cE xe).toArray), Eqv (.bool false), Eqv (.bool false), Eqv (.bool false), Eqv (.int .i64 ((j : Nat) : Int)), Eqv (.bool false), Eqv (.bool false), Eqv (undef), Eqv (undef), Eqv (undef), Eqv (undef), Eqv (undef), Eqv (undef), Eqv (undef), Eqv (undef), Eqv (undef), Eqv (undef), Eqv (.bool false), Eqv (.bool false)] Ty.mixed rfl rfl rfl (by kernel_rfl) rfl rfl (fun w w' hw hb => hw.step hb) ⟨fun _ _ _ h _ => h, fun _ _ _ h _ => h, fun _ _ _ h _ => h, fun _ _ _ h _ => h, fun _ _ _ h _ => h, fun _ _ _ h _ => h, fun _ _ _ h _ => h, fun _ _ _ h _ => h, fun _ _ _ h _ => h, fun _ _ _ h _ => h, fun _ _ _ h _ => h, fun _ _ _ h _ => h, fun _ _ _ h _ => h, fun _ _ _ h _ => h, fun _ _ _ h _ => h, fun _ _ _ h _ => h, fun _ _ _ h _ => h, fun _ _ _ h _ => h, fun _ _ _ h _ => h, fun _ _ _ h _ => h, fun _ _ _ h _ => h, fun _ _ _ h _ => h, fun _ _ _ h _ => h, fun _ _ _ h _ => h, fun _ _ _ h _ => h, fun _ _ _ h _ => h, trivial⟩ ?hstep ?htail
        case hstep =>
          refine ⟨fun wi => ?_, fun wi => ?_, fun wi => ?_, fun wi => ?_, fun wi => ?_, fun wi => ?_, fun wi => ?_, fun wi => ?_, fun wi => ?_, fun wi => ?_, fun wi => ?_, fun wi => ?_, fun wi => ?_, fun wi => ?_, fun wi => ?_, fun wi => ?_, fun wi => ?_, fun wi => ?_, fun wi => ?_, fun wi => ?_, fun wi => ?_, fun wi => ?_, fun wi => ?_, fun wi => ?_, fun wi => ?_, fun wi => ?_, trivial⟩
          · skip
            refine Fin.nil ?_
            refine J.move rfl rfl ?_
            refine J.nil (JX.fin rfl (fun w hw => ⟨rfl, (by rw [hw.1]; exact Bel.refl _)⟩))
          · skip
            refine Fin.cons (fun v29_0 => ?_)
            refine Fin.nil ?_
            refine J.prE (fun h => ?_); subst h
            refine J.bin rfl rfl rfl rfl ?_
            refine J.name 109 rfl (show _ = Value.bool false by simp) ?_
            refine J.nil (JX.fin rfl (fun w hw => ⟨rfl, (by rw [hw.1]; exact Bel.refl _)⟩))
          · skip
            refine Fin.cons (fun v29_1 => ?_)
            refine Fin.nil ?_
            refine J.prE (fun h => ?_); subst h
            refine J.move rfl rfl ?_
            refine J.nil (JX.fin rfl (fun w hw => ⟨rfl, (by rw [hw.1]; exact Bel.refl _)⟩))
          · skip
            refine Fin.cons (fun v29_2 => ?_)
            refine Fin.nil ?_
            refine J.prE (fun h => ?_); subst h
            first
              | (refine J.skip rfl rfl rfl rfl rfl ?_)
              | (refine J.skipU rfl rfl rfl rfl ?_)
              | (refine J.unguard rfl rfl rfl ?_; refine J.move rfl rfl ?_)
            refine J.nil (JX.fin rfl (fun w hw => ⟨rfl, (by rw [hw.1]; exact Bel.refl _)⟩))
          · skip
            refine Fin.cons (fun v29_2 => ?_)
            refine Fin.nil ?_
            refine J.prE (fun h => ?_); subst h
            first
              | (refine J.skip rfl rfl rfl rfl rfl ?_)
              | (refine J.skipU rfl rfl rfl rfl ?_)
              | (refine J.unguard rfl rfl rfl ?_; refine J.move rfl rfl ?_)
            refine J.nil (JX.fin rfl (fun w hw => ⟨rfl, (by rw [hw.1]; exact Bel.refl _)⟩))
          · skip
            refine Fin.cons (fun v29_3 => ?_)
            refine Fin.cons (fun v29_4 => ?_)
            refine Fin.cons (fun v29_2 => ?_)
            refine Fin.nil ?_
            refine J.prE (fun h => ?_); subst h
            refine J.prE (fun h => ?_); subst h
            refine J.prE (fun h => ?_); subst h
            refine J.unguard rfl rfl rfl ?_
            refine J.indexAddrS Ty.el62 Ty.s34 rfl rfl (by omega) (by omega) rfl ?_
            refine J.nil (JX.fin rfl (fun w hw => ⟨rfl, (by rw [hw.1]; exact Bel.refl _)⟩))
          · skip
            refine Fin.cons (fun v29_5 => ?_)
            refine Fin.cons (fun v29_2 => ?_)
            refine Fin.nil ?_
            refine J.prE (fun h => ?_); subst h
            refine J.prE (fun h => ?_); subst h
            refine J.unguard rfl rfl rfl ?_
            refine J.loadA (vs := cE xe) Ty.a34 Ty.s34 rfl rfl (fun w1 hw => rowE_at (o := 0) (hvi.rowM hw.2 (fun q hq => by first | (simp [hq]; done) | (simp at hq; simp [hq]; done) | (simp at hq; subst hq; simp))) hk (by omega)) rfl ?_
            refine J.nil (JX.fin rfl (fun w hw => ⟨rfl, (by rw [hw.1]; exact Bel.refl _)⟩))
          · skip
            refine Fin.cons (fun v29_2 => ?_)
            refine Fin.nil ?_
            refine J.prE (fun h => ?_); subst h
            refine J.unguard rfl rfl rfl ?_
            refine J.loadA (vs := cE xe) Ty.a34 Ty.s34 rfl rfl (fun w1 hw => Cells.of_block (hw.2.own _ (.head _)) rfl) rfl ?_
            refine J.nil (JX.fin rfl (fun w hw => ⟨rfl, (by rw [hw.1]; exact Bel.refl _)⟩))
          · skip
            refine Fin.cons (fun v29_6 => ?_)
            refine Fin.cons (fun v29_7 => ?_)
            refine Fin.cons (fun v29_2 => ?_)
            refine Fin.nil ?_
            refine J.prE (fun h => ?_); subst h
            refine J.prE (fun h => ?_); subst h
            refine J.prE (fun h => ?_); subst h
            refine J.unguard rfl rfl rfl ?_
            refine J.neE Ty.QE Ty.keyE rfl rfl hxo hxo rfl ?_
            refine J.name 116 rfl (show _ = Value.bool false by simp) ?_
            refine J.nil (JX.fin rfl (fun w hw => ⟨rfl, (by rw [hw.1]; exact Bel.refl _)⟩))
          · skip
            refine Fin.cons (fun v29_2 => ?_)
            refine Fin.cons (fun v29_8 => ?_)
            refine Fin.nil ?_
            refine J.prE (fun h => ?_); subst h
            refine J.prE (fun h => ?_); subst h
            (first | refine J.pickT rfl rfl rfl ?_ | refine J.pickF rfl rfl rfl ?_)
            refine J.nil (JX.fin rfl (fun w hw => ⟨rfl, (by rw [hw.1]; exact Bel.refl _)⟩))
          · skip
            refine Fin.cons (fun v29_9 => ?_)
            refine Fin.cons (fun v29_2 => ?_)
            refine Fin.nil ?_
            refine J.prE (fun h => ?_); subst h
            refine J.prE (fun h => ?_); subst h
            refine J.move rfl rfl ?_
            refine J.nil (JX.fin rfl (fun w hw => ⟨rfl, (by rw [hw.1]; exact Bel.refl _)⟩))
          · skip
            refine Fin.cons (fun v29_10 => ?_)
            refine Fin.nil ?_
            refine J.prE (fun h => ?_); subst h
            first
              | (refine J.skip rfl rfl rfl rfl rfl ?_)
              | (refine J.skipU rfl rfl rfl rfl ?_)
              | (refine J.unguard rfl rfl rfl ?_; refine J.move rfl rfl ?_)
            refine J.nil (JX.fin rfl (fun w hw => ⟨rfl, (by rw [hw.1]; exact Bel.refl _)⟩))
          · skip
            refine Fin.cons (fun v29_11 => ?_)
            refine Fin.cons (fun v29_10 => ?_)
            refine Fin.nil ?_
            refine J.prE (fun h => ?_); subst h
            refine J.prE (fun h => ?_); subst h
            refine J.unguard rfl rfl rfl ?_
            refine J.bin rfl rfl rfl rfl ?_
            refine J.name 120 rfl (show _ = Value.bool false by simp [hj0]) ?_
            refine J.nil (JX.fin rfl (fun w hw => ⟨rfl, (by rw [hw.1]; exact Bel.refl _)⟩))
          · skip
            refine Fin.cons (fun v29_12 => ?_)
            refine Fin.cons (fun v29_10 => ?_)
            refine Fin.cons (fun v29_10 => ?_)
            refine Fin.nil ?_
            refine J.prE (fun h => ?_); subst h
            refine J.prE (fun h => ?_); subst h
            refine J.prE (fun h => ?_); subst h
            first
              | (refine J.skip rfl rfl rfl rfl rfl ?_)
              | (refine J.skipU rfl rfl rfl rfl ?_)
              | (refine J.unguard rfl rfl rfl ?_; refine J.move rfl rfl ?_)
            refine J.nil (JX.fin rfl (fun w hw => ⟨rfl, (by rw [hw.1]; exact Bel.refl _)⟩))
          · skip
            refine Fin.cons (fun v29_13 => ?_)
            refine Fin.nil ?_
            refine J.prE (fun h => ?_); subst h
            first
              | (refine J.skip rfl rfl rfl rfl rfl ?_)
              | (refine J.skipU rfl rfl rfl rfl ?_)
              | (refine J.unguard rfl rfl rfl ?_; refine J.move rfl rfl ?_)
            refine J.nil (JX.fin rfl (fun w hw => ⟨rfl, (by rw [hw.1]; exact Bel.refl _)⟩))
          · skip
            refine Fin.cons (fun v29_13 => ?_)
            refine Fin.nil ?_
            refine J.prE (fun h => ?_); subst h
            first
              | (refine J.skip rfl rfl rfl rfl rfl ?_)
              | (refine J.skipU rfl rfl rfl rfl ?_)
              | (refine J.unguard rfl rfl rfl ?_; refine J.move rfl rfl ?_)
            refine J.nil (JX.fin rfl (fun w hw => ⟨rfl, (by rw [hw.1]; exact Bel.refl _)⟩))
          · skip
            refine Fin.cons (fun v29_15 => ?_)
            refine Fin.cons (fun v29_13 => ?_)
            refine Fin.nil ?_
            refine J.prE (fun h => ?_); subst h
            refine J.prE (fun h => ?_); subst h
            first
              | (refine J.skip rfl rfl rfl rfl rfl ?_)
              | (refine J.skipU rfl rfl rfl rfl ?_)
              | (refine J.unguard rfl rfl rfl ?_; (first | refine J.subN rfl rfl (by omega) (by omega) rfl ?_ | refine J.bin rfl rfl rfl rfl ?_))
            refine J.nil (JX.fin rfl (fun w hw => ⟨rfl, (by rw [hw.1]; exact Bel.refl _)⟩))
          · skip
            refine Fin.cons (fun v29_14 => ?_)
            refine Fin.cons (fun v29_16 => ?_)
            refine Fin.cons (fun v29_13 => ?_)
            refine Fin.nil ?_
            refine J.prE (fun h => ?_); subst h
            refine J.prE (fun h => ?_); subst h
            refine J.prE (fun h => ?_); subst h
            first
              | (refine J.skip rfl rfl rfl rfl rfl ?_)
              | (refine J.skipU rfl rfl rfl rfl ?_)
              | (refine J.unguard rfl rfl rfl ?_; refine J.indexAddrS Ty.el62 Ty.s34 rfl rfl (by omega) (by omega) rfl ?_)
            refine J.nil (JX.fin rfl (fun w hw => ⟨rfl, (by rw [hw.1]; exact Bel.refl _)⟩))
          · skip
            refine Fin.cons (fun v29_17 => ?_)
            refine Fin.cons (fun v29_13 => ?_)
            refine Fin.nil ?_
            refine J.prE (fun h => ?_); subst h
            refine J.prE (fun h => ?_); subst h
            first
              | (refine J.skip rfl rfl rfl rfl rfl ?_)
              | (refine J.skipU rfl rfl rfl rfl ?_)
              | (refine J.unguard rfl rfl rfl ?_; refine J.fieldAddr Ty.fd34_0 rfl rfl ?_)
            refine J.nil (JX.fin rfl (fun w hw => ⟨rfl, (by rw [hw.1]; exact Bel.refl _)⟩))
          · skip
            refine Fin.cons (fun v29_18 => ?_)
            refine Fin.cons (fun v29_13 => ?_)
            refine Fin.nil ?_
            refine J.prE (fun h => ?_); subst h
            refine J.prE (fun h => ?_); subst h
            first
              | (refine J.skip rfl rfl rfl rfl rfl ?_)
              | (refine J.skipU rfl rfl rfl rfl ?_)
              | (refine J.unguard rfl rfl rfl ?_; (first | refine J.loadOA Ty.a25 Ty.s25 rfl (.head _) rfl rfl rfl ?_ | refine J.loadOA Ty.a25 Ty.s25 rfl (.tail _ (.head _)) rfl rfl rfl ?_ | refine J.loadOA Ty.a25 Ty.s25 rfl (.tail _ (.tail _ (.head _))) rfl rfl rfl ?_ | refine J.loadOA Ty.a25 Ty.s25 rfl (.tail _ (.tail _ (.tail _ (.head _)))) rfl rfl rfl ?_ | refine J.loadOA Ty.a25 Ty.s25 rfl (.tail _ (.tail _ (.tail _ (.tail _ (.head _))))) rfl rfl rfl ?_ | refine J.loadOA Ty.a25 Ty.s25 rfl (.tail _ (.tail _ (.tail _ (.tail _ (.tail _ (.head _)))))) rfl rfl rfl ?_ | refine J.loadOA Ty.a25 Ty.s25 rfl (.tail _ (.tail _ (.tail _ (.tail _ (.tail _ (.tail _ (.head _))))))) rfl rfl rfl ?_ | refine J.loadOA Ty.a25 Ty.s25 rfl (.tail _ (.tail _ (.tail _ (.tail _ (.tail _ (.tail _ (.tail _ (.head _)))))))) rfl rfl rfl ?_ | refine J.loadOA Ty.a25 Ty.s25 rfl (.tail _ (.tail _ (.tail _ (.tail _ (.tail _ (.tail _ (.tail _ (.tail _ (.head _))))))))) rfl rfl rfl ?_ | refine J.loadOA Ty.a25 Ty.s25 rfl (.tail _ (.tail _ (.tail _ (.tail _ (.tail _ (.tail _ (.tail _ (.tail _ (.tail _ (.head _)))))))))) rfl rfl rfl ?_ | refine J.loadOA Ty.a25 Ty.s25 rfl (.tail _ (.tail _ (.tail _ (.tail _ (.tail _ (.tail _ (.tail _ (.tail _ (.tail _ (.tail _ (.head _))))))))))) rfl rfl rfl ?_ | refine J.loadOA Ty.a25 Ty.s25 rfl (.tail _ (.tail _ (.tail _ (.tail _ (.tail _ (.tail _ (.tail _ (.tail _ (.tail _ (.tail _ (.tail _ (.head _)))))))))))) rfl rfl rfl ?_ | refine J.loadOA Ty.a25 Ty.s25 rfl (List.mem_append_right _ (.head _)) rfl rfl rfl ?_ | refine J.loadOA Ty.a25 Ty.s25 rfl (List.mem_append_right _ (.tail _ (.head _))) rfl rfl rfl ?_ | refine J.loadOA Ty.a25 Ty.s25 rfl (List.mem_append_right _ (.tail _ (.tail _ (.head _)))) rfl rfl rfl ?_ | refine J.loadOA Ty.a25 Ty.s25 rfl (List.mem_append_right _ (.tail _ (.tail _ (.tail _ (.head _))))) rfl rfl rfl ?_ | refine J.loadOA Ty.a25 Ty.s25 rfl (List.mem_append_right _ (.tail _ (.tail _ (.tail _ (.tail _ (.head _)))))) rfl rfl rfl ?_ | refine J.loadOA Ty.a25 Ty.s25 rfl (List.mem_append_right _ (.tail _ (.tail _ (.tail _ (.tail _ (.tail _ (.head _))))))) rfl rfl rfl ?_ | refine J.loadOA Ty.a25 Ty.s25 rfl (List.mem_append_right _ (.tail _ (.tail _ (.tail _ (.tail _ (.tail _ (.tail _ (.head _)))))))) rfl rfl rfl ?_ | refine J.loadOA Ty.a25 Ty.s25 rfl (List.mem_append_right _ (.tail _ (.tail _ (.tail _ (.tail _ (.tail _ (.tail _ (.tail _ (.head _))))))))) rfl rfl rfl ?_ | refine J.loadOA Ty.a25 Ty.s25 rfl (List.mem_append_right _ (.tail _ (.tail _ (.tail _ (.tail _ (.tail _ (.tail _ (.tail _ (.tail _ (.head _)))))))))) rfl rfl rfl ?_ | refine J.loadOA Ty.a25 Ty.s25 rfl (List.mem_append_right _ (.tail _ (.tail _ (.tail _ (.tail _ (.tail _ (.tail _ (.tail _ (.tail _ (.tail _ (.head _))))))))))) rfl rfl rfl ?_ | refine J.loadOA Ty.a25 Ty.s25 rfl (List.mem_append_right _ (.tail _ (.tail _ (.tail _ (.tail _ (.tail _ (.tail _ (.tail _ (.tail _ (.tail _ (.tail _ (.head _)))))))))))) rfl rfl rfl ?_ | refine J.loadOA Ty.a25 Ty.s25 rfl (List.mem_append_right _ (.tail _ (.tail _ (.tail _ (.tail _ (.tail _ (.tail _ (.tail _ (.tail _ (.tail _ (.tail _ (.tail _ (.head _))))))))))))) rfl rfl rfl ?_))
            refine J.nil (JX.fin rfl (fun w hw => ⟨rfl, (by rw [hw.1]; exact Bel.refl _)⟩))
          · skip
            refine Fin.cons (fun v29_13 => ?_)
            refine Fin.nil ?_
            refine J.prE (fun h => ?_); subst h
            first
              | (refine J.skip rfl rfl rfl rfl rfl ?_)
              | (refine J.skipU rfl rfl rfl rfl ?_)
              | (refine J.unguard rfl rfl rfl ?_; refine J.fieldAddr Ty.fd34_0 rfl rfl ?_)
            refine J.nil (JX.fin rfl (fun w hw => ⟨rfl, (by rw [hw.1]; exact Bel.refl _)⟩))
          · skip
            refine Fin.cons (fun v29_20 => ?_)
            refine Fin.cons (fun v29_13 => ?_)
            refine Fin.nil ?_
            refine J.prE (fun h => ?_); subst h
            refine J.prE (fun h => ?_); subst h
            first
              | (refine J.skip rfl rfl rfl rfl rfl ?_)
              | (refine J.skipU rfl rfl rfl rfl ?_)
              | (refine J.unguard rfl rfl rfl ?_; (first | refine J.loadOA Ty.a25 Ty.s25 rfl (.head _) rfl rfl rfl ?_ | refine J.loadOA Ty.a25 Ty.s25 rfl (.tail _ (.head _)) rfl rfl rfl ?_ | refine J.loadOA Ty.a25 Ty.s25 rfl (.tail _ (.tail _ (.head _))) rfl rfl rfl ?_ | refine J.loadOA Ty.a25 Ty.s25 rfl (.tail _ (.tail _ (.tail _ (.head _)))) rfl rfl rfl ?_ | refine J.loadOA Ty.a25 Ty.s25 rfl (.tail _ (.tail _ (.tail _ (.tail _ (.head _))))) rfl rfl rfl ?_ | refine J.loadOA Ty.a25 Ty.s25 rfl (.tail _ (.tail _ (.tail _ (.tail _ (.tail _ (.head _)))))) rfl rfl rfl ?_ | refine J.loadOA Ty.a25 Ty.s25 rfl (.tail _ (.tail _ (.tail _ (.tail _ (.tail _ (.tail _ (.head _))))))) rfl rfl rfl ?_ | refine J.loadOA Ty.a25 Ty.s25 rfl (.tail _ (.tail _ (.tail _ (.tail _ (.tail _ (.tail _ (.tail _ (.head _)))))))) rfl rfl rfl ?_ | refine J.loadOA Ty.a25 Ty.s25 rfl (.tail _ (.tail _ (.tail _ (.tail _ (.tail _ (.tail _ (.tail _ (.tail _ (.head _))))))))) rfl rfl rfl ?_ | refine J.loadOA Ty.a25 Ty.s25 rfl (.tail _ (.tail _ (.tail _ (.tail _ (.tail _ (.tail _ (.tail _ (.tail _ (.tail _ (.head _)))))))))) rfl rfl rfl ?_ | refine J.loadOA Ty.a25 Ty.s25 rfl (.tail _ (.tail _ (.tail _ (.tail _ (.tail _ (.tail _ (.tail _ (.tail _ (.tail _ (.tail _ (.head _))))))))))) rfl rfl rfl ?_ | refine J.loadOA Ty.a25 Ty.s25 rfl (.tail _ (.tail _ (.tail _ (.tail _ (.tail _ (.tail _ (.tail _ (.tail _ (.tail _ (.tail _ (.tail _ (.head _)))))))))))) rfl rfl rfl ?_ | refine J.loadOA Ty.a25 Ty.s25 rfl (List.mem_append_right _ (.head _)) rfl rfl rfl ?_ | refine J.loadOA Ty.a25 Ty.s25 rfl (List.mem_append_right _ (.tail _ (.head _))) rfl rfl rfl ?_ | refine J.loadOA Ty.a25 Ty.s25 rfl (List.mem_append_right _ (.tail _ (.tail _ (.head _)))) rfl rfl rfl ?_ | refine J.loadOA Ty.a25 Ty.s25 rfl (List.mem_append_right _ (.tail _ (.tail _ (.tail _ (.head _))))) rfl rfl rfl ?_ | refine J.loadOA Ty.a25 Ty.s25 rfl (List.mem_append_right _ (.tail _ (.tail _ (.tail _ (.tail _ (.head _)))))) rfl rfl rfl ?_ | refine J.loadOA Ty.a25 Ty.s25 rfl (List.mem_append_right _ (.tail _ (.tail _ (.tail _ (.tail _ (.tail _ (.head _))))))) rfl rfl rfl ?_ | refine J.loadOA Ty.a25 Ty.s25 rfl (List.mem_append_right _ (.tail _ (.tail _ (.tail _ (.tail _ (.tail _ (.tail _ (.head _)))))))) rfl rfl rfl ?_ | refine J.loadOA Ty.a25 Ty.s25 rfl (List.mem_append_right _ (.tail _ (.tail _ (.tail _ (.tail _ (.tail _ (.tail _ (.tail _ (.head _))))))))) rfl rfl rfl ?_ | refine J.loadOA Ty.a25 Ty.s25 rfl (List.mem_append_right _ (.tail _ (.tail _ (.tail _ (.tail _ (.tail _ (.tail _ (.tail _ (.tail _ (.head _)))))))))) rfl rfl rfl ?_ | refine J.loadOA Ty.a25 Ty.s25 rfl (List.mem_append_right _ (.tail _ (.tail _ (.tail _ (.tail _ (.tail _ (.tail _ (.tail _ (.tail _ (.tail _ (.head _))))))))))) rfl rfl rfl ?_ | refine J.loadOA Ty.a25 Ty.s25 rfl (List.mem_append_right _ (.tail _ (.tail _ (.tail _ (.tail _ (.tail _ (.tail _ (.tail _ (.tail _ (.tail _ (.tail _ (.head _)))))))))))) rfl rfl rfl ?_ | refine J.loadOA Ty.a25 Ty.s25 rfl (List.mem_append_right _ (.tail _ (.tail _ (.tail _ (.tail _ (.tail _ (.tail _ (.tail _ (.tail _ (.tail _ (.tail _ (.tail _ (.head _))))))))))))) rfl rfl rfl ?_))
            refine J.nil (JX.fin rfl (fun w hw => ⟨rfl, (by rw [hw.1]; exact Bel.refl _)⟩))
          · skip
            refine Fin.cons (fun v29_19 => ?_)
            refine Fin.cons (fun v29_21 => ?_)
            refine Fin.cons (fun v29_13 => ?_)
            refine Fin.cons (fun v29_13 => ?_)
            refine Fin.nil ?_
            refine J.prE (fun h => ?_); subst h
            refine J.prE (fun h => ?_); subst h
            refine J.prE (fun h => ?_); subst h
            refine J.prE (fun h => ?_); subst h
            first
              | (refine J.skip rfl rfl rfl rfl rfl ?_)
              | (refine J.skipU rfl rfl rfl rfl ?_)
              | (refine J.unguard rfl rfl rfl ?_; fail)
            refine J.nil (JX.fin rfl (fun w hw => ⟨rfl, (by rw [hw.1]; exact Bel.refl _)⟩))
          · skip
            refine Fin.cons (fun v29_22 => ?_)
            refine Fin.cons (fun v29_13 => ?_)
            refine Fin.nil ?_
            refine J.prE (fun h => ?_); subst h
            refine J.prE (fun h => ?_); subst h
            first
              | (refine J.skip rfl rfl rfl rfl rfl ?_)
              | (refine J.skipU rfl rfl rfl rfl ?_)
              | (refine J.unguard rfl rfl rfl ?_; refine J.not rfl rfl ?_)
            refine J.nil (JX.fin rfl (fun w hw => ⟨rfl, (by rw [hw.1]; exact Bel.refl _)⟩))
          · skip
            refine Fin.cons (fun v29_13 => ?_)
            refine Fin.cons (fun v29_23 => ?_)
            refine Fin.cons (fun v29_10 => ?_)
            refine Fin.nil ?_
            refine J.prE (fun h => ?_); subst h
            refine J.prE (fun h => ?_); subst h
            refine J.prE (fun h => ?_); subst h
            first
              | (refine J.skip rfl rfl rfl rfl rfl ?_)
              | (refine J.skipU rfl rfl rfl rfl ?_)
              | (refine J.unguard rfl rfl rfl ?_; (first | refine J.pickT rfl rfl rfl ?_ | refine J.pickF rfl rfl rfl ?_))
            refine J.nil (JX.fin rfl (fun w hw => ⟨rfl, (by rw [hw.1]; exact Bel.refl _)⟩))
          · skip
            refine Fin.cons (fun v29_10 => ?_)
            refine Fin.cons (fun v29_24 => ?_)
            refine Fin.nil ?_
            refine J.prE (fun h => ?_); subst h
            refine J.prE (fun h => ?_); subst h
            (first | refine J.pickT rfl rfl rfl ?_ | refine J.pickF rfl rfl rfl ?_)
            refine J.nil (JX.fin rfl (fun w hw => ⟨rfl, (by rw [hw.1]; exact Bel.refl _)⟩))
        case htail =>
          refine Fin.cons (fun v29_0 => ?_)
          refine Fin.cons (fun v29_1 => ?_)
          refine Fin.cons (fun v29_2 => ?_)
          refine Fin.cons (fun v29_3 => ?_)
          refine Fin.cons (fun v29_4 => ?_)
          refine Fin.cons (fun v29_5 => ?_)
          refine Fin.cons (fun v29_6 => ?_)
          refine Fin.cons (fun v29_7 => ?_)
          refine Fin.cons (fun v29_8 => ?_)
          refine Fin.cons (fun v29_9 => ?_)
          refine Fin.cons (fun v29_10 => ?_)
          refine Fin.cons (fun v29_11 => ?_)
          refine Fin.cons (fun v29_12 => ?_)
          refine Fin.cons (fun v29_13 => ?_)
          refine Fin.cons (fun v29_14 => ?_)
          refine Fin.cons (fun v29_15 => ?_)
          refine Fin.cons (fun v29_16 => ?_)
          refine Fin.cons (fun v29_17 => ?_)
          refine Fin.cons (fun v29_18 => ?_)
          refine Fin.cons (fun v29_19 => ?_)
          refine Fin.cons (fun v29_20 => ?_)
          refine Fin.cons (fun v29_21 => ?_)
          refine Fin.cons (fun v29_22 => ?_)
          refine Fin.cons (fun v29_23 => ?_)
          refine Fin.cons (fun v29_24 => ?_)
          refine Fin.cons (fun v29_25 => ?_)
          refine Fin.nil ?_
          refine J.prE (fun h => ?_); subst h
          refine J.prE (fun h => ?_); subst h
          refine J.prE (fun h => ?_); subst h
          refine J.prE (fun h => ?_); subst h
          refine J.prE (fun h => ?_); subst h
          refine J.prE (fun h => ?_); subst h
          refine J.prE (fun h => ?_); subst h
          refine J.prE (fun h => ?_); subst h
          refine J.prE (fun h => ?_); subst h
          refine J.prE (fun h => ?_); subst h
          refine J.prE (fun h => ?_); subst h
          refine J.prE (fun h => ?_); subst h
          refine J.prE (fun h => ?_); subst h
          refine J.prE (fun h => ?_); subst h
          refine J.prE (fun h => ?_); subst h
          refine J.prE (fun h => ?_); subst h
          refine J.prE (fun h => ?_); subst h
          refine J.prE (fun h => ?_); subst h
          refine J.prE (fun h => ?_); subst h
          refine J.prE (fun h => ?_); subst h
          refine J.prE (fun h => ?_); subst h
          refine J.prE (fun h => ?_); subst h
          refine J.prE (fun h => ?_); subst h
          refine J.prE (fun h => ?_); subst h
          refine J.prE (fun h => ?_); subst h
          refine J.prE (fun h => ?_); subst h
          refine J.nil ?_
          refine JX.thenN (hK50 _ _ ?_)
          first | refine JC.condF rfl ?_ | refine JC.cond rfl (fun h => by first | (exfalso; simp at h; omega) | (simp at h)) (fun _ => ?_)
          refine JC.skip ?_
          refine JX.blockN ?_
          refine JX.thenN (hK47 _ _ ?_)
          refine JC.region ?_
          (first | refine J.addN rfl rfl (by omega) (by omega) rfl ?_ | refine J.bin rfl rfl rfl rfl ?_)
          refine J.move rfl rfl ?_
          refine J.nil ?_
          refine JX.thenN ?_
          refine JX.again (j + 1) ?_ ?_ ?_
          · omega
          · exact ⟨rfl, rfl, rfl, rfl, rfl, rfl, rfl, trivial⟩
          · exact fun w1 hw => ⟨hltj, hw.drop (List.sublist_cons_self _ _)⟩
    · skip
      have hge9 : j = (ordE L).length := by simp at h9; omega
      refine JC.exit ?_
      refine JX.thenE ?_
      refine JX.thenE ?_
      refine JX.blockE ?_
      refine JX.thenN (hK43 _ _ ?_)
      refine JC.seq (fun K51 hK51 => ?_)
      refine JC.region ?_
      refine J.move rfl rfl ?_
      refine J.lenS rfl Ty.u62 rfl rfl ?_
      refine J.move rfl rfl ?_
      refine J.lenS rfl Ty.u62 rfl rfl ?_
      refine J.bin rfl rfl rfl rfl ?_
      refine J.name 139 rfl (show _ = Value.bool true by rw [hol]; simp) ?_
      refine J.assign rfl rfl ?_
      refine J.nil ?_
      refine JX.thenN (hK51 _ _ ?_)
      refine JC.ret ?_
      refine JX.ret1 rfl rfl (fun w hw => ?_)
      exact ⟨rfl, (hw.drop (List.nil_sublist _)).below⟩

theorem tableRooms_walk (w : World) (n : Int) (hn : (Lit.int .i64 n).wf = true) (o : Sl OV) (ho : RSl 53 88 ROp w [o.v] o) :
    Calls Try.prog 9 [.int .i64 n, o.v].toArray w fun r w' => r = .returned (.bool true) ∧ Bel w w' := tableRooms_spec n o.v o.xs w (rslG cO_length (by omega) (fun _ _ _ h => h.1) ho) (rslG_all (fun _ _ _ h => h.2) ho) (rslO_len ho)
end Go.Proofs.Ytpldpkdlloolkaa
