/-
  TablePlays: the walk.
-/
import Derived.Test.YtpldpkdlloolkaaUn
namespace Go.Proofs.Ytpldpkdlloolkaa
open Go.J Go.RowKit
set_option linter.unusedVariables false
set_option linter.unusedSimpArgs false
set_option maxRecDepth 4000
theorem ok_zE : okE zE := ⟨okN1 (by decide) (by decide), okN1 (by decide) (by decide), okN1 (by decide) (by decide)⟩
theorem getD_okE {L : List EV} {es : Array MapEntry} {clock : Nat} (hT : Tab L es clock) (p : PV) : okE ((tget L p).getD zE) := by
  cases h : tget L p with
  | none => exact ok_zE
  | some y => exact hT.ok y (List.mem_of_find?_eq_some h)
theorem fO_length (xs : List OV) : (fO xs).length = xs.length * 53 := fG_length cO_length xs

set_option maxHeartbeats 2000000 in
theorem tablePlays_spec (n : Int) (v : Value) (os : List OV) (w : World) (hrv : Row w v os.length (fO os)) (hok : ∀ x, x ∈ os → okO x) (hxl : os.length ≤ 1954687338213) :
    Calls Try.prog 10 [.int .i64 n, v].toArray w fun r w' => r = .returned (.bool true) ∧ Bel w w' := by
  obtain ⟨ao, co_, rfl, hcv, _⟩ := id hrv
  obtain ⟨mo, hmo⟩ : ∃ mo, min (max n 0) 128 = mo := ⟨_, rfl⟩
  have hmb : mo ≤ 128 := by omega
  have hmb0 : 0 ≤ mo := by omega
  have hvr0 : Vec 34 51 (.slice none 0 0) (ordE []).length (fE (ordE [])) [] := by rw [show ordE [] = [] from by simp [ordE]]; exact Vec.nil _ _
  refine calls_of_J (args := [.int .i64 n, .slice ao os.length co_]) (e := [(0, .int .i64 n), (1, .slice ao os.length co_)]) Try.func10 rfl rfl ⟨rfl, rfl, trivial⟩ (St.start w) ?_
  refine JC.seq (fun K0 hK0 => ?_)
  refine JC.region ?_
  refine J.assign rfl rfl ?_
  refine J.nil ?_
  refine JX.thenN (hK0 _ _ ?_)
  refine JC.seq (fun K1 hK1 => ?_)
  refine JC.region ?_
  refine J.move rfl rfl ?_
  refine J.perm ([] ++ ([])) (.refl _) ?_
  refine J.callS (α := Nat × Nat) (V := fun x => .pointer (some ⟨x.1, 0, none⟩)) (Pr := fun _ => True) (L := fun x => [(x.1, tabO (min (max (n) 0) 128) x.2), (x.2, .map #[] 0)]) (l1 := []) Ty.bd16 rfl rfl (fun w1 hw => (new_spec n w1).mono fun _ _ ⟨x, h1, h2⟩ => ⟨x, h1, trivial, h2⟩) (fun x _ => ?_)
  obtain ⟨t1, m1⟩ := x
  simp only [List.cons_append, List.nil_append]
  rw [hmo]
  refine J.assign rfl rfl ?_
  refine J.nil ?_
  refine JX.thenN (hK1 _ _ ?_)
  refine JC.seq (fun K2 hK2 => ?_)
  refine JC.region ?_
  refine J.move rfl rfl ?_
  refine J.perm ([] ++ ((t1, tabO mo m1) :: (m1, .map #[] 0) :: [])) (.refl _) ?_
  refine J.callS (α := Nat) (V := fun x => .pointer (some ⟨x, 0, none⟩)) (Pr := fun _ => True) (L := fun x => [(x, rtabO (.slice none 0 0) (min (max (n) 0) 128))]) (l1 := []) Ty.bd37 rfl rfl (fun w1 hw => (rnew_spec n w1).mono fun _ _ ⟨x, h1, h2⟩ => ⟨x, h1, trivial, h2⟩) (fun rt _ => ?_)
  simp only [List.cons_append, List.nil_append]
  rw [hmo]
  refine J.assign rfl rfl ?_
  refine J.nil ?_
  refine JX.thenN (hK2 _ _ ?_)
  refine JC.seq (fun K3 hK3 => ?_)
  refine JC.seq (fun K4 hK4 => ?_)
  refine JC.region ?_
  refine J.move rfl rfl ?_
  refine J.eqNil Ty.u29 rfl rfl rfl ?_
  refine J.move rfl rfl ?_
  first
    | (refine J.skip rfl rfl rfl rfl rfl ?_)
    | (refine J.skipU rfl rfl rfl rfl ?_)
    | (refine J.unguard rfl rfl rfl ?_; refine J.callB (v := .bool true) (fun w1 w2 hw hb => hw.step hb) Ty.bd24 rfl rfl (fun w1 hw => fixed12_spec w1) ?_)
  first
    | (refine J.skip rfl rfl rfl rfl rfl ?_)
    | (refine J.skipU rfl rfl rfl rfl ?_)
    | (refine J.unguard rfl rfl rfl ?_; refine J.not rfl rfl ?_)
  (first | refine J.pickT rfl rfl rfl ?_ | refine J.pickF rfl rfl rfl ?_)
  refine J.nil ?_
  refine JX.thenN (hK4 _ _ ?_)
  first | refine JC.condF rfl ?_ | refine JC.cond rfl (fun h => by first | (exfalso; simp at h; omega) | (simp at h)) (fun _ => ?_)
  refine JC.skip ?_
  refine JX.thenN (hK3 _ _ ?_)
  refine JC.seq (fun K5 hK5 => ?_)
  refine JC.seq (fun K6 hK6 => ?_)
  refine JC.region ?_
  refine J.move rfl rfl ?_
  refine J.lenS rfl Ty.u74 rfl rfl ?_
  refine J.move rfl rfl ?_
  refine J.nil ?_
  refine JX.thenN (hK6 _ _ ?_)
  refine JC.block ?_
  refine JC.conseq (JC.cov (f := (fun st => [(5, .pointer (some ⟨t1, 0, none⟩)), (6, .pointer (some ⟨rt, 0, none⟩)), (27, .slice ao os.length co_), (28, .int .i64 ((os.length : Nat) : Int)), (29, .int .i64 ((st.1 : Nat) : Int))]) ((0, [], #[], 0, .slice none 0 0, []) : Nat × List EV × Array MapEntry × Nat × Value × List (Nat × Obj))) ⟨rfl, rfl, rfl, rfl, rfl, trivial⟩ (JC.loop (α := Nat × List EV × Array MapEntry × Nat × Value × List (Nat × Obj)) (fun st => [(5, .pointer (some ⟨t1, 0, none⟩)), (6, .pointer (some ⟨rt, 0, none⟩)), (27, .slice ao os.length co_), (28, .int .i64 ((os.length : Nat) : Int)), (29, .int .i64 ((st.1 : Nat) : Int))]) (fun st w' => (st.1 ≤ os.length ∧ (Tab st.2.1 st.2.2.1 st.2.2.2.1 ∧ GoodL st.2.1 mo ∧ Vec 34 51 st.2.2.2.2.1 (ordE st.2.1).length (fE (ordE st.2.1)) st.2.2.2.2.2)) ∧ St w [] ((t1, tabO mo m1) :: (m1, .map st.2.2.1 st.2.2.2.1) :: (rt, rtabO st.2.2.2.2.1 mo) :: st.2.2.2.2.2) w') (fun st => os.length - st.1) ((0, [], #[], 0, .slice none 0 0, []) : Nat × List EV × Array MapEntry × Nat × Value × List (Nat × Obj)) (fun st => ?_))) (fun w hw => ⟨⟨Nat.zero_le _, Tab.nil, laidL_good mo [], hvr0⟩, hw.perm (by (refine perm_cnt (fun _ => ?_)); simp only [cntB_append, cntB_cons, cntB_nil, Nat.add_zero, Nat.zero_add]; try ac_rfl)⟩)
  obtain ⟨i, L, es, ck, vr, lr⟩ := st
  refine JC.pr (fun hx1 => ?_)
  obtain ⟨hi, hT, hgood, hvr⟩ := hx1
  simp only at hi hT hgood hvr ⊢
  obtain ⟨ar, cr, rfl, hcr⟩ := hvr.form
  have hlen := hgood.len
  have hol := (ordE_perm L).length_eq
  have hl128 : L.length ≤ 128 := by omega
  have ho128 : (ordE L).length ≤ 128 := by omega
  refine JC.seq (fun K7 hK7 => ?_)
  refine JC.region ?_
  refine J.bin rfl rfl rfl rfl ?_
  refine J.nil ?_
  refine JX.thenN (hK7 _ _ ?_)
  refine JC.seq (fun K8 hK8 => ?_)
  refine JC.cond rfl (fun h1 => ?_) (fun h1 => ?_)
  · skip
    have hlt : i < os.length := by simp at h1; omega
    have hflo := fO_length os
    have hclo := (Row.some hrv (by omega))
    obtain ⟨qx, ox, cx', hqe, _, _⟩ := hclo
    simp only [Value.slice.injEq] at hqe
    obtain ⟨rfl, _, rfl⟩ := hqe
    obtain ⟨oo, hoe⟩ : ∃ x, os[i]? = some x := ⟨_, List.getElem?_eq_getElem hlt⟩
    have hoo := hok oo (List.mem_of_getElem? hoe)
    refine JC.skip ?_
    refine JX.thenN (hK8 _ _ ?_)
    refine JC.seq (fun K9 hK9 => ?_)
    refine JC.block ?_
    refine JC.seq (fun K10 hK10 => ?_)
    refine JC.region ?_
    refine J.move rfl rfl ?_
    refine J.indexAddrS Ty.el74 Ty.s76 rfl rfl (by omega) (by omega) rfl ?_
    refine J.loadA (vs := cO oo) Ty.a76 Ty.s76 rfl rfl (fun w1 hw => rowG_at cO_length (hrv.below (hw.drop (List.nil_sublist _)).below) hoe (by omega)) rfl ?_
    refine J.alloc Ty.zO_ rfl rfl (fun b8 => ?_)
    refine J.assign rfl rfl ?_
    refine J.storeW (cs := cO zO) (vs := cO oo) Ty.s76 rfl rfl rfl rfl rfl (one_cO _) .here ?_
    refine J.nil ?_
    refine JX.thenN (hK10 _ _ ?_)
    refine JC.seq (fun K11 hK11 => ?_)
    refine JC.seq (fun K12 hK12 => ?_)
    refine JC.region ?_
    refine J.move rfl rfl ?_
    refine J.bin rfl rfl rfl rfl ?_
    refine J.nil ?_
    refine JX.thenN (hK12 _ _ ?_)
    refine JC.cond rfl (fun h2 => ?_) (fun h2 => ?_)
    · skip
      refine JC.conseq (I' := St w [] ((t1, tabO mo m1) :: (m1, .map es ck) :: (rt, rtabO (.slice ar (ordE L).length cr) mo) :: lr)) ?_ (fun w1 hw => hw.drop (List.sublist_cons_self _ _))
      refine JC.exit ?_
      refine JX.thenE ?_
      refine JX.blockO rfl ?_
      refine JX.thenE ?_
      refine JX.thenE ?_
      refine JX.blockE ?_
      refine JX.thenN (hK5 _ _ ?_)
      refine JC.seq (fun K13 hK13 => ?_)
      apply JC.drawX (α := Value × List (Nat × Obj)) 7 (fun x => match x with | ⟨vz, lz⟩ => [.pointer (some ⟨t1, 0, none⟩), vz, .pointer (some ⟨rt, 0, none⟩), .pointer (some ⟨rt, 0, none⟩), .pointer (some ⟨rt, 0 + 0, none⟩), .slice ar (ordE L).length cr, .bool true]) (fun m x => match x with | ⟨vz, lz⟩ => fun w1 => (m 1 = true → Vec 34 51 vz ((ordE L)).length (fE ((ordE L))) lz) ∧ St w [] ((t1, tabO mo m1) :: (m1, .map es ck) :: (rt, rtabO (.slice ar (ordE L).length cr) mo) :: ((bif m 1 then lz else []) ++ lr)) w1) Ty.mixed rfl rfl rfl (by kernel_rfl) rfl rfl ?hinit ?hstep ?htail
      case hinit => exact fun w1 hw => ⟨(.slice none 0 0, []), fun h => (by cases h), hw.drew⟩
      case hstep =>
        refine ⟨fun m x hm hp => ?_, fun m x hm hp => ?_, fun m x hm hp => ?_, fun m x hm hp => ?_, fun m x hm hp => ?_, fun m x hm hp => ?_, fun m x hm hp => ?_, trivial⟩
        · skip
          obtain ⟨vz, lz⟩ := x
          show J _ _ _ _ _ (_) (fun w1 => (m 1 = true → Vec 34 51 vz ((ordE L)).length (fE ((ordE L))) lz) ∧ St w [] ((t1, tabO mo m1) :: (m1, .map es ck) :: (rt, rtabO (.slice ar (ordE L).length cr) mo) :: ((bif m 1 then lz else []) ++ lr)) w1)
          refine J.pr (fun hF => ?_)
          refine J.move rfl rfl ?_
          exact J.nil (JX.finB rfl (fun w1 hw => ⟨⟨⟨vz, lz⟩, rfl, fun _ _ _ => rfl, hF, hw⟩, trivial⟩))
        · skip
          obtain ⟨vz, lz⟩ := x
          show J _ _ _ _ _ ((142, .pointer (some ⟨t1, 0, none⟩)) :: _) (fun w1 => (m 1 = true → Vec 34 51 vz ((ordE L)).length (fE ((ordE L))) lz) ∧ St w [] ((t1, tabO mo m1) :: (m1, .map es ck) :: (rt, rtabO (.slice ar (ordE L).length cr) mo) :: ((bif m 1 then lz else []) ++ lr)) w1)
          refine J.pr (fun hF => ?_)
          refine J.conseq (I' := St w [] ((t1, tabO mo m1) :: (m1, .map es ck) :: (rt, rtabO (.slice ar (ordE L).length cr) mo) :: lr)) ?_ (fun w1 hw => by simp only [hm, cond_true, cond_false, List.nil_append] at hw; exact hw)
          refine J.perm ([] ++ ((t1, tabO mo m1) :: (m1, .map es ck) :: (rt, rtabO (.slice ar (ordE L).length cr) mo) :: lr)) (.refl _) ?_
          refine J.callS (α := Value × List (Nat × Obj)) (V := (·.1)) (Pr := fun x => Vec 34 51 x.1 ((ordE L)).length (fE ((ordE L))) x.2) (L := (·.2)) (l1 := []) Ty.bd25 rfl rfl (fun w1 hw => all_spec t1 m1 mo (L) es ck w1 (hw.own _ (.head _)) (hw.own _ (.tail _ (.head _))) hT (by omega)) (fun x hvn => ?_)
          obtain ⟨vn, ln⟩ := x
          simp only at hvn ⊢
          refine J.nil (JX.finB rfl (fun w1 hw => ⟨⟨⟨vn, ln⟩, rfl, fun j h1 h2 => ?_, ?_⟩, trivial⟩))
          · match j, h1 with
            | 0, _ => (first | rfl | trivial)
            | 1, _ => exact absurd (h2.symm.trans hm) (by decide)
            | 2, _ => (first | rfl | trivial)
            | 3, _ => (first | rfl | trivial)
            | 4, _ => (first | rfl | trivial)
            | 5, _ => (first | rfl | trivial)
            | 6, _ => (first | rfl | trivial)
            | j + 7, h1 => omega
          show (true = true → Vec 34 51 vn ((ordE L)).length (fE ((ordE L))) ln) ∧ St w [] ((t1, tabO mo m1) :: (m1, .map es ck) :: (rt, rtabO (.slice ar (ordE L).length cr) mo) :: ((bif true then ln else []) ++ lr)) w1
          simp only [hm, cond_true, cond_false] at hw ⊢
          exact ⟨fun _ => hvn, hw.perm (by (refine perm_cnt (fun _ => ?_)); simp only [cntB_append, cntB_cons, cntB_nil, Nat.add_zero, Nat.zero_add]; try ac_rfl)⟩
        · skip
          obtain ⟨vz, lz⟩ := x
          show J _ _ _ _ _ (_) (fun w1 => (m 1 = true → Vec 34 51 vz ((ordE L)).length (fE ((ordE L))) lz) ∧ St w [] ((t1, tabO mo m1) :: (m1, .map es ck) :: (rt, rtabO (.slice ar (ordE L).length cr) mo) :: ((bif m 1 then lz else []) ++ lr)) w1)
          refine J.pr (fun hF => ?_)
          refine J.move rfl rfl ?_
          exact J.nil (JX.finB rfl (fun w1 hw => ⟨⟨⟨vz, lz⟩, rfl, fun _ _ _ => rfl, hF, hw⟩, trivial⟩))
        · skip
          obtain ⟨vz, lz⟩ := x
          show J _ _ _ _ _ ((144, .pointer (some ⟨rt, 0, none⟩)) :: _) (fun w1 => (m 1 = true → Vec 34 51 vz ((ordE L)).length (fE ((ordE L))) lz) ∧ St w [] ((t1, tabO mo m1) :: (m1, .map es ck) :: (rt, rtabO (.slice ar (ordE L).length cr) mo) :: ((bif m 1 then lz else []) ++ lr)) w1)
          refine J.pr (fun hF => ?_)
          refine J.nilCheck rfl rfl ?_
          exact J.nil (JX.finB rfl (fun w1 hw => ⟨⟨⟨vz, lz⟩, rfl, fun _ _ _ => rfl, hF, hw⟩, trivial⟩))
        · skip
          obtain ⟨vz, lz⟩ := x
          show J _ _ _ _ _ ((145, .pointer (some ⟨rt, 0, none⟩)) :: _) (fun w1 => (m 1 = true → Vec 34 51 vz ((ordE L)).length (fE ((ordE L))) lz) ∧ St w [] ((t1, tabO mo m1) :: (m1, .map es ck) :: (rt, rtabO (.slice ar (ordE L).length cr) mo) :: ((bif m 1 then lz else []) ++ lr)) w1)
          refine J.pr (fun hF => ?_)
          refine J.fieldAddr Ty.fd82_0 rfl rfl ?_
          exact J.nil (JX.finB rfl (fun w1 hw => ⟨⟨⟨vz, lz⟩, rfl, fun _ _ _ => rfl, hF, hw⟩, trivial⟩))
        · skip
          obtain ⟨vz, lz⟩ := x
          show J _ _ _ _ _ ((146, .pointer (some ⟨rt, 0 + 0, none⟩)) :: _) (fun w1 => (m 1 = true → Vec 34 51 vz ((ordE L)).length (fE ((ordE L))) lz) ∧ St w [] ((t1, tabO mo m1) :: (m1, .map es ck) :: (rt, rtabO (.slice ar (ordE L).length cr) mo) :: ((bif m 1 then lz else []) ++ lr)) w1)
          refine J.pr (fun hF => ?_)
          refine J.load1 (v := .slice ar (ordE L).length cr) Ty.a62 rfl (fun w1 hw => by rw [cell_of (hw.own _ (.tail _ (.tail _ (.head _))))]; rfl) rfl ?_
          exact J.nil (JX.finB rfl (fun w1 hw => ⟨⟨⟨vz, lz⟩, rfl, fun _ _ _ => rfl, hF, hw⟩, trivial⟩))
        · skip
          obtain ⟨vz, lz⟩ := x
          show J _ _ _ _ _ ((143, vz) :: (147, .slice ar (ordE L).length cr) :: (143, vz) :: _) (fun w1 => (m 1 = true → Vec 34 51 vz ((ordE L)).length (fE ((ordE L))) lz) ∧ St w [] ((t1, tabO mo m1) :: (m1, .map es ck) :: (rt, rtabO (.slice ar (ordE L).length cr) mo) :: ((bif m 1 then lz else []) ++ lr)) w1)
          have hp1 : m 1 = true := predsT hp (by kernel_rfl)
          have hp1 : m 1 = true := predsT hp (by kernel_rfl)
          refine J.pr (fun hF => ?_)
          refine J.callB (v := .bool true) (fun w1 w2 hw hb => hw.step hb) Ty.bd26 rfl rfl (fun w1 hw => (by have h := rsame_spec _ _ ((ordE L)) ((ordE L)) w1 (vec_rowM (l := (t1, tabO mo m1) :: (m1, .map es ck) :: (rt, rtabO (.slice ar (ordE L).length cr) mo) :: (lz ++ lr)) (hF hp1) (by simp only [hp1, cond_true] at hw; exact hw) (fun q hq => by first | (simp [hq]; done) | (simp at hq; simp [hq]; done) | (simp at hq; subst hq; simp))) (vec_rowM (l := (t1, tabO mo m1) :: (m1, .map es ck) :: (rt, rtabO (.slice ar (ordE L).length cr) mo) :: (lz ++ lr)) hvr (by simp only [hp1, cond_true] at hw; exact hw) (fun q hq => by first | (simp [hq]; done) | (simp at hq; simp [hq]; done) | (simp at hq; subst hq; simp))) (ordE_ok hT) (ordE_ok hT) (by omega) (by omega); simpa using h)) ?_
          exact J.nil (JX.finB rfl (fun w1 hw => ⟨⟨⟨vz, lz⟩, rfl, fun _ _ _ => rfl, hF, hw⟩, trivial⟩))
      case htail =>
        intro x
        obtain ⟨vz, lz⟩ := x
        show J _ _ _ _ _ ((148, .bool true) :: (147, .slice ar (ordE L).length cr) :: (146, .pointer (some ⟨rt, 0 + 0, none⟩)) :: (145, .pointer (some ⟨rt, 0, none⟩)) :: (144, .pointer (some ⟨rt, 0, none⟩)) :: (143, vz) :: (142, .pointer (some ⟨t1, 0, none⟩)) :: _) (fun w1 => (true = true → Vec 34 51 vz ((ordE L)).length (fE ((ordE L))) lz) ∧ St w [] ((t1, tabO mo m1) :: (m1, .map es ck) :: (rt, rtabO (.slice ar (ordE L).length cr) mo) :: ((bif true then lz else []) ++ lr)) w1)
        refine J.pr (fun hF => ?_)
        refine J.assign rfl rfl ?_
        refine J.nil ?_
        refine JX.thenN (hK13 _ _ ?_)
        refine JC.ret ?_
        refine JX.ret1 rfl rfl (fun w hw => ?_)
        exact ⟨rfl, (hw.drop (List.nil_sublist _)).below⟩
    · skip
      try simp only [decide_eq_true_eq, decide_eq_false_iff_not, beq_iff_eq, bne_iff_ne, bne_eq_false_iff_eq, ne_eq, beq_eq_false_iff_ne, Bool.not_eq_true, Bool.not_eq_false, Int.not_lt, Int.not_le] at h2
      refine JC.skip ?_
      refine JX.thenN (hK11 _ _ ?_)
      refine JC.seqCut (α := List EV × Array MapEntry × Nat × Value × List (Nat × Obj)) (fun zz => [(5, .pointer (some ⟨t1, 0, none⟩)), (6, .pointer (some ⟨rt, 0, none⟩)), (27, .slice (some ⟨qx, ox, none⟩) os.length co_), (28, .int .i64 ((os.length : Nat) : Int)), (29, .int .i64 ((i : Nat) : Int))]) (fun zz w' => (Tab zz.1 zz.2.1 zz.2.2.1 ∧ GoodL zz.1 mo ∧ Vec 34 51 zz.2.2.2.1 (ordE zz.1).length (fE (ordE zz.1)) zz.2.2.2.2) ∧ St w [] ((t1, tabO mo m1) :: (m1, .map zz.2.1 zz.2.2.1) :: (rt, rtabO zz.2.2.2.1 mo) :: zz.2.2.2.2) w') (fun zz => ?_) (fun K14 hK14 => ?_)
      · skip
        obtain ⟨L, es, ck, vr, lr⟩ := zz
        refine JC.pr (fun hz => ?_)
        obtain ⟨hT, hgood, hvr⟩ := hz
        simp only at hT hgood hvr ⊢
        obtain ⟨ar, cr, rfl, hcr⟩ := hvr.form
        have hlen := hgood.len
        have hol := (ordE_perm L).length_eq
        have hl128 : L.length ≤ 128 := by omega
        have ho128 : (ordE L).length ≤ 128 := by omega
        refine JC.seq (fun K15 hK15 => ?_)
        apply JC.drawL 8 [Eqv (.pointer (some ⟨t1, 0, none⟩)), Eqv (.int .i64 ((L.length : Nat) : Int)), Eqv (.pointer (some ⟨rt, 0, none⟩)), Eqv (.pointer (some ⟨rt, 0, none⟩)), Eqv (.pointer (some ⟨rt, 0 + 0, none⟩)), Eqv (.slice ar (ordE L).length cr), Eqv (.int .i64 (((ordE L).length : Nat) : Int)), Eqv (.bool false)] Ty.mixed rfl rfl rfl (by kernel_rfl) rfl rfl (fun w w' hw hb => hw.step hb) ⟨fun _ _ _ h _ => h, fun _ _ _ h _ => h, fun _ _ _ h _ => h, fun _ _ _ h _ => h, fun _ _ _ h _ => h, fun _ _ _ h _ => h, fun _ _ _ h _ => h, fun _ _ _ h _ => h, trivial⟩ ?hstep ?htail
        case hstep =>
          refine ⟨fun wi => ?_, fun wi => ?_, fun wi => ?_, fun wi => ?_, fun wi => ?_, fun wi => ?_, fun wi => ?_, fun wi => ?_, trivial⟩
          · skip
            refine Fin.nil ?_
            refine J.move rfl rfl ?_
            refine J.nil (JX.fin rfl (fun w hw => ⟨rfl, (by rw [hw.1]; exact Bel.refl _)⟩))
          · skip
            refine Fin.cons (fun v31_0 => ?_)
            refine Fin.nil ?_
            refine J.prE (fun h => ?_); subst h
            refine J.callD (v := .int .i64 ((L.length : Nat) : Int)) Ty.bd20 rfl rfl (fun w1 hw => len_spec t1 m1 mo L es ck w1 (St.owns (l1 := [(t1, tabO mo m1), (m1, .map es ck)]) hw) hT) ?_
            refine J.nil (JX.fin rfl (fun w hw => ⟨rfl, hw⟩))
          · skip
            refine Fin.nil ?_
            refine J.move rfl rfl ?_
            refine J.nil (JX.fin rfl (fun w hw => ⟨rfl, (by rw [hw.1]; exact Bel.refl _)⟩))
          · skip
            refine Fin.cons (fun v31_2 => ?_)
            refine Fin.nil ?_
            refine J.prE (fun h => ?_); subst h
            refine J.nilCheck rfl rfl ?_
            refine J.nil (JX.fin rfl (fun w hw => ⟨rfl, (by rw [hw.1]; exact Bel.refl _)⟩))
          · skip
            refine Fin.cons (fun v31_3 => ?_)
            refine Fin.nil ?_
            refine J.prE (fun h => ?_); subst h
            refine J.fieldAddr Ty.fd82_0 rfl rfl ?_
            refine J.nil (JX.fin rfl (fun w hw => ⟨rfl, (by rw [hw.1]; exact Bel.refl _)⟩))
          · skip
            refine Fin.cons (fun v31_4 => ?_)
            refine Fin.nil ?_
            refine J.prE (fun h => ?_); subst h
            refine J.load1 (v := .slice ar (ordE L).length cr) Ty.a62 rfl (fun w1 hw => by rw [cell_of (hw.2.own _ (.tail _ (.tail _ (.head _))))]; rfl) rfl ?_
            refine J.nil (JX.fin rfl (fun w hw => ⟨rfl, (by rw [hw.1]; exact Bel.refl _)⟩))
          · skip
            refine Fin.cons (fun v31_5 => ?_)
            refine Fin.nil ?_
            refine J.prE (fun h => ?_); subst h
            refine J.lenS rfl Ty.u62 rfl rfl ?_
            refine J.nil (JX.fin rfl (fun w hw => ⟨rfl, (by rw [hw.1]; exact Bel.refl _)⟩))
          · skip
            refine Fin.cons (fun v31_1 => ?_)
            refine Fin.cons (fun v31_6 => ?_)
            refine Fin.nil ?_
            refine J.prE (fun h => ?_); subst h
            refine J.prE (fun h => ?_); subst h
            refine J.bin rfl rfl rfl rfl ?_
            refine J.name 140 rfl (show _ = Value.bool false by rw [hol]; simp) ?_
            refine J.nil (JX.fin rfl (fun w hw => ⟨rfl, (by rw [hw.1]; exact Bel.refl _)⟩))
        case htail =>
          refine Fin.cons (fun v31_0 => ?_)
          refine Fin.cons (fun v31_1 => ?_)
          refine Fin.cons (fun v31_2 => ?_)
          refine Fin.cons (fun v31_3 => ?_)
          refine Fin.cons (fun v31_4 => ?_)
          refine Fin.cons (fun v31_5 => ?_)
          refine Fin.cons (fun v31_6 => ?_)
          refine Fin.cons (fun v31_7 => ?_)
          refine Fin.nil ?_
          refine J.prE (fun h => ?_); subst h
          refine J.prE (fun h => ?_); subst h
          refine J.prE (fun h => ?_); subst h
          refine J.prE (fun h => ?_); subst h
          refine J.prE (fun h => ?_); subst h
          refine J.prE (fun h => ?_); subst h
          refine J.prE (fun h => ?_); subst h
          refine J.prE (fun h => ?_); subst h
          refine J.nil ?_
          refine JX.thenN (hK15 _ _ ?_)
          first | refine JC.condF rfl ?_ | refine JC.cond rfl (fun h => by first | (exfalso; simp at h; omega) | (simp at h)) (fun _ => ?_)
          refine JC.skip ?_
          refine JX.blockN ?_
          refine JX.thenN (hK9 _ _ ?_)
          refine JC.region ?_
          (first | refine J.addN rfl rfl (by omega) (by omega) rfl ?_ | refine J.bin rfl rfl rfl rfl ?_)
          refine J.move rfl rfl ?_
          refine J.nil ?_
          refine JX.thenN ?_
          refine JX.again ((i + 1, L, es, ck, .slice ar (ordE L).length cr, lr) : Nat × List EV × Array MapEntry × Nat × Value × List (Nat × Obj)) ?_ ?_ ?_
          · simp only; omega
          · exact ⟨rfl, rfl, rfl, rfl, rfl, trivial⟩
          · exact fun w1 hw => ⟨⟨hlt, hT, hgood, hvr⟩, hw⟩
      · skip
        refine JC.seq (fun K16 hK16 => ?_)
        refine JC.region ?_
        refine J.fieldAddr Ty.fd76_0 rfl rfl ?_
        refine J.load1 (v := .int .i64 oo.k) Ty.a3 rfl (fun w1 hw => by rw [cell_of (hw.own _ (.head _))]; rfl) rfl ?_
        refine J.nil ?_
        refine JX.thenN (hK16 _ _ ?_)
        refine JC.block ?_
        refine JC.seq (fun K17 hK17 => ?_)
        refine JC.region ?_
        refine J.bin rfl rfl rfl rfl ?_
        refine J.assign rfl rfl ?_
        refine J.nil ?_
        refine JX.thenN (hK17 _ _ ?_)
        refine JC.cond rfl (fun h3 => ?_) (fun h3 => ?_)
        · skip
          try simp only [decide_eq_true_eq, decide_eq_false_iff_not, beq_iff_eq, bne_iff_ne, bne_eq_false_iff_eq, ne_eq, beq_eq_false_iff_ne, Bool.not_eq_true, Bool.not_eq_false, Int.not_lt, Int.not_le] at h3
          refine JC.seq (fun K18 hK18 => ?_)
          apply JC.drawX (α := Array MapEntry × Nat × Value × List (Nat × Obj)) 9 (fun x => match x with | ⟨es3, ck3, v53, l53⟩ => [.pointer (some ⟨t1, 0, none⟩), .pointer (some ⟨b8, 0 + 2, none⟩), .agg (cE oo.x).toArray, .int .i64 (tadd L mo oo.x).1, .pointer (some ⟨rt, 0, none⟩), .pointer (some ⟨b8, 0 + 2, none⟩), .agg (cE oo.x).toArray, .int .i64 (tadd L mo oo.x).1, .bool false]) (fun m x => match x with | ⟨es3, ck3, v53, l53⟩ => fun w1 => ((m 3 = true → Tab (tadd L mo oo.x).2 es3 ck3) ∧ (m 7 = true → m 3 = true) ∧ (m 7 = true → Vec 34 51 v53 (ordE (tadd L mo oo.x).2).length (fE (ordE (tadd L mo oo.x).2)) l53)) ∧ St w [] ((b8, cb (cO oo) 76) :: (t1, tabO mo m1) :: (m1, .map (bif m 3 then es3 else es) (bif m 3 then ck3 else ck)) :: (rt, rtabO (bif m 7 then v53 else .slice ar (ordE L).length cr) mo) :: (bif m 7 then l53 else lr)) w1) Ty.mixed rfl rfl rfl (by kernel_rfl) rfl rfl ?hinit ?hstep ?htail
          case hinit => exact fun w1 hw => ⟨(#[], 0, .slice none 0 0, []), ⟨fun h => (by cases h), fun h => (by cases h), fun h => (by cases h)⟩, hw.drew⟩
          case hstep =>
            refine ⟨fun m x hm hp => ?_, fun m x hm hp => ?_, fun m x hm hp => ?_, fun m x hm hp => ?_, fun m x hm hp => ?_, fun m x hm hp => ?_, fun m x hm hp => ?_, fun m x hm hp => ?_, fun m x hm hp => ?_, trivial⟩
            · skip
              obtain ⟨es3, ck3, v53, l53⟩ := x
              show J _ _ _ _ _ (_) (fun w1 => ((m 3 = true → Tab (tadd L mo oo.x).2 es3 ck3) ∧ (m 7 = true → m 3 = true) ∧ (m 7 = true → Vec 34 51 v53 (ordE (tadd L mo oo.x).2).length (fE (ordE (tadd L mo oo.x).2)) l53)) ∧ St w [] ((b8, cb (cO oo) 76) :: (t1, tabO mo m1) :: (m1, .map (bif m 3 then es3 else es) (bif m 3 then ck3 else ck)) :: (rt, rtabO (bif m 7 then v53 else .slice ar (ordE L).length cr) mo) :: (bif m 7 then l53 else lr)) w1)
              refine J.pr (fun hF => ?_)
              refine J.move rfl rfl ?_
              exact J.nil (JX.finB rfl (fun w1 hw => ⟨⟨⟨es3, ck3, v53, l53⟩, rfl, fun _ _ _ => rfl, hF, hw⟩, trivial⟩))
            · skip
              obtain ⟨es3, ck3, v53, l53⟩ := x
              show J _ _ _ _ _ (_) (fun w1 => ((m 3 = true → Tab (tadd L mo oo.x).2 es3 ck3) ∧ (m 7 = true → m 3 = true) ∧ (m 7 = true → Vec 34 51 v53 (ordE (tadd L mo oo.x).2).length (fE (ordE (tadd L mo oo.x).2)) l53)) ∧ St w [] ((b8, cb (cO oo) 76) :: (t1, tabO mo m1) :: (m1, .map (bif m 3 then es3 else es) (bif m 3 then ck3 else ck)) :: (rt, rtabO (bif m 7 then v53 else .slice ar (ordE L).length cr) mo) :: (bif m 7 then l53 else lr)) w1)
              refine J.pr (fun hF => ?_)
              refine J.fieldAddr Ty.fd76_2 rfl rfl ?_
              exact J.nil (JX.finB rfl (fun w1 hw => ⟨⟨⟨es3, ck3, v53, l53⟩, rfl, fun _ _ _ => rfl, hF, hw⟩, trivial⟩))
            · skip
              obtain ⟨es3, ck3, v53, l53⟩ := x
              show J _ _ _ _ _ ((47, .pointer (some ⟨b8, 0 + 2, none⟩)) :: _) (fun w1 => ((m 3 = true → Tab (tadd L mo oo.x).2 es3 ck3) ∧ (m 7 = true → m 3 = true) ∧ (m 7 = true → Vec 34 51 v53 (ordE (tadd L mo oo.x).2).length (fE (ordE (tadd L mo oo.x).2)) l53)) ∧ St w [] ((b8, cb (cO oo) 76) :: (t1, tabO mo m1) :: (m1, .map (bif m 3 then es3 else es) (bif m 3 then ck3 else ck)) :: (rt, rtabO (bif m 7 then v53 else .slice ar (ordE L).length cr) mo) :: (bif m 7 then l53 else lr)) w1)
              refine J.pr (fun hF => ?_)
              refine J.loadA (vs := cE oo.x) Ty.a34 Ty.s34 rfl rfl (fun w1 hw => Cells.of_block (hw.own _ (.head _)) rfl) rfl ?_
              exact J.nil (JX.finB rfl (fun w1 hw => ⟨⟨⟨es3, ck3, v53, l53⟩, rfl, fun _ _ _ => rfl, hF, hw⟩, trivial⟩))
            · skip
              obtain ⟨es3, ck3, v53, l53⟩ := x
              show J _ _ _ _ _ ((48, .agg (cE oo.x).toArray) :: (46, .pointer (some ⟨t1, 0, none⟩)) :: _) (fun w1 => ((m 3 = true → Tab (tadd L mo oo.x).2 es3 ck3) ∧ (m 7 = true → m 3 = true) ∧ (m 7 = true → Vec 34 51 v53 (ordE (tadd L mo oo.x).2).length (fE (ordE (tadd L mo oo.x).2)) l53)) ∧ St w [] ((b8, cb (cO oo) 76) :: (t1, tabO mo m1) :: (m1, .map (bif m 3 then es3 else es) (bif m 3 then ck3 else ck)) :: (rt, rtabO (bif m 7 then v53 else .slice ar (ordE L).length cr) mo) :: (bif m 7 then l53 else lr)) w1)
              refine J.pr (fun hF => ?_)
              have h7 : m 7 = false := by cases h : m 7 with
                | false => rfl
                | true => rw [hF.2.1 h] at hm; cases hm
              refine J.conseq (I' := St w [] ((b8, cb (cO oo) 76) :: (t1, tabO mo m1) :: (m1, .map es ck) :: (rt, rtabO (.slice ar (ordE L).length cr) mo) :: lr)) ?_ (fun w1 hw => by simp only [hm, h7, cond_true, cond_false, List.nil_append] at hw; exact hw)
              refine J.perm ([(t1, tabO mo m1), (m1, .map es ck)] ++ ((b8, cb (cO oo) 76) :: (rt, rtabO (.slice ar (ordE L).length cr) mo) :: lr)) (by (refine perm_cnt (fun _ => ?_)); simp only [cntB_append, cntB_cons, cntB_nil, Nat.add_zero, Nat.zero_add]; try ac_rfl) ?_
              refine J.callS (α := Array MapEntry × Nat) (V := fun _ => .int .i64 (tadd (L) mo oo.x).1) (Pr := fun y => Tab (tadd (L) mo oo.x).2 y.1 y.2) (L := fun y => [(t1, tabO mo m1), (m1, .map y.1 y.2)]) (l1 := [(t1, tabO mo m1), (m1, .map es ck)]) Ty.bd17 rfl rfl (fun w1 hw => (add_spec t1 m1 mo (L) es ck w1 hw.owns hT oo.x hoo.2.2).mono fun _ _ ⟨y, h1, h2, h3⟩ => ⟨y, h1, h2, h3⟩) (fun y hTn => ?_)
              obtain ⟨esn, ckn⟩ := y
              simp only [List.cons_append, List.nil_append] at hTn ⊢
              refine J.nil (JX.finB rfl (fun w1 hw => ⟨⟨⟨esn, ckn, v53, l53⟩, rfl, fun j h1 h2 => ?_, ?_⟩, trivial⟩))
              · match j, h1 with
                | 0, _ => (first | rfl | trivial)
                | 1, _ => (first | rfl | trivial)
                | 2, _ => (first | rfl | trivial)
                | 3, _ => (first | rfl | trivial)
                | 4, _ => (first | rfl | trivial)
                | 5, _ => (first | rfl | trivial)
                | 6, _ => (first | rfl | trivial)
                | 7, _ => (first | rfl | trivial)
                | 8, _ => (first | rfl | trivial)
                | j + 9, h1 => omega
              show ((true = true → Tab (tadd L mo oo.x).2 esn ckn) ∧ (m 7 = true → true = true) ∧ (m 7 = true → Vec 34 51 v53 (ordE (tadd L mo oo.x).2).length (fE (ordE (tadd L mo oo.x).2)) l53)) ∧ St w [] ((b8, cb (cO oo) 76) :: (t1, tabO mo m1) :: (m1, .map (bif true then esn else es) (bif true then ckn else ck)) :: (rt, rtabO (bif m 7 then v53 else .slice ar (ordE L).length cr) mo) :: (bif m 7 then l53 else lr)) w1
              simp only [hm, h7, cond_true, cond_false] at hw ⊢
              exact ⟨⟨fun _ => hTn, fun h => (by cases h), fun h => (by cases h)⟩, hw.perm (by (refine perm_cnt (fun _ => ?_)); simp only [cntB_append, cntB_cons, cntB_nil, Nat.add_zero, Nat.zero_add]; try ac_rfl)⟩
            · skip
              obtain ⟨es3, ck3, v53, l53⟩ := x
              show J _ _ _ _ _ (_) (fun w1 => ((m 3 = true → Tab (tadd L mo oo.x).2 es3 ck3) ∧ (m 7 = true → m 3 = true) ∧ (m 7 = true → Vec 34 51 v53 (ordE (tadd L mo oo.x).2).length (fE (ordE (tadd L mo oo.x).2)) l53)) ∧ St w [] ((b8, cb (cO oo) 76) :: (t1, tabO mo m1) :: (m1, .map (bif m 3 then es3 else es) (bif m 3 then ck3 else ck)) :: (rt, rtabO (bif m 7 then v53 else .slice ar (ordE L).length cr) mo) :: (bif m 7 then l53 else lr)) w1)
              refine J.pr (fun hF => ?_)
              refine J.move rfl rfl ?_
              exact J.nil (JX.finB rfl (fun w1 hw => ⟨⟨⟨es3, ck3, v53, l53⟩, rfl, fun _ _ _ => rfl, hF, hw⟩, trivial⟩))
            · skip
              obtain ⟨es3, ck3, v53, l53⟩ := x
              show J _ _ _ _ _ (_) (fun w1 => ((m 3 = true → Tab (tadd L mo oo.x).2 es3 ck3) ∧ (m 7 = true → m 3 = true) ∧ (m 7 = true → Vec 34 51 v53 (ordE (tadd L mo oo.x).2).length (fE (ordE (tadd L mo oo.x).2)) l53)) ∧ St w [] ((b8, cb (cO oo) 76) :: (t1, tabO mo m1) :: (m1, .map (bif m 3 then es3 else es) (bif m 3 then ck3 else ck)) :: (rt, rtabO (bif m 7 then v53 else .slice ar (ordE L).length cr) mo) :: (bif m 7 then l53 else lr)) w1)
              refine J.pr (fun hF => ?_)
              refine J.fieldAddr Ty.fd76_2 rfl rfl ?_
              exact J.nil (JX.finB rfl (fun w1 hw => ⟨⟨⟨es3, ck3, v53, l53⟩, rfl, fun _ _ _ => rfl, hF, hw⟩, trivial⟩))
            · skip
              obtain ⟨es3, ck3, v53, l53⟩ := x
              show J _ _ _ _ _ ((51, .pointer (some ⟨b8, 0 + 2, none⟩)) :: _) (fun w1 => ((m 3 = true → Tab (tadd L mo oo.x).2 es3 ck3) ∧ (m 7 = true → m 3 = true) ∧ (m 7 = true → Vec 34 51 v53 (ordE (tadd L mo oo.x).2).length (fE (ordE (tadd L mo oo.x).2)) l53)) ∧ St w [] ((b8, cb (cO oo) 76) :: (t1, tabO mo m1) :: (m1, .map (bif m 3 then es3 else es) (bif m 3 then ck3 else ck)) :: (rt, rtabO (bif m 7 then v53 else .slice ar (ordE L).length cr) mo) :: (bif m 7 then l53 else lr)) w1)
              refine J.pr (fun hF => ?_)
              refine J.loadA (vs := cE oo.x) Ty.a34 Ty.s34 rfl rfl (fun w1 hw => Cells.of_block (hw.own _ (.head _)) rfl) rfl ?_
              exact J.nil (JX.finB rfl (fun w1 hw => ⟨⟨⟨es3, ck3, v53, l53⟩, rfl, fun _ _ _ => rfl, hF, hw⟩, trivial⟩))
            · skip
              obtain ⟨es3, ck3, v53, l53⟩ := x
              show J _ _ _ _ _ ((49, .int .i64 (tadd L mo oo.x).1) :: (52, .agg (cE oo.x).toArray) :: (50, .pointer (some ⟨rt, 0, none⟩)) :: _) (fun w1 => ((m 3 = true → Tab (tadd L mo oo.x).2 es3 ck3) ∧ (m 7 = true → m 3 = true) ∧ (m 7 = true → Vec 34 51 v53 (ordE (tadd L mo oo.x).2).length (fE (ordE (tadd L mo oo.x).2)) l53)) ∧ St w [] ((b8, cb (cO oo) 76) :: (t1, tabO mo m1) :: (m1, .map (bif m 3 then es3 else es) (bif m 3 then ck3 else ck)) :: (rt, rtabO (bif m 7 then v53 else .slice ar (ordE L).length cr) mo) :: (bif m 7 then l53 else lr)) w1)
              have hp3 : m 3 = true := predsT hp (by kernel_rfl)
              refine J.pr (fun hF => ?_)
              refine J.conseq (I' := St w [] ((b8, cb (cO oo) 76) :: (t1, tabO mo m1) :: (m1, .map es3 ck3) :: (rt, rtabO (.slice ar (ordE L).length cr) mo) :: lr)) ?_ (fun w1 hw => by simp only [hm, hp3, cond_true, cond_false, List.nil_append] at hw; exact hw)
              refine J.perm ((((rt, rtabO (.slice ar (ordE L).length cr) mo)) :: lr) ++ ((b8, cb (cO oo) 76) :: (t1, tabO mo m1) :: (m1, .map es3 ck3) :: [])) (by (refine perm_cnt (fun _ => ?_)); simp only [cntB_append, cntB_cons, cntB_nil, Nat.add_zero, Nat.zero_add]; try ac_rfl) ?_
              refine J.callS (α := Value × List (Nat × Obj)) (V := fun _ => .int .i64 (tadd L mo oo.x).1) (Pr := fun y => Vec 34 51 y.1 (ordE (tadd L mo oo.x).2).length (fE (ordE (tadd L mo oo.x).2)) y.2) (L := fun y => (rt, rtabO y.1 mo) :: y.2) (l1 := (((rt, rtabO (.slice ar (ordE L).length cr) mo)) :: lr)) Ty.bd38 rfl rfl (fun w1 hw => (radd_spec rt _ mo (ordE L) lr w1 hw.owns hvr (ordE_ok hT) (by omega) oo.x hoo.2.2).mono fun _ _ ⟨y, h1, h2, h3⟩ => by rw [radd_ord hT.dist] at h1 h2; exact ⟨y, h1, h2, h3⟩) (fun y hvn => ?_)
              obtain ⟨vn, ln⟩ := y
              simp only [List.cons_append, List.nil_append] at hvn ⊢
              refine J.nil (JX.finB rfl (fun w1 hw => ⟨⟨⟨es3, ck3, vn, ln⟩, rfl, fun j h1 h2 => ?_, ?_⟩, trivial⟩))
              · match j, h1 with
                | 0, _ => (first | rfl | trivial)
                | 1, _ => (first | rfl | trivial)
                | 2, _ => (first | rfl | trivial)
                | 3, _ => (first | rfl | trivial)
                | 4, _ => (first | rfl | trivial)
                | 5, _ => (first | rfl | trivial)
                | 6, _ => (first | rfl | trivial)
                | 7, _ => (first | rfl | trivial)
                | 8, _ => (first | rfl | trivial)
                | j + 9, h1 => omega
              show ((m 3 = true → Tab (tadd L mo oo.x).2 es3 ck3) ∧ (true = true → m 3 = true) ∧ (true = true → Vec 34 51 vn (ordE (tadd L mo oo.x).2).length (fE (ordE (tadd L mo oo.x).2)) ln)) ∧ St w [] ((b8, cb (cO oo) 76) :: (t1, tabO mo m1) :: (m1, .map (bif m 3 then es3 else es) (bif m 3 then ck3 else ck)) :: (rt, rtabO (bif true then vn else .slice ar (ordE L).length cr) mo) :: (bif true then ln else lr)) w1
              simp only [hm, hp3, cond_true, cond_false] at hw ⊢
              exact ⟨⟨fun _ => hF.1 hp3, fun _ => (by first | trivial | rfl), fun _ => hvn⟩, hw.perm (by (refine perm_cnt (fun _ => ?_)); simp only [cntB_append, cntB_cons, cntB_nil, Nat.add_zero, Nat.zero_add]; try ac_rfl)⟩
            · skip
              obtain ⟨es3, ck3, v53, l53⟩ := x
              show J _ _ _ _ _ ((53, .int .i64 (tadd L mo oo.x).1) :: (49, .int .i64 (tadd L mo oo.x).1) :: _) (fun w1 => ((m 3 = true → Tab (tadd L mo oo.x).2 es3 ck3) ∧ (m 7 = true → m 3 = true) ∧ (m 7 = true → Vec 34 51 v53 (ordE (tadd L mo oo.x).2).length (fE (ordE (tadd L mo oo.x).2)) l53)) ∧ St w [] ((b8, cb (cO oo) 76) :: (t1, tabO mo m1) :: (m1, .map (bif m 3 then es3 else es) (bif m 3 then ck3 else ck)) :: (rt, rtabO (bif m 7 then v53 else .slice ar (ordE L).length cr) mo) :: (bif m 7 then l53 else lr)) w1)
              have hp3 : m 3 = true := predsT hp (by kernel_rfl)
              have hp7 : m 7 = true := predsT hp (by kernel_rfl)
              refine J.pr (fun hF => ?_)
              refine J.bin rfl rfl rfl rfl ?_
              refine J.name 54 rfl (show _ = Value.bool false by simp) ?_
              exact J.nil (JX.finB rfl (fun w1 hw => ⟨⟨⟨es3, ck3, v53, l53⟩, rfl, fun _ _ _ => rfl, hF, hw⟩, trivial⟩))
          case htail =>
            intro x
            obtain ⟨es3, ck3, v53, l53⟩ := x
            show J _ _ _ _ _ ((54, .bool false) :: (53, .int .i64 (tadd L mo oo.x).1) :: (52, .agg (cE oo.x).toArray) :: (51, .pointer (some ⟨b8, 0 + 2, none⟩)) :: (50, .pointer (some ⟨rt, 0, none⟩)) :: (49, .int .i64 (tadd L mo oo.x).1) :: (48, .agg (cE oo.x).toArray) :: (47, .pointer (some ⟨b8, 0 + 2, none⟩)) :: (46, .pointer (some ⟨t1, 0, none⟩)) :: _) (fun w1 => ((true = true → Tab (tadd L mo oo.x).2 es3 ck3) ∧ (true = true → true = true) ∧ (true = true → Vec 34 51 v53 (ordE (tadd L mo oo.x).2).length (fE (ordE (tadd L mo oo.x).2)) l53)) ∧ St w [] ((b8, cb (cO oo) 76) :: (t1, tabO mo m1) :: (m1, .map (bif true then es3 else es) (bif true then ck3 else ck)) :: (rt, rtabO (bif true then v53 else .slice ar (ordE L).length cr) mo) :: (bif true then l53 else lr)) w1)
            refine J.pr (fun hF => ?_)
            refine J.conseq (I' := St w [] ((b8, cb (cO oo) 76) :: (t1, tabO mo m1) :: (m1, .map es3 ck3) :: (rt, rtabO v53 mo) :: l53)) ?_ (fun w1 hw => by simp only [cond_true] at hw; exact hw)
            refine J.nil ?_
            refine JX.thenN (hK18 _ _ ?_)
            first | refine JC.condF rfl ?_ | refine JC.cond rfl (fun h => by first | (exfalso; simp at h; omega) | (simp at h)) (fun _ => ?_)
            refine JC.skip ?_
            refine JX.blockN ?_
            refine JX.thenN ?_
            exact JX.cut (hK14 (((tadd L mo oo.x).2, es3, ck3, v53, l53))) ⟨rfl, rfl, rfl, rfl, rfl, trivial⟩ (fun w1 hw => ⟨⟨hF.1 rfl, hgood.add _, hF.2.2 rfl⟩, hw.drop (List.sublist_cons_self _ _)⟩)
        · skip
          try simp only [decide_eq_true_eq, decide_eq_false_iff_not, beq_iff_eq, bne_iff_ne, bne_eq_false_iff_eq, ne_eq, beq_eq_false_iff_ne, Bool.not_eq_true, Bool.not_eq_false, Int.not_lt, Int.not_le] at h3
          refine JC.seq (fun K19 hK19 => ?_)
          refine JC.region ?_
          refine J.bin rfl rfl rfl rfl ?_
          refine J.assign rfl rfl ?_
          refine J.nil ?_
          refine JX.thenN (hK19 _ _ ?_)
          refine JC.cond rfl (fun h5 => ?_) (fun h5 => ?_)
          · skip
            try simp only [decide_eq_true_eq, decide_eq_false_iff_not, beq_iff_eq, bne_iff_ne, bne_eq_false_iff_eq, ne_eq, beq_eq_false_iff_ne, Bool.not_eq_true, Bool.not_eq_false, Int.not_lt, Int.not_le] at h5
            refine JC.seq (fun K20 hK20 => ?_)
            refine JC.region ?_
            refine J.move rfl rfl ?_
            refine J.fieldAddr Ty.fd76_2 rfl rfl ?_
            refine J.fieldAddr Ty.fd34_0 rfl rfl ?_
            refine J.loadOA (vs := cP oo.x.p) Ty.a25 Ty.s25 rfl (.head _) rfl rfl rfl ?_
            refine J.perm ([(t1, tabO mo m1), (m1, .map es ck)] ++ ((b8, cb (cO oo) 76) :: (rt, rtabO (.slice ar (ordE L).length cr) mo) :: lr)) (by (refine perm_cnt (fun _ => ?_)); simp only [cntB_append, cntB_cons, cntB_nil, Nat.add_zero, Nat.zero_add]; try ac_rfl) ?_
            refine J.callS (α := Array MapEntry) (V := fun _ => .tuple #[.agg (cE ((tget (L) oo.x.p).getD zE)).toArray, .bool (tget (L) oo.x.p).isSome]) (Pr := fun y => Tab (delL (L) oo.x.p) y ck) (L := fun y => [(t1, tabO mo m1), (m1, .map y ck)]) (l1 := [(t1, tabO mo m1), (m1, .map es ck)]) Ty.bd35 rfl rfl (fun w1 hw => (remove_spec t1 m1 mo (L) es ck w1 hw.owns hT oo.x.p hoo.2.2.1).mono fun _ _ ⟨y, h1, h2, h3⟩ => ⟨y, h1, h2, h3⟩) (fun es4 hT4 => ?_)
            simp only [List.cons_append, List.nil_append]
            refine J.move rfl rfl ?_
            refine J.extract rfl rfl rfl ?_
            refine J.extract rfl rfl rfl ?_
            refine J.alloc Ty.zE_ rfl rfl (fun b9 => ?_)
            refine J.storeW (cs := cE zE) (vs := cE ((tget L oo.x.p).getD zE)) Ty.s34 rfl rfl rfl rfl rfl (one_cE _) .here ?_
            refine J.assign rfl rfl ?_
            refine J.nil ?_
            refine JX.thenN (hK20 _ _ ?_)
            refine JC.seq (fun K21 hK21 => ?_)
            refine JC.region ?_
            refine J.move rfl rfl ?_
            refine J.fieldAddr Ty.fd76_2 rfl rfl ?_
            refine J.fieldAddr Ty.fd34_0 rfl rfl ?_
            refine J.loadOA (vs := cP oo.x.p) Ty.a25 Ty.s25 rfl (.tail _ (.tail _ (.tail _ (.head _)))) rfl rfl rfl ?_
            refine J.perm ((((rt, rtabO (.slice ar (ordE L).length cr) mo)) :: lr) ++ ((b9, cb (cE ((tget L oo.x.p).getD zE)) 34) :: (t1, tabO mo m1) :: (m1, .map es4 ck) :: (b8, cb (cO oo) 76) :: [])) (by (refine perm_cnt (fun _ => ?_)); simp only [cntB_append, cntB_cons, cntB_nil, Nat.add_zero, Nat.zero_add]; try ac_rfl) ?_
            refine J.callS (α := Value × List (Nat × Obj)) (V := fun _ => .tuple #[.agg (cE ((tget L oo.x.p).getD zE)).toArray, .bool (tget L oo.x.p).isSome]) (Pr := fun y => Vec 34 51 y.1 (ordE (delL L oo.x.p)).length (fE (ordE (delL L oo.x.p))) y.2) (L := fun y => (rt, rtabO y.1 mo) :: y.2) (l1 := (((rt, rtabO (.slice ar (ordE L).length cr) mo)) :: lr)) Ty.bd39 rfl rfl (fun w1 hw => (rremove_spec rt _ mo (ordE L) lr w1 hw.owns hvr (ordE_ok hT) (by omega) oo.x.p hoo.2.2.1).mono fun _ _ ⟨y, h1, h2, h3⟩ => by rw [tget_ordD hT.dist] at h1; rw [del_ord hT.dist] at h2; exact ⟨y, h1, h2, h3⟩) (fun y hv17 => ?_)
            obtain ⟨v17, l17⟩ := y
            simp only [List.cons_append, List.nil_append] at hv17 ⊢
            refine J.perm ((b9, cb (cE ((tget L oo.x.p).getD zE)) 34) :: (t1, tabO mo m1) :: (m1, .map es4 ck) :: (b8, cb (cO oo) 76) :: (rt, rtabO v17 mo) :: l17) (by (refine perm_cnt (fun _ => ?_)); simp only [cntB_append, cntB_cons, cntB_nil, Nat.add_zero, Nat.zero_add]; try ac_rfl) ?_
            refine J.move rfl rfl ?_
            refine J.extract rfl rfl rfl ?_
            refine J.extract rfl rfl rfl ?_
            refine J.alloc Ty.zE_ rfl rfl (fun b11 => ?_)
            refine J.storeW (cs := cE zE) (vs := cE ((tget L oo.x.p).getD zE)) Ty.s34 rfl rfl rfl rfl rfl (one_cE _) .here ?_
            refine J.assign rfl rfl ?_
            refine J.nil ?_
            refine JX.thenN (hK21 _ _ ?_)
            refine JC.seq (fun K22 hK22 => ?_)
            refine JC.region ?_
            refine J.loadOA (vs := cE ((tget L oo.x.p).getD zE)) Ty.a34 Ty.s34 rfl (.tail _ (.head _)) rfl rfl rfl ?_
            refine J.loadOA (vs := cE ((tget L oo.x.p).getD zE)) Ty.a34 Ty.s34 rfl (.head _) rfl rfl rfl ?_
            refine J.neE Ty.QE Ty.keyE rfl rfl (getD_okE hT _) (getD_okE hT _) rfl ?_
            refine J.name 75 rfl (show _ = Value.bool false by simp) ?_
            refine J.move rfl rfl ?_
            first
              | (refine J.skip rfl rfl rfl rfl rfl ?_)
              | (refine J.skipU rfl rfl rfl rfl ?_)
              | (refine J.unguard rfl rfl rfl ?_; refine J.move rfl rfl ?_)
            first
              | (refine J.skip rfl rfl rfl rfl rfl ?_)
              | (refine J.skipU rfl rfl rfl rfl ?_)
              | (refine J.unguard rfl rfl rfl ?_; refine J.move rfl rfl ?_)
            first
              | (refine J.skip rfl rfl rfl rfl rfl ?_)
              | (refine J.skipU rfl rfl rfl rfl ?_)
              | (refine J.unguard rfl rfl rfl ?_; refine J.eqBool (.inr rfl) Ty.u4 rfl rfl rfl ?_; refine J.name 79 rfl (show _ = Value.bool false by simp) ?_)
            (first | refine J.pickT rfl rfl rfl ?_ | refine J.pickF rfl rfl rfl ?_)
            refine J.nil ?_
            refine JX.thenN (hK22 _ _ ?_)
            first | refine JC.condF rfl ?_ | refine JC.cond rfl (fun h => by first | (exfalso; simp at h; omega) | (simp at h)) (fun _ => ?_)
            refine JC.skip ?_
            refine JX.blockN ?_
            refine JX.thenN ?_
            exact JX.cut (hK14 ((delL L oo.x.p, es4, ck, v17, l17))) ⟨rfl, rfl, rfl, rfl, rfl, trivial⟩ (fun w1 hw => ⟨⟨hT4, hgood.del _, hv17⟩, hw.drop (.cons _ (.cons _ (.cons_cons _ (.cons_cons _ (.cons _ (List.Sublist.refl _))))))⟩)
          · skip
            try simp only [decide_eq_true_eq, decide_eq_false_iff_not, beq_iff_eq, bne_iff_ne, bne_eq_false_iff_eq, ne_eq, beq_eq_false_iff_ne, Bool.not_eq_true, Bool.not_eq_false, Int.not_lt, Int.not_le] at h5
            refine JC.seq (fun K23 hK23 => ?_)
            refine JC.region ?_
            refine J.bin rfl rfl rfl rfl ?_
            refine J.assign rfl rfl ?_
            refine J.nil ?_
            refine JX.thenN (hK23 _ _ ?_)
            refine JC.cond rfl (fun h7 => ?_) (fun h7 => ?_)
            · skip
              try simp only [decide_eq_true_eq, decide_eq_false_iff_not, beq_iff_eq, bne_iff_ne, bne_eq_false_iff_eq, ne_eq, beq_eq_false_iff_ne, Bool.not_eq_true, Bool.not_eq_false, Int.not_lt, Int.not_le] at h7
              refine JC.seq (fun K24 hK24 => ?_)
              refine JC.region ?_
              refine J.move rfl rfl ?_
              refine J.fieldAddr Ty.fd76_2 rfl rfl ?_
              refine J.fieldAddr Ty.fd34_0 rfl rfl ?_
              refine J.loadOA (vs := cP oo.x.p) Ty.a25 Ty.s25 rfl (.head _) rfl rfl rfl ?_
              refine J.callB (v := .tuple #[.agg (cE ((tget L oo.x.p).getD zE)).toArray, .bool (tget L oo.x.p).isSome]) (fun w1 w2 hw hb => hw.step hb) Ty.bd23 rfl rfl (fun w1 hw => get_spec t1 m1 mo L es ck w1 (St.owns (l1 := [(t1, tabO mo m1), (m1, .map es ck)]) (hw.perm (l' := (t1, tabO mo m1) :: (m1, .map es ck) :: (b8, cb (cO oo) 76) :: (rt, rtabO (.slice ar (ordE L).length cr) mo) :: lr) (by (refine perm_cnt (fun _ => ?_)); simp only [cntB_append, cntB_cons, cntB_nil, Nat.add_zero, Nat.zero_add]; try ac_rfl))) hT _ hoo.2.2.1) ?_
              refine J.move rfl rfl ?_
              refine J.extract rfl rfl rfl ?_
              refine J.extract rfl rfl rfl ?_
              refine J.alloc Ty.zE_ rfl rfl (fun b13 => ?_)
              refine J.storeW (cs := cE zE) (vs := cE ((tget L oo.x.p).getD zE)) Ty.s34 rfl rfl rfl rfl rfl (one_cE _) .here ?_
              refine J.assign rfl rfl ?_
              refine J.nil ?_
              refine JX.thenN (hK24 _ _ ?_)
              refine JC.seq (fun K25 hK25 => ?_)
              refine JC.region ?_
              refine J.move rfl rfl ?_
              refine J.fieldAddr Ty.fd76_2 rfl rfl ?_
              refine J.fieldAddr Ty.fd34_0 rfl rfl ?_
              refine J.loadOA (vs := cP oo.x.p) Ty.a25 Ty.s25 rfl (.tail _ (.head _)) rfl rfl rfl ?_
              refine J.callB (v := .tuple #[.agg (cE ((tget L oo.x.p).getD zE)).toArray, .bool (tget L oo.x.p).isSome]) (fun w1 w2 hw hb => hw.step hb) Ty.bd40 rfl rfl (fun w1 hw => (by have h := rget_spec rt _ mo (ordE L) w1 (hw.own _ (.tail _ (.tail _ (.tail _ (.tail _ (.head _)))))) (vec_rowM hvr hw (fun q hq => by first | (simp [hq]; done) | (simp at hq; simp [hq]; done) | (simp at hq; subst hq; simp))) (ordE_ok hT) (by omega) oo.x.p hoo.2.2.1; rwa [tget_ordD hT.dist] at h)) ?_
              refine J.move rfl rfl ?_
              refine J.extract rfl rfl rfl ?_
              refine J.extract rfl rfl rfl ?_
              refine J.alloc Ty.zE_ rfl rfl (fun b15 => ?_)
              refine J.storeW (cs := cE zE) (vs := cE ((tget L oo.x.p).getD zE)) Ty.s34 rfl rfl rfl rfl rfl (one_cE _) .here ?_
              refine J.assign rfl rfl ?_
              refine J.nil ?_
              refine JX.thenN (hK25 _ _ ?_)
              refine JC.seq (fun K26 hK26 => ?_)
              refine JC.region ?_
              refine J.loadOA (vs := cE ((tget L oo.x.p).getD zE)) Ty.a34 Ty.s34 rfl (.tail _ (.head _)) rfl rfl rfl ?_
              refine J.loadOA (vs := cE ((tget L oo.x.p).getD zE)) Ty.a34 Ty.s34 rfl (.head _) rfl rfl rfl ?_
              refine J.neE Ty.QE Ty.keyE rfl rfl (getD_okE hT _) (getD_okE hT _) rfl ?_
              refine J.name 101 rfl (show _ = Value.bool false by simp) ?_
              refine J.move rfl rfl ?_
              first
                | (refine J.skip rfl rfl rfl rfl rfl ?_)
                | (refine J.skipU rfl rfl rfl rfl ?_)
                | (refine J.unguard rfl rfl rfl ?_; refine J.move rfl rfl ?_)
              first
                | (refine J.skip rfl rfl rfl rfl rfl ?_)
                | (refine J.skipU rfl rfl rfl rfl ?_)
                | (refine J.unguard rfl rfl rfl ?_; refine J.move rfl rfl ?_)
              first
                | (refine J.skip rfl rfl rfl rfl rfl ?_)
                | (refine J.skipU rfl rfl rfl rfl ?_)
                | (refine J.unguard rfl rfl rfl ?_; refine J.eqBool (.inr rfl) Ty.u4 rfl rfl rfl ?_; refine J.name 105 rfl (show _ = Value.bool false by simp) ?_)
              (first | refine J.pickT rfl rfl rfl ?_ | refine J.pickF rfl rfl rfl ?_)
              refine J.nil ?_
              refine JX.thenN (hK26 _ _ ?_)
              first | refine JC.condF rfl ?_ | refine JC.cond rfl (fun h => by first | (exfalso; simp at h; omega) | (simp at h)) (fun _ => ?_)
              refine JC.skip ?_
              refine JX.blockN ?_
              refine JX.thenN ?_
              exact JX.cut (hK14 ((L, es, ck, .slice ar (ordE L).length cr, lr))) ⟨rfl, rfl, rfl, rfl, rfl, trivial⟩ (fun w1 hw => ⟨⟨hT, hgood, hvr⟩, hw.drop (.cons _ (.cons _ (List.sublist_cons_self _ _)))⟩)
            · skip
              try simp only [decide_eq_true_eq, decide_eq_false_iff_not, beq_iff_eq, bne_iff_ne, bne_eq_false_iff_eq, ne_eq, beq_eq_false_iff_ne, Bool.not_eq_true, Bool.not_eq_false, Int.not_lt, Int.not_le] at h7
              refine JC.seq (fun K27 hK27 => ?_)
              refine JC.region ?_
              refine J.bin rfl rfl rfl rfl ?_
              refine J.assign rfl rfl ?_
              refine J.nil ?_
              refine JX.thenN (hK27 _ _ ?_)
              refine JC.cond rfl (fun h9 => ?_) (fun h9 => ?_)
              · skip
                try simp only [decide_eq_true_eq, decide_eq_false_iff_not, beq_iff_eq, bne_iff_ne, bne_eq_false_iff_eq, ne_eq, beq_eq_false_iff_ne, Bool.not_eq_true, Bool.not_eq_false, Int.not_lt, Int.not_le] at h9
                refine JC.seq (fun K28 hK28 => ?_)
                apply JC.drawX (α := Value × List (Nat × Obj) × Value × List (Nat × Obj)) 10 (fun x => match x with | ⟨vA, lA, vB, lB⟩ => [.pointer (some ⟨t1, 0, none⟩), .pointer (some ⟨b8, 0 + 1, none⟩), .int .i64 oo.n, vA, .pointer (some ⟨rt, 0, none⟩), .pointer (some ⟨b8, 0 + 1, none⟩), .int .i64 oo.n, vB, .bool true, .bool false]) (fun m x => match x with | ⟨vA, lA, vB, lB⟩ => fun w1 => ((m 3 = true → Vec 34 51 vA ((ordE L).filter (viaB oo.n)).length (fE ((ordE L).filter (viaB oo.n))) lA) ∧ (m 7 = true → Vec 34 51 vB ((ordE L).filter (viaB oo.n)).length (fE ((ordE L).filter (viaB oo.n))) lB) ∧ (m 7 = true → m 3 = true)) ∧ St w [] ((b8, cb (cO oo) 76) :: (t1, tabO mo m1) :: (m1, .map es ck) :: (rt, rtabO (.slice ar (ordE L).length cr) mo) :: ((bif m 3 then lA else []) ++ ((bif m 7 then lB else []) ++ lr))) w1) Ty.mixed rfl rfl rfl (by kernel_rfl) rfl rfl ?hinit ?hstep ?htail
                case hinit => exact fun w1 hw => ⟨(.slice none 0 0, [], .slice none 0 0, []), ⟨fun h => (by cases h), fun h => (by cases h), fun h => (by cases h)⟩, hw.drew⟩
                case hstep =>
                  refine ⟨fun m x hm hp => ?_, fun m x hm hp => ?_, fun m x hm hp => ?_, fun m x hm hp => ?_, fun m x hm hp => ?_, fun m x hm hp => ?_, fun m x hm hp => ?_, fun m x hm hp => ?_, fun m x hm hp => ?_, fun m x hm hp => ?_, trivial⟩
                  · skip
                    obtain ⟨vA, lA, vB, lB⟩ := x
                    show J _ _ _ _ _ (_) (fun w1 => ((m 3 = true → Vec 34 51 vA ((ordE L).filter (viaB oo.n)).length (fE ((ordE L).filter (viaB oo.n))) lA) ∧ (m 7 = true → Vec 34 51 vB ((ordE L).filter (viaB oo.n)).length (fE ((ordE L).filter (viaB oo.n))) lB) ∧ (m 7 = true → m 3 = true)) ∧ St w [] ((b8, cb (cO oo) 76) :: (t1, tabO mo m1) :: (m1, .map es ck) :: (rt, rtabO (.slice ar (ordE L).length cr) mo) :: ((bif m 3 then lA else []) ++ ((bif m 7 then lB else []) ++ lr))) w1)
                    refine J.pr (fun hF => ?_)
                    refine J.move rfl rfl ?_
                    exact J.nil (JX.finB rfl (fun w1 hw => ⟨⟨⟨vA, lA, vB, lB⟩, rfl, fun _ _ _ => rfl, hF, hw⟩, trivial⟩))
                  · skip
                    obtain ⟨vA, lA, vB, lB⟩ := x
                    show J _ _ _ _ _ (_) (fun w1 => ((m 3 = true → Vec 34 51 vA ((ordE L).filter (viaB oo.n)).length (fE ((ordE L).filter (viaB oo.n))) lA) ∧ (m 7 = true → Vec 34 51 vB ((ordE L).filter (viaB oo.n)).length (fE ((ordE L).filter (viaB oo.n))) lB) ∧ (m 7 = true → m 3 = true)) ∧ St w [] ((b8, cb (cO oo) 76) :: (t1, tabO mo m1) :: (m1, .map es ck) :: (rt, rtabO (.slice ar (ordE L).length cr) mo) :: ((bif m 3 then lA else []) ++ ((bif m 7 then lB else []) ++ lr))) w1)
                    refine J.pr (fun hF => ?_)
                    refine J.fieldAddr Ty.fd76_1 rfl rfl ?_
                    exact J.nil (JX.finB rfl (fun w1 hw => ⟨⟨⟨vA, lA, vB, lB⟩, rfl, fun _ _ _ => rfl, hF, hw⟩, trivial⟩))
                  · skip
                    obtain ⟨vA, lA, vB, lB⟩ := x
                    show J _ _ _ _ _ ((110, .pointer (some ⟨b8, 0 + 1, none⟩)) :: _) (fun w1 => ((m 3 = true → Vec 34 51 vA ((ordE L).filter (viaB oo.n)).length (fE ((ordE L).filter (viaB oo.n))) lA) ∧ (m 7 = true → Vec 34 51 vB ((ordE L).filter (viaB oo.n)).length (fE ((ordE L).filter (viaB oo.n))) lB) ∧ (m 7 = true → m 3 = true)) ∧ St w [] ((b8, cb (cO oo) 76) :: (t1, tabO mo m1) :: (m1, .map es ck) :: (rt, rtabO (.slice ar (ordE L).length cr) mo) :: ((bif m 3 then lA else []) ++ ((bif m 7 then lB else []) ++ lr))) w1)
                    refine J.pr (fun hF => ?_)
                    refine J.load1 (v := .int .i64 oo.n) Ty.a3 rfl (fun w1 hw => by rw [cell_of (hw.own _ (.head _))]; rfl) rfl ?_
                    exact J.nil (JX.finB rfl (fun w1 hw => ⟨⟨⟨vA, lA, vB, lB⟩, rfl, fun _ _ _ => rfl, hF, hw⟩, trivial⟩))
                  · skip
                    obtain ⟨vA, lA, vB, lB⟩ := x
                    show J _ _ _ _ _ ((111, .int .i64 oo.n) :: (109, .pointer (some ⟨t1, 0, none⟩)) :: _) (fun w1 => ((m 3 = true → Vec 34 51 vA ((ordE L).filter (viaB oo.n)).length (fE ((ordE L).filter (viaB oo.n))) lA) ∧ (m 7 = true → Vec 34 51 vB ((ordE L).filter (viaB oo.n)).length (fE ((ordE L).filter (viaB oo.n))) lB) ∧ (m 7 = true → m 3 = true)) ∧ St w [] ((b8, cb (cO oo) 76) :: (t1, tabO mo m1) :: (m1, .map es ck) :: (rt, rtabO (.slice ar (ordE L).length cr) mo) :: ((bif m 3 then lA else []) ++ ((bif m 7 then lB else []) ++ lr))) w1)
                    refine J.pr (fun hF => ?_)
                    have h7 : m 7 = false := by cases h : m 7 with
                      | false => rfl
                      | true => rw [hF.2.2 h] at hm; cases hm
                    refine J.conseq (I' := St w [] ((b8, cb (cO oo) 76) :: (t1, tabO mo m1) :: (m1, .map es ck) :: (rt, rtabO (.slice ar (ordE L).length cr) mo) :: lr)) ?_ (fun w1 hw => by simp only [hm, h7, cond_true, cond_false, List.nil_append] at hw; exact hw)
                    refine J.perm ([] ++ ((b8, cb (cO oo) 76) :: (t1, tabO mo m1) :: (m1, .map es ck) :: (rt, rtabO (.slice ar (ordE L).length cr) mo) :: lr)) (.refl _) ?_
                    refine J.callS (α := Value × List (Nat × Obj)) (V := (·.1)) (Pr := fun x => Vec 34 51 x.1 ((ordE L).filter (viaB oo.n)).length (fE ((ordE L).filter (viaB oo.n))) x.2) (L := (·.2)) (l1 := []) Ty.bd27 rfl rfl (fun w1 hw => via_spec t1 m1 mo (L) es ck w1 (hw.own _ (.tail _ (.head _))) (hw.own _ (.tail _ (.tail _ (.head _)))) hT (by omega) oo.n) (fun x hvn => ?_)
                    obtain ⟨vn, ln⟩ := x
                    simp only at hvn ⊢
                    refine J.nil (JX.finB rfl (fun w1 hw => ⟨⟨⟨vn, ln, vB, lB⟩, rfl, fun j h1 h2 => ?_, ?_⟩, trivial⟩))
                    · match j, h1 with
                      | 0, _ => (first | rfl | trivial)
                      | 1, _ => (first | rfl | trivial)
                      | 2, _ => (first | rfl | trivial)
                      | 3, _ => exact absurd (h2.symm.trans hm) (by decide)
                      | 4, _ => (first | rfl | trivial)
                      | 5, _ => (first | rfl | trivial)
                      | 6, _ => (first | rfl | trivial)
                      | 7, _ => (first | rfl | trivial)
                      | 8, _ => (first | rfl | trivial)
                      | 9, _ => (first | rfl | trivial)
                      | j + 10, h1 => omega
                    show ((true = true → Vec 34 51 vn ((ordE L).filter (viaB oo.n)).length (fE ((ordE L).filter (viaB oo.n))) ln) ∧ (m 7 = true → Vec 34 51 vB ((ordE L).filter (viaB oo.n)).length (fE ((ordE L).filter (viaB oo.n))) lB) ∧ (m 7 = true → true = true)) ∧ St w [] ((b8, cb (cO oo) 76) :: (t1, tabO mo m1) :: (m1, .map es ck) :: (rt, rtabO (.slice ar (ordE L).length cr) mo) :: ((bif true then ln else []) ++ ((bif m 7 then lB else []) ++ lr))) w1
                    simp only [hm, h7, cond_true, cond_false] at hw ⊢
                    exact ⟨⟨fun _ => hvn, fun h => (by cases h), fun h => (by cases h)⟩, hw.perm (by (refine perm_cnt (fun _ => ?_)); simp only [cntB_append, cntB_cons, cntB_nil, Nat.add_zero, Nat.zero_add]; try ac_rfl)⟩
                  · skip
                    obtain ⟨vA, lA, vB, lB⟩ := x
                    show J _ _ _ _ _ (_) (fun w1 => ((m 3 = true → Vec 34 51 vA ((ordE L).filter (viaB oo.n)).length (fE ((ordE L).filter (viaB oo.n))) lA) ∧ (m 7 = true → Vec 34 51 vB ((ordE L).filter (viaB oo.n)).length (fE ((ordE L).filter (viaB oo.n))) lB) ∧ (m 7 = true → m 3 = true)) ∧ St w [] ((b8, cb (cO oo) 76) :: (t1, tabO mo m1) :: (m1, .map es ck) :: (rt, rtabO (.slice ar (ordE L).length cr) mo) :: ((bif m 3 then lA else []) ++ ((bif m 7 then lB else []) ++ lr))) w1)
                    refine J.pr (fun hF => ?_)
                    refine J.move rfl rfl ?_
                    exact J.nil (JX.finB rfl (fun w1 hw => ⟨⟨⟨vA, lA, vB, lB⟩, rfl, fun _ _ _ => rfl, hF, hw⟩, trivial⟩))
                  · skip
                    obtain ⟨vA, lA, vB, lB⟩ := x
                    show J _ _ _ _ _ (_) (fun w1 => ((m 3 = true → Vec 34 51 vA ((ordE L).filter (viaB oo.n)).length (fE ((ordE L).filter (viaB oo.n))) lA) ∧ (m 7 = true → Vec 34 51 vB ((ordE L).filter (viaB oo.n)).length (fE ((ordE L).filter (viaB oo.n))) lB) ∧ (m 7 = true → m 3 = true)) ∧ St w [] ((b8, cb (cO oo) 76) :: (t1, tabO mo m1) :: (m1, .map es ck) :: (rt, rtabO (.slice ar (ordE L).length cr) mo) :: ((bif m 3 then lA else []) ++ ((bif m 7 then lB else []) ++ lr))) w1)
                    refine J.pr (fun hF => ?_)
                    refine J.fieldAddr Ty.fd76_1 rfl rfl ?_
                    exact J.nil (JX.finB rfl (fun w1 hw => ⟨⟨⟨vA, lA, vB, lB⟩, rfl, fun _ _ _ => rfl, hF, hw⟩, trivial⟩))
                  · skip
                    obtain ⟨vA, lA, vB, lB⟩ := x
                    show J _ _ _ _ _ ((114, .pointer (some ⟨b8, 0 + 1, none⟩)) :: _) (fun w1 => ((m 3 = true → Vec 34 51 vA ((ordE L).filter (viaB oo.n)).length (fE ((ordE L).filter (viaB oo.n))) lA) ∧ (m 7 = true → Vec 34 51 vB ((ordE L).filter (viaB oo.n)).length (fE ((ordE L).filter (viaB oo.n))) lB) ∧ (m 7 = true → m 3 = true)) ∧ St w [] ((b8, cb (cO oo) 76) :: (t1, tabO mo m1) :: (m1, .map es ck) :: (rt, rtabO (.slice ar (ordE L).length cr) mo) :: ((bif m 3 then lA else []) ++ ((bif m 7 then lB else []) ++ lr))) w1)
                    refine J.pr (fun hF => ?_)
                    refine J.load1 (v := .int .i64 oo.n) Ty.a3 rfl (fun w1 hw => by rw [cell_of (hw.own _ (.head _))]; rfl) rfl ?_
                    exact J.nil (JX.finB rfl (fun w1 hw => ⟨⟨⟨vA, lA, vB, lB⟩, rfl, fun _ _ _ => rfl, hF, hw⟩, trivial⟩))
                  · skip
                    obtain ⟨vA, lA, vB, lB⟩ := x
                    show J _ _ _ _ _ ((112, vA) :: (115, .int .i64 oo.n) :: (113, .pointer (some ⟨rt, 0, none⟩)) :: _) (fun w1 => ((m 3 = true → Vec 34 51 vA ((ordE L).filter (viaB oo.n)).length (fE ((ordE L).filter (viaB oo.n))) lA) ∧ (m 7 = true → Vec 34 51 vB ((ordE L).filter (viaB oo.n)).length (fE ((ordE L).filter (viaB oo.n))) lB) ∧ (m 7 = true → m 3 = true)) ∧ St w [] ((b8, cb (cO oo) 76) :: (t1, tabO mo m1) :: (m1, .map es ck) :: (rt, rtabO (.slice ar (ordE L).length cr) mo) :: ((bif m 3 then lA else []) ++ ((bif m 7 then lB else []) ++ lr))) w1)
                    have hp3 : m 3 = true := predsT hp (by kernel_rfl)
                    refine J.pr (fun hF => ?_)
                    refine J.conseq (I' := St w [] ((b8, cb (cO oo) 76) :: (t1, tabO mo m1) :: (m1, .map es ck) :: (rt, rtabO (.slice ar (ordE L).length cr) mo) :: (lA ++ lr))) ?_ (fun w1 hw => by simp only [hm, hp3, cond_true, cond_false, List.nil_append] at hw; exact hw)
                    refine J.perm ([] ++ ((b8, cb (cO oo) 76) :: (t1, tabO mo m1) :: (m1, .map es ck) :: (rt, rtabO (.slice ar (ordE L).length cr) mo) :: (lA ++ lr))) (.refl _) ?_
                    refine J.callS (α := Value × List (Nat × Obj)) (V := (·.1)) (Pr := fun x => Vec 34 51 x.1 ((ordE L).filter (viaB oo.n)).length (fE ((ordE L).filter (viaB oo.n))) x.2) (L := (·.2)) (l1 := []) Ty.bd41 rfl rfl (fun w1 hw => rvia_spec rt _ mo (ordE L) w1 (hw.own _ (.tail _ (.tail _ (.tail _ (.head _))))) (vec_rowM hvr hw (fun q hq => by first | (simp [hq]; done) | (simp at hq; simp [hq]; done) | (simp at hq; subst hq; simp))) (ordE_ok hT) (by omega) oo.n) (fun x hvn => ?_)
                    obtain ⟨vn, ln⟩ := x
                    simp only at hvn ⊢
                    refine J.nil (JX.finB rfl (fun w1 hw => ⟨⟨⟨vA, lA, vn, ln⟩, rfl, fun j h1 h2 => ?_, ?_⟩, trivial⟩))
                    · match j, h1 with
                      | 0, _ => (first | rfl | trivial)
                      | 1, _ => (first | rfl | trivial)
                      | 2, _ => (first | rfl | trivial)
                      | 3, _ => (first | rfl | trivial)
                      | 4, _ => (first | rfl | trivial)
                      | 5, _ => (first | rfl | trivial)
                      | 6, _ => (first | rfl | trivial)
                      | 7, _ => exact absurd (h2.symm.trans hm) (by decide)
                      | 8, _ => (first | rfl | trivial)
                      | 9, _ => (first | rfl | trivial)
                      | j + 10, h1 => omega
                    show ((m 3 = true → Vec 34 51 vA ((ordE L).filter (viaB oo.n)).length (fE ((ordE L).filter (viaB oo.n))) lA) ∧ (true = true → Vec 34 51 vn ((ordE L).filter (viaB oo.n)).length (fE ((ordE L).filter (viaB oo.n))) ln) ∧ (true = true → m 3 = true)) ∧ St w [] ((b8, cb (cO oo) 76) :: (t1, tabO mo m1) :: (m1, .map es ck) :: (rt, rtabO (.slice ar (ordE L).length cr) mo) :: ((bif m 3 then lA else []) ++ ((bif true then ln else []) ++ lr))) w1
                    simp only [hm, hp3, cond_true, cond_false] at hw ⊢
                    exact ⟨⟨fun _ => hF.1 hp3, fun _ => hvn, fun _ => (by first | trivial | rfl)⟩, hw.perm (by (refine perm_cnt (fun _ => ?_)); simp only [cntB_append, cntB_cons, cntB_nil, Nat.add_zero, Nat.zero_add]; try ac_rfl)⟩
                  · skip
                    obtain ⟨vA, lA, vB, lB⟩ := x
                    show J _ _ _ _ _ ((116, vB) :: (116, vB) :: (112, vA) :: _) (fun w1 => ((m 3 = true → Vec 34 51 vA ((ordE L).filter (viaB oo.n)).length (fE ((ordE L).filter (viaB oo.n))) lA) ∧ (m 7 = true → Vec 34 51 vB ((ordE L).filter (viaB oo.n)).length (fE ((ordE L).filter (viaB oo.n))) lB) ∧ (m 7 = true → m 3 = true)) ∧ St w [] ((b8, cb (cO oo) 76) :: (t1, tabO mo m1) :: (m1, .map es ck) :: (rt, rtabO (.slice ar (ordE L).length cr) mo) :: ((bif m 3 then lA else []) ++ ((bif m 7 then lB else []) ++ lr))) w1)
                    have hp3 : m 3 = true := predsT hp (by kernel_rfl)
                    have hp7 : m 7 = true := predsT hp (by kernel_rfl)
                    have hp7 : m 7 = true := predsT hp (by kernel_rfl)
                    refine J.pr (fun hF => ?_)
                    have hfl : ((ordE L).filter (viaB oo.n)).length ≤ (ordE L).length := List.length_filter_le _ _
                    refine J.callB (v := .bool true) (fun w1 w2 hw hb => hw.step hb) Ty.bd26 rfl rfl (fun w1 hw => (by have h := rsame_spec _ _ ((ordE L).filter (viaB oo.n)) ((ordE L).filter (viaB oo.n)) w1 (vec_rowM (l := (b8, cb (cO oo) 76) :: (t1, tabO mo m1) :: (m1, .map es ck) :: (rt, rtabO (.slice ar (ordE L).length cr) mo) :: (lA ++ (lB ++ lr))) (hF.1 hp3) (by simp only [hp3, hp7, cond_true] at hw; exact hw) (fun q hq => by first | (simp [hq]; done) | (simp at hq; simp [hq]; done) | (simp at hq; subst hq; simp))) (vec_rowM (l := (b8, cb (cO oo) 76) :: (t1, tabO mo m1) :: (m1, .map es ck) :: (rt, rtabO (.slice ar (ordE L).length cr) mo) :: (lA ++ (lB ++ lr))) (hF.2.1 hp7) (by simp only [hp3, hp7, cond_true] at hw; exact hw) (fun q hq => by first | (simp [hq]; done) | (simp at hq; simp [hq]; done) | (simp at hq; subst hq; simp))) (fun x hx => ordE_ok hT x (List.mem_filter.1 hx).1) (fun x hx => ordE_ok hT x (List.mem_filter.1 hx).1) (by omega) (by omega); simpa using h)) ?_
                    exact J.nil (JX.finB rfl (fun w1 hw => ⟨⟨⟨vA, lA, vB, lB⟩, rfl, fun _ _ _ => rfl, hF, hw⟩, trivial⟩))
                  · skip
                    obtain ⟨vA, lA, vB, lB⟩ := x
                    show J _ _ _ _ _ ((117, .bool true) :: _) (fun w1 => ((m 3 = true → Vec 34 51 vA ((ordE L).filter (viaB oo.n)).length (fE ((ordE L).filter (viaB oo.n))) lA) ∧ (m 7 = true → Vec 34 51 vB ((ordE L).filter (viaB oo.n)).length (fE ((ordE L).filter (viaB oo.n))) lB) ∧ (m 7 = true → m 3 = true)) ∧ St w [] ((b8, cb (cO oo) 76) :: (t1, tabO mo m1) :: (m1, .map es ck) :: (rt, rtabO (.slice ar (ordE L).length cr) mo) :: ((bif m 3 then lA else []) ++ ((bif m 7 then lB else []) ++ lr))) w1)
                    refine J.pr (fun hF => ?_)
                    refine J.not rfl rfl ?_
                    exact J.nil (JX.finB rfl (fun w1 hw => ⟨⟨⟨vA, lA, vB, lB⟩, rfl, fun _ _ _ => rfl, hF, hw⟩, trivial⟩))
                case htail =>
                  intro x
                  obtain ⟨vA, lA, vB, lB⟩ := x
                  show J _ _ _ _ _ ((118, .bool false) :: (117, .bool true) :: (116, vB) :: (115, .int .i64 oo.n) :: (114, .pointer (some ⟨b8, 0 + 1, none⟩)) :: (113, .pointer (some ⟨rt, 0, none⟩)) :: (112, vA) :: (111, .int .i64 oo.n) :: (110, .pointer (some ⟨b8, 0 + 1, none⟩)) :: (109, .pointer (some ⟨t1, 0, none⟩)) :: _) (fun w1 => ((true = true → Vec 34 51 vA ((ordE L).filter (viaB oo.n)).length (fE ((ordE L).filter (viaB oo.n))) lA) ∧ (true = true → Vec 34 51 vB ((ordE L).filter (viaB oo.n)).length (fE ((ordE L).filter (viaB oo.n))) lB) ∧ (true = true → true = true)) ∧ St w [] ((b8, cb (cO oo) 76) :: (t1, tabO mo m1) :: (m1, .map es ck) :: (rt, rtabO (.slice ar (ordE L).length cr) mo) :: ((bif true then lA else []) ++ ((bif true then lB else []) ++ lr))) w1)
                  refine J.pr (fun hF => ?_)
                  refine J.conseq (I' := St w [] ((t1, tabO mo m1) :: (m1, .map es ck) :: (rt, rtabO (.slice ar (ordE L).length cr) mo) :: lr)) ?_ (fun w1 hw => by simp only [cond_true] at hw; exact hw.drop (.cons _ (.cons_cons _ (.cons_cons _ (.cons_cons _ ((List.sublist_append_right lB lr).trans (List.sublist_append_right lA _)))))))
                  refine J.nil ?_
                  refine JX.thenN (hK28 _ _ ?_)
                  first | refine JC.condF rfl ?_ | refine JC.cond rfl (fun h => by first | (exfalso; simp at h; omega) | (simp at h)) (fun _ => ?_)
                  refine JC.skip ?_
                  refine JX.blockN ?_
                  refine JX.thenN ?_
                  exact JX.cut (hK14 ((L, es, ck, .slice ar (ordE L).length cr, lr))) ⟨rfl, rfl, rfl, rfl, rfl, trivial⟩ (fun w1 hw => ⟨⟨hT, hgood, hvr⟩, hw⟩)
              · skip
                try simp only [decide_eq_true_eq, decide_eq_false_iff_not, beq_iff_eq, bne_iff_ne, bne_eq_false_iff_eq, ne_eq, beq_eq_false_iff_ne, Bool.not_eq_true, Bool.not_eq_false, Int.not_lt, Int.not_le] at h9
                refine JC.seq (fun K29 hK29 => ?_)
                refine JC.region ?_
                refine J.bin rfl rfl rfl rfl ?_
                refine J.assign rfl rfl ?_
                refine J.nil ?_
                refine JX.thenN (hK29 _ _ ?_)
                refine JC.cond rfl (fun h11 => ?_) (fun h11 => ?_)
                · skip
                  try simp only [decide_eq_true_eq, decide_eq_false_iff_not, beq_iff_eq, bne_iff_ne, bne_eq_false_iff_eq, ne_eq, beq_eq_false_iff_ne, Bool.not_eq_true, Bool.not_eq_false, Int.not_lt, Int.not_le] at h11
                  refine JC.seq (fun K30 hK30 => ?_)
                  apply JC.drawX (α := Value × List (Nat × Obj) × Value × List (Nat × Obj)) 12 (fun x => match x with | ⟨vA, lA, vB, lB⟩ => [.pointer (some ⟨t1, 0, none⟩), .pointer (some ⟨b8, 0 + 2, none⟩), .pointer (some ⟨b8, 0 + 2 + 17, none⟩), .agg (cI oo.x.a).toArray, vA, .pointer (some ⟨rt, 0, none⟩), .pointer (some ⟨b8, 0 + 2, none⟩), .pointer (some ⟨b8, 0 + 2 + 17, none⟩), .agg (cI oo.x.a).toArray, vB, .bool true, .bool false]) (fun m x => match x with | ⟨vA, lA, vB, lB⟩ => fun w1 => ((m 4 = true → Vec 34 51 vA ((ordE L).filter (toB oo.x.a)).length (fE ((ordE L).filter (toB oo.x.a))) lA) ∧ (m 9 = true → Vec 34 51 vB ((ordE L).filter (toB oo.x.a)).length (fE ((ordE L).filter (toB oo.x.a))) lB) ∧ (m 9 = true → m 4 = true)) ∧ St w [] ((b8, cb (cO oo) 76) :: (t1, tabO mo m1) :: (m1, .map es ck) :: (rt, rtabO (.slice ar (ordE L).length cr) mo) :: ((bif m 4 then lA else []) ++ ((bif m 9 then lB else []) ++ lr))) w1) Ty.mixed rfl rfl rfl (by kernel_rfl) rfl rfl ?hinit ?hstep ?htail
                  case hinit => exact fun w1 hw => ⟨(.slice none 0 0, [], .slice none 0 0, []), ⟨fun h => (by cases h), fun h => (by cases h), fun h => (by cases h)⟩, hw.drew⟩
                  case hstep =>
                    refine ⟨fun m x hm hp => ?_, fun m x hm hp => ?_, fun m x hm hp => ?_, fun m x hm hp => ?_, fun m x hm hp => ?_, fun m x hm hp => ?_, fun m x hm hp => ?_, fun m x hm hp => ?_, fun m x hm hp => ?_, fun m x hm hp => ?_, fun m x hm hp => ?_, fun m x hm hp => ?_, trivial⟩
                    · skip
                      obtain ⟨vA, lA, vB, lB⟩ := x
                      show J _ _ _ _ _ (_) (fun w1 => ((m 4 = true → Vec 34 51 vA ((ordE L).filter (toB oo.x.a)).length (fE ((ordE L).filter (toB oo.x.a))) lA) ∧ (m 9 = true → Vec 34 51 vB ((ordE L).filter (toB oo.x.a)).length (fE ((ordE L).filter (toB oo.x.a))) lB) ∧ (m 9 = true → m 4 = true)) ∧ St w [] ((b8, cb (cO oo) 76) :: (t1, tabO mo m1) :: (m1, .map es ck) :: (rt, rtabO (.slice ar (ordE L).length cr) mo) :: ((bif m 4 then lA else []) ++ ((bif m 9 then lB else []) ++ lr))) w1)
                      refine J.pr (fun hF => ?_)
                      refine J.move rfl rfl ?_
                      exact J.nil (JX.finB rfl (fun w1 hw => ⟨⟨⟨vA, lA, vB, lB⟩, rfl, fun _ _ _ => rfl, hF, hw⟩, trivial⟩))
                    · skip
                      obtain ⟨vA, lA, vB, lB⟩ := x
                      show J _ _ _ _ _ (_) (fun w1 => ((m 4 = true → Vec 34 51 vA ((ordE L).filter (toB oo.x.a)).length (fE ((ordE L).filter (toB oo.x.a))) lA) ∧ (m 9 = true → Vec 34 51 vB ((ordE L).filter (toB oo.x.a)).length (fE ((ordE L).filter (toB oo.x.a))) lB) ∧ (m 9 = true → m 4 = true)) ∧ St w [] ((b8, cb (cO oo) 76) :: (t1, tabO mo m1) :: (m1, .map es ck) :: (rt, rtabO (.slice ar (ordE L).length cr) mo) :: ((bif m 4 then lA else []) ++ ((bif m 9 then lB else []) ++ lr))) w1)
                      refine J.pr (fun hF => ?_)
                      refine J.fieldAddr Ty.fd76_2 rfl rfl ?_
                      exact J.nil (JX.finB rfl (fun w1 hw => ⟨⟨⟨vA, lA, vB, lB⟩, rfl, fun _ _ _ => rfl, hF, hw⟩, trivial⟩))
                    · skip
                      obtain ⟨vA, lA, vB, lB⟩ := x
                      show J _ _ _ _ _ ((122, .pointer (some ⟨b8, 0 + 2, none⟩)) :: _) (fun w1 => ((m 4 = true → Vec 34 51 vA ((ordE L).filter (toB oo.x.a)).length (fE ((ordE L).filter (toB oo.x.a))) lA) ∧ (m 9 = true → Vec 34 51 vB ((ordE L).filter (toB oo.x.a)).length (fE ((ordE L).filter (toB oo.x.a))) lB) ∧ (m 9 = true → m 4 = true)) ∧ St w [] ((b8, cb (cO oo) 76) :: (t1, tabO mo m1) :: (m1, .map es ck) :: (rt, rtabO (.slice ar (ordE L).length cr) mo) :: ((bif m 4 then lA else []) ++ ((bif m 9 then lB else []) ++ lr))) w1)
                      refine J.pr (fun hF => ?_)
                      refine J.fieldAddr Ty.fd34_1 rfl rfl ?_
                      exact J.nil (JX.finB rfl (fun w1 hw => ⟨⟨⟨vA, lA, vB, lB⟩, rfl, fun _ _ _ => rfl, hF, hw⟩, trivial⟩))
                    · skip
                      obtain ⟨vA, lA, vB, lB⟩ := x
                      show J _ _ _ _ _ ((123, .pointer (some ⟨b8, 0 + 2 + 17, none⟩)) :: _) (fun w1 => ((m 4 = true → Vec 34 51 vA ((ordE L).filter (toB oo.x.a)).length (fE ((ordE L).filter (toB oo.x.a))) lA) ∧ (m 9 = true → Vec 34 51 vB ((ordE L).filter (toB oo.x.a)).length (fE ((ordE L).filter (toB oo.x.a))) lB) ∧ (m 9 = true → m 4 = true)) ∧ St w [] ((b8, cb (cO oo) 76) :: (t1, tabO mo m1) :: (m1, .map es ck) :: (rt, rtabO (.slice ar (ordE L).length cr) mo) :: ((bif m 4 then lA else []) ++ ((bif m 9 then lB else []) ++ lr))) w1)
                      refine J.pr (fun hF => ?_)
                      refine J.loadA (vs := cI oo.x.a) Ty.a23 Ty.s23 rfl rfl (fun w1 hw => Cells.of_block (hw.own _ (.head _)) rfl) rfl ?_
                      exact J.nil (JX.finB rfl (fun w1 hw => ⟨⟨⟨vA, lA, vB, lB⟩, rfl, fun _ _ _ => rfl, hF, hw⟩, trivial⟩))
                    · skip
                      obtain ⟨vA, lA, vB, lB⟩ := x
                      show J _ _ _ _ _ ((124, .agg (cI oo.x.a).toArray) :: (121, .pointer (some ⟨t1, 0, none⟩)) :: _) (fun w1 => ((m 4 = true → Vec 34 51 vA ((ordE L).filter (toB oo.x.a)).length (fE ((ordE L).filter (toB oo.x.a))) lA) ∧ (m 9 = true → Vec 34 51 vB ((ordE L).filter (toB oo.x.a)).length (fE ((ordE L).filter (toB oo.x.a))) lB) ∧ (m 9 = true → m 4 = true)) ∧ St w [] ((b8, cb (cO oo) 76) :: (t1, tabO mo m1) :: (m1, .map es ck) :: (rt, rtabO (.slice ar (ordE L).length cr) mo) :: ((bif m 4 then lA else []) ++ ((bif m 9 then lB else []) ++ lr))) w1)
                      refine J.pr (fun hF => ?_)
                      have h9 : m 9 = false := by cases h : m 9 with
                        | false => rfl
                        | true => rw [hF.2.2 h] at hm; cases hm
                      refine J.conseq (I' := St w [] ((b8, cb (cO oo) 76) :: (t1, tabO mo m1) :: (m1, .map es ck) :: (rt, rtabO (.slice ar (ordE L).length cr) mo) :: lr)) ?_ (fun w1 hw => by simp only [hm, h9, cond_true, cond_false, List.nil_append] at hw; exact hw)
                      refine J.perm ([] ++ ((b8, cb (cO oo) 76) :: (t1, tabO mo m1) :: (m1, .map es ck) :: (rt, rtabO (.slice ar (ordE L).length cr) mo) :: lr)) (.refl _) ?_
                      refine J.callS (α := Value × List (Nat × Obj)) (V := (·.1)) (Pr := fun x => Vec 34 51 x.1 ((ordE L).filter (toB oo.x.a)).length (fE ((ordE L).filter (toB oo.x.a))) x.2) (L := (·.2)) (l1 := []) Ty.bd28 rfl rfl (fun w1 hw => to_spec t1 m1 mo (L) es ck w1 (hw.own _ (.tail _ (.head _))) (hw.own _ (.tail _ (.tail _ (.head _)))) hT (by omega) oo.x.a) (fun x hvn => ?_)
                      obtain ⟨vn, ln⟩ := x
                      simp only at hvn ⊢
                      refine J.nil (JX.finB rfl (fun w1 hw => ⟨⟨⟨vn, ln, vB, lB⟩, rfl, fun j h1 h2 => ?_, ?_⟩, trivial⟩))
                      · match j, h1 with
                        | 0, _ => (first | rfl | trivial)
                        | 1, _ => (first | rfl | trivial)
                        | 2, _ => (first | rfl | trivial)
                        | 3, _ => (first | rfl | trivial)
                        | 4, _ => exact absurd (h2.symm.trans hm) (by decide)
                        | 5, _ => (first | rfl | trivial)
                        | 6, _ => (first | rfl | trivial)
                        | 7, _ => (first | rfl | trivial)
                        | 8, _ => (first | rfl | trivial)
                        | 9, _ => (first | rfl | trivial)
                        | 10, _ => (first | rfl | trivial)
                        | 11, _ => (first | rfl | trivial)
                        | j + 12, h1 => omega
                      show ((true = true → Vec 34 51 vn ((ordE L).filter (toB oo.x.a)).length (fE ((ordE L).filter (toB oo.x.a))) ln) ∧ (m 9 = true → Vec 34 51 vB ((ordE L).filter (toB oo.x.a)).length (fE ((ordE L).filter (toB oo.x.a))) lB) ∧ (m 9 = true → true = true)) ∧ St w [] ((b8, cb (cO oo) 76) :: (t1, tabO mo m1) :: (m1, .map es ck) :: (rt, rtabO (.slice ar (ordE L).length cr) mo) :: ((bif true then ln else []) ++ ((bif m 9 then lB else []) ++ lr))) w1
                      simp only [hm, h9, cond_true, cond_false] at hw ⊢
                      exact ⟨⟨fun _ => hvn, fun h => (by cases h), fun h => (by cases h)⟩, hw.perm (by (refine perm_cnt (fun _ => ?_)); simp only [cntB_append, cntB_cons, cntB_nil, Nat.add_zero, Nat.zero_add]; try ac_rfl)⟩
                    · skip
                      obtain ⟨vA, lA, vB, lB⟩ := x
                      show J _ _ _ _ _ (_) (fun w1 => ((m 4 = true → Vec 34 51 vA ((ordE L).filter (toB oo.x.a)).length (fE ((ordE L).filter (toB oo.x.a))) lA) ∧ (m 9 = true → Vec 34 51 vB ((ordE L).filter (toB oo.x.a)).length (fE ((ordE L).filter (toB oo.x.a))) lB) ∧ (m 9 = true → m 4 = true)) ∧ St w [] ((b8, cb (cO oo) 76) :: (t1, tabO mo m1) :: (m1, .map es ck) :: (rt, rtabO (.slice ar (ordE L).length cr) mo) :: ((bif m 4 then lA else []) ++ ((bif m 9 then lB else []) ++ lr))) w1)
                      refine J.pr (fun hF => ?_)
                      refine J.move rfl rfl ?_
                      exact J.nil (JX.finB rfl (fun w1 hw => ⟨⟨⟨vA, lA, vB, lB⟩, rfl, fun _ _ _ => rfl, hF, hw⟩, trivial⟩))
                    · skip
                      obtain ⟨vA, lA, vB, lB⟩ := x
                      show J _ _ _ _ _ (_) (fun w1 => ((m 4 = true → Vec 34 51 vA ((ordE L).filter (toB oo.x.a)).length (fE ((ordE L).filter (toB oo.x.a))) lA) ∧ (m 9 = true → Vec 34 51 vB ((ordE L).filter (toB oo.x.a)).length (fE ((ordE L).filter (toB oo.x.a))) lB) ∧ (m 9 = true → m 4 = true)) ∧ St w [] ((b8, cb (cO oo) 76) :: (t1, tabO mo m1) :: (m1, .map es ck) :: (rt, rtabO (.slice ar (ordE L).length cr) mo) :: ((bif m 4 then lA else []) ++ ((bif m 9 then lB else []) ++ lr))) w1)
                      refine J.pr (fun hF => ?_)
                      refine J.fieldAddr Ty.fd76_2 rfl rfl ?_
                      exact J.nil (JX.finB rfl (fun w1 hw => ⟨⟨⟨vA, lA, vB, lB⟩, rfl, fun _ _ _ => rfl, hF, hw⟩, trivial⟩))
                    · skip
                      obtain ⟨vA, lA, vB, lB⟩ := x
                      show J _ _ _ _ _ ((127, .pointer (some ⟨b8, 0 + 2, none⟩)) :: _) (fun w1 => ((m 4 = true → Vec 34 51 vA ((ordE L).filter (toB oo.x.a)).length (fE ((ordE L).filter (toB oo.x.a))) lA) ∧ (m 9 = true → Vec 34 51 vB ((ordE L).filter (toB oo.x.a)).length (fE ((ordE L).filter (toB oo.x.a))) lB) ∧ (m 9 = true → m 4 = true)) ∧ St w [] ((b8, cb (cO oo) 76) :: (t1, tabO mo m1) :: (m1, .map es ck) :: (rt, rtabO (.slice ar (ordE L).length cr) mo) :: ((bif m 4 then lA else []) ++ ((bif m 9 then lB else []) ++ lr))) w1)
                      refine J.pr (fun hF => ?_)
                      refine J.fieldAddr Ty.fd34_1 rfl rfl ?_
                      exact J.nil (JX.finB rfl (fun w1 hw => ⟨⟨⟨vA, lA, vB, lB⟩, rfl, fun _ _ _ => rfl, hF, hw⟩, trivial⟩))
                    · skip
                      obtain ⟨vA, lA, vB, lB⟩ := x
                      show J _ _ _ _ _ ((128, .pointer (some ⟨b8, 0 + 2 + 17, none⟩)) :: _) (fun w1 => ((m 4 = true → Vec 34 51 vA ((ordE L).filter (toB oo.x.a)).length (fE ((ordE L).filter (toB oo.x.a))) lA) ∧ (m 9 = true → Vec 34 51 vB ((ordE L).filter (toB oo.x.a)).length (fE ((ordE L).filter (toB oo.x.a))) lB) ∧ (m 9 = true → m 4 = true)) ∧ St w [] ((b8, cb (cO oo) 76) :: (t1, tabO mo m1) :: (m1, .map es ck) :: (rt, rtabO (.slice ar (ordE L).length cr) mo) :: ((bif m 4 then lA else []) ++ ((bif m 9 then lB else []) ++ lr))) w1)
                      refine J.pr (fun hF => ?_)
                      refine J.loadA (vs := cI oo.x.a) Ty.a23 Ty.s23 rfl rfl (fun w1 hw => Cells.of_block (hw.own _ (.head _)) rfl) rfl ?_
                      exact J.nil (JX.finB rfl (fun w1 hw => ⟨⟨⟨vA, lA, vB, lB⟩, rfl, fun _ _ _ => rfl, hF, hw⟩, trivial⟩))
                    · skip
                      obtain ⟨vA, lA, vB, lB⟩ := x
                      show J _ _ _ _ _ ((125, vA) :: (129, .agg (cI oo.x.a).toArray) :: (126, .pointer (some ⟨rt, 0, none⟩)) :: _) (fun w1 => ((m 4 = true → Vec 34 51 vA ((ordE L).filter (toB oo.x.a)).length (fE ((ordE L).filter (toB oo.x.a))) lA) ∧ (m 9 = true → Vec 34 51 vB ((ordE L).filter (toB oo.x.a)).length (fE ((ordE L).filter (toB oo.x.a))) lB) ∧ (m 9 = true → m 4 = true)) ∧ St w [] ((b8, cb (cO oo) 76) :: (t1, tabO mo m1) :: (m1, .map es ck) :: (rt, rtabO (.slice ar (ordE L).length cr) mo) :: ((bif m 4 then lA else []) ++ ((bif m 9 then lB else []) ++ lr))) w1)
                      have hp4 : m 4 = true := predsT hp (by kernel_rfl)
                      refine J.pr (fun hF => ?_)
                      refine J.conseq (I' := St w [] ((b8, cb (cO oo) 76) :: (t1, tabO mo m1) :: (m1, .map es ck) :: (rt, rtabO (.slice ar (ordE L).length cr) mo) :: (lA ++ lr))) ?_ (fun w1 hw => by simp only [hm, hp4, cond_true, cond_false, List.nil_append] at hw; exact hw)
                      refine J.perm ([] ++ ((b8, cb (cO oo) 76) :: (t1, tabO mo m1) :: (m1, .map es ck) :: (rt, rtabO (.slice ar (ordE L).length cr) mo) :: (lA ++ lr))) (.refl _) ?_
                      refine J.callS (α := Value × List (Nat × Obj)) (V := (·.1)) (Pr := fun x => Vec 34 51 x.1 ((ordE L).filter (toB oo.x.a)).length (fE ((ordE L).filter (toB oo.x.a))) x.2) (L := (·.2)) (l1 := []) Ty.bd42 rfl rfl (fun w1 hw => rto_spec rt _ mo (ordE L) w1 (hw.own _ (.tail _ (.tail _ (.tail _ (.head _))))) (vec_rowM hvr hw (fun q hq => by first | (simp [hq]; done) | (simp at hq; simp [hq]; done) | (simp at hq; subst hq; simp))) (ordE_ok hT) (by omega) oo.x.a) (fun x hvn => ?_)
                      obtain ⟨vn, ln⟩ := x
                      simp only at hvn ⊢
                      refine J.nil (JX.finB rfl (fun w1 hw => ⟨⟨⟨vA, lA, vn, ln⟩, rfl, fun j h1 h2 => ?_, ?_⟩, trivial⟩))
                      · match j, h1 with
                        | 0, _ => (first | rfl | trivial)
                        | 1, _ => (first | rfl | trivial)
                        | 2, _ => (first | rfl | trivial)
                        | 3, _ => (first | rfl | trivial)
                        | 4, _ => (first | rfl | trivial)
                        | 5, _ => (first | rfl | trivial)
                        | 6, _ => (first | rfl | trivial)
                        | 7, _ => (first | rfl | trivial)
                        | 8, _ => (first | rfl | trivial)
                        | 9, _ => exact absurd (h2.symm.trans hm) (by decide)
                        | 10, _ => (first | rfl | trivial)
                        | 11, _ => (first | rfl | trivial)
                        | j + 12, h1 => omega
                      show ((m 4 = true → Vec 34 51 vA ((ordE L).filter (toB oo.x.a)).length (fE ((ordE L).filter (toB oo.x.a))) lA) ∧ (true = true → Vec 34 51 vn ((ordE L).filter (toB oo.x.a)).length (fE ((ordE L).filter (toB oo.x.a))) ln) ∧ (true = true → m 4 = true)) ∧ St w [] ((b8, cb (cO oo) 76) :: (t1, tabO mo m1) :: (m1, .map es ck) :: (rt, rtabO (.slice ar (ordE L).length cr) mo) :: ((bif m 4 then lA else []) ++ ((bif true then ln else []) ++ lr))) w1
                      simp only [hm, hp4, cond_true, cond_false] at hw ⊢
                      exact ⟨⟨fun _ => hF.1 hp4, fun _ => hvn, fun _ => (by first | trivial | rfl)⟩, hw.perm (by (refine perm_cnt (fun _ => ?_)); simp only [cntB_append, cntB_cons, cntB_nil, Nat.add_zero, Nat.zero_add]; try ac_rfl)⟩
                    · skip
                      obtain ⟨vA, lA, vB, lB⟩ := x
                      show J _ _ _ _ _ ((130, vB) :: (130, vB) :: (125, vA) :: _) (fun w1 => ((m 4 = true → Vec 34 51 vA ((ordE L).filter (toB oo.x.a)).length (fE ((ordE L).filter (toB oo.x.a))) lA) ∧ (m 9 = true → Vec 34 51 vB ((ordE L).filter (toB oo.x.a)).length (fE ((ordE L).filter (toB oo.x.a))) lB) ∧ (m 9 = true → m 4 = true)) ∧ St w [] ((b8, cb (cO oo) 76) :: (t1, tabO mo m1) :: (m1, .map es ck) :: (rt, rtabO (.slice ar (ordE L).length cr) mo) :: ((bif m 4 then lA else []) ++ ((bif m 9 then lB else []) ++ lr))) w1)
                      have hp4 : m 4 = true := predsT hp (by kernel_rfl)
                      have hp9 : m 9 = true := predsT hp (by kernel_rfl)
                      have hp9 : m 9 = true := predsT hp (by kernel_rfl)
                      refine J.pr (fun hF => ?_)
                      have hfl : ((ordE L).filter (toB oo.x.a)).length ≤ (ordE L).length := List.length_filter_le _ _
                      refine J.callB (v := .bool true) (fun w1 w2 hw hb => hw.step hb) Ty.bd26 rfl rfl (fun w1 hw => (by have h := rsame_spec _ _ ((ordE L).filter (toB oo.x.a)) ((ordE L).filter (toB oo.x.a)) w1 (vec_rowM (l := (b8, cb (cO oo) 76) :: (t1, tabO mo m1) :: (m1, .map es ck) :: (rt, rtabO (.slice ar (ordE L).length cr) mo) :: (lA ++ (lB ++ lr))) (hF.1 hp4) (by simp only [hp4, hp9, cond_true] at hw; exact hw) (fun q hq => by first | (simp [hq]; done) | (simp at hq; simp [hq]; done) | (simp at hq; subst hq; simp))) (vec_rowM (l := (b8, cb (cO oo) 76) :: (t1, tabO mo m1) :: (m1, .map es ck) :: (rt, rtabO (.slice ar (ordE L).length cr) mo) :: (lA ++ (lB ++ lr))) (hF.2.1 hp9) (by simp only [hp4, hp9, cond_true] at hw; exact hw) (fun q hq => by first | (simp [hq]; done) | (simp at hq; simp [hq]; done) | (simp at hq; subst hq; simp))) (fun x hx => ordE_ok hT x (List.mem_filter.1 hx).1) (fun x hx => ordE_ok hT x (List.mem_filter.1 hx).1) (by omega) (by omega); simpa using h)) ?_
                      exact J.nil (JX.finB rfl (fun w1 hw => ⟨⟨⟨vA, lA, vB, lB⟩, rfl, fun _ _ _ => rfl, hF, hw⟩, trivial⟩))
                    · skip
                      obtain ⟨vA, lA, vB, lB⟩ := x
                      show J _ _ _ _ _ ((131, .bool true) :: _) (fun w1 => ((m 4 = true → Vec 34 51 vA ((ordE L).filter (toB oo.x.a)).length (fE ((ordE L).filter (toB oo.x.a))) lA) ∧ (m 9 = true → Vec 34 51 vB ((ordE L).filter (toB oo.x.a)).length (fE ((ordE L).filter (toB oo.x.a))) lB) ∧ (m 9 = true → m 4 = true)) ∧ St w [] ((b8, cb (cO oo) 76) :: (t1, tabO mo m1) :: (m1, .map es ck) :: (rt, rtabO (.slice ar (ordE L).length cr) mo) :: ((bif m 4 then lA else []) ++ ((bif m 9 then lB else []) ++ lr))) w1)
                      refine J.pr (fun hF => ?_)
                      refine J.not rfl rfl ?_
                      exact J.nil (JX.finB rfl (fun w1 hw => ⟨⟨⟨vA, lA, vB, lB⟩, rfl, fun _ _ _ => rfl, hF, hw⟩, trivial⟩))
                  case htail =>
                    intro x
                    obtain ⟨vA, lA, vB, lB⟩ := x
                    show J _ _ _ _ _ ((132, .bool false) :: (131, .bool true) :: (130, vB) :: (129, .agg (cI oo.x.a).toArray) :: (128, .pointer (some ⟨b8, 0 + 2 + 17, none⟩)) :: (127, .pointer (some ⟨b8, 0 + 2, none⟩)) :: (126, .pointer (some ⟨rt, 0, none⟩)) :: (125, vA) :: (124, .agg (cI oo.x.a).toArray) :: (123, .pointer (some ⟨b8, 0 + 2 + 17, none⟩)) :: (122, .pointer (some ⟨b8, 0 + 2, none⟩)) :: (121, .pointer (some ⟨t1, 0, none⟩)) :: _) (fun w1 => ((true = true → Vec 34 51 vA ((ordE L).filter (toB oo.x.a)).length (fE ((ordE L).filter (toB oo.x.a))) lA) ∧ (true = true → Vec 34 51 vB ((ordE L).filter (toB oo.x.a)).length (fE ((ordE L).filter (toB oo.x.a))) lB) ∧ (true = true → true = true)) ∧ St w [] ((b8, cb (cO oo) 76) :: (t1, tabO mo m1) :: (m1, .map es ck) :: (rt, rtabO (.slice ar (ordE L).length cr) mo) :: ((bif true then lA else []) ++ ((bif true then lB else []) ++ lr))) w1)
                    refine J.pr (fun hF => ?_)
                    refine J.conseq (I' := St w [] ((t1, tabO mo m1) :: (m1, .map es ck) :: (rt, rtabO (.slice ar (ordE L).length cr) mo) :: lr)) ?_ (fun w1 hw => by simp only [cond_true] at hw; exact hw.drop (.cons _ (.cons_cons _ (.cons_cons _ (.cons_cons _ ((List.sublist_append_right lB lr).trans (List.sublist_append_right lA _)))))))
                    refine J.nil ?_
                    refine JX.thenN (hK30 _ _ ?_)
                    first | refine JC.condF rfl ?_ | refine JC.cond rfl (fun h => by first | (exfalso; simp at h; omega) | (simp at h)) (fun _ => ?_)
                    refine JC.skip ?_
                    refine JX.blockN ?_
                    refine JX.thenN ?_
                    exact JX.cut (hK14 ((L, es, ck, .slice ar (ordE L).length cr, lr))) ⟨rfl, rfl, rfl, rfl, rfl, trivial⟩ (fun w1 hw => ⟨⟨hT, hgood, hvr⟩, hw⟩)
                · skip
                  try simp only [decide_eq_true_eq, decide_eq_false_iff_not, beq_iff_eq, bne_iff_ne, bne_eq_false_iff_eq, ne_eq, beq_eq_false_iff_ne, Bool.not_eq_true, Bool.not_eq_false, Int.not_lt, Int.not_le] at h11
                  refine JC.seq (fun K31 hK31 => ?_)
                  refine JC.region ?_
                  refine J.move rfl rfl ?_
                  have hfl : ((ordE L).filter ownB).length ≤ (ordE L).length := List.length_filter_le _ _
                  refine J.perm ([] ++ ((b8, cb (cO oo) 76) :: (t1, tabO mo m1) :: (m1, .map es ck) :: (rt, rtabO (.slice ar (ordE L).length cr) mo) :: lr)) (.refl _) ?_
                  refine J.callS (α := Value × List (Nat × Obj)) (V := (·.1)) (Pr := fun x => Vec 34 51 x.1 ((ordE L).filter ownB).length (fE ((ordE L).filter ownB)) x.2) (L := (·.2)) (l1 := []) Ty.bd43 rfl rfl (fun w1 hw => own_spec t1 m1 mo (L) es ck w1 (hw.own _ (.tail _ (.head _))) (hw.own _ (.tail _ (.tail _ (.head _)))) hT (by omega)) (fun x hvA => ?_)
                  obtain ⟨vA, lA⟩ := x
                  simp only at hvA ⊢
                  refine J.move rfl rfl ?_
                  refine J.perm (lA ++ ((b8, cb (cO oo) 76) :: (t1, tabO mo m1) :: (m1, .map es ck) :: (rt, rtabO (.slice ar (ordE L).length cr) mo) :: lr)) (.refl _) ?_
                  refine J.perm ([] ++ (lA ++ ((b8, cb (cO oo) 76) :: (t1, tabO mo m1) :: (m1, .map es ck) :: (rt, rtabO (.slice ar (ordE L).length cr) mo) :: lr))) (.refl _) ?_
                  refine J.callS (α := Value × List (Nat × Obj)) (V := (·.1)) (Pr := fun x => Vec 34 51 x.1 ((ordE L).filter ownB).length (fE ((ordE L).filter ownB)) x.2) (L := (·.2)) (l1 := []) Ty.bd44 rfl rfl (fun w1 hw => rown_spec rt _ mo (ordE L) w1 (hw.own _ (List.mem_append_right _ (List.mem_append_right _ (.tail _ (.tail _ (.tail _ (.head _))))))) (vec_rowM hvr hw (fun q hq => by first | (simp [hq]; done) | (simp at hq; simp [hq]; done) | (simp at hq; subst hq; simp))) (ordE_ok hT) (by omega)) (fun x hvB => ?_)
                  obtain ⟨vB, lB⟩ := x
                  simp only at hvB ⊢
                  refine J.perm (lB ++ (lA ++ ((b8, cb (cO oo) 76) :: (t1, tabO mo m1) :: (m1, .map es ck) :: (rt, rtabO (.slice ar (ordE L).length cr) mo) :: lr))) (.refl _) ?_
                  refine J.callB (v := .bool true) (fun w1 w2 hw hb => hw.step hb) Ty.bd26 rfl rfl (fun w1 hw => (by have h := rsame_spec _ _ ((ordE L).filter ownB) ((ordE L).filter ownB) w1 (vec_rowM hvA hw (fun q hq => by first | (simp [hq]; done) | (simp at hq; simp [hq]; done) | (simp at hq; subst hq; simp))) (vec_rowM hvB hw (fun q hq => by first | (simp [hq]; done) | (simp at hq; simp [hq]; done) | (simp at hq; subst hq; simp))) (fun x hx => ordE_ok hT x (List.mem_filter.1 hx).1) (fun x hx => ordE_ok hT x (List.mem_filter.1 hx).1) (by omega) (by omega); simpa using h)) ?_
                  refine J.not rfl rfl ?_
                  refine J.nil ?_
                  refine JX.thenN (hK31 _ _ ?_)
                  first | refine JC.condF rfl ?_ | refine JC.cond rfl (fun h => by first | (exfalso; simp at h; omega) | (simp at h)) (fun _ => ?_)
                  refine JC.skip ?_
                  refine JX.blockN ?_
                  refine JX.thenN ?_
                  exact JX.cut (hK14 ((L, es, ck, .slice ar (ordE L).length cr, lr))) ⟨rfl, rfl, rfl, rfl, rfl, trivial⟩ (fun w1 hw => ⟨⟨hT, hgood, hvr⟩, hw.drop ((List.sublist_cons_self _ _).trans ((List.sublist_append_right lA _).trans (List.sublist_append_right lB _)))⟩)
  · skip
    try simp only [decide_eq_true_eq, decide_eq_false_iff_not, beq_iff_eq, bne_iff_ne, bne_eq_false_iff_eq, ne_eq, beq_eq_false_iff_ne, Bool.not_eq_true, Bool.not_eq_false, Int.not_lt, Int.not_le] at h1
    refine JC.exit ?_
    refine JX.thenE ?_
    refine JX.thenE ?_
    refine JX.blockE ?_
    refine JX.thenN (hK5 _ _ ?_)
    refine JC.seq (fun K32 hK32 => ?_)
    apply JC.drawX (α := Value × List (Nat × Obj)) 7 (fun x => match x with | ⟨vz, lz⟩ => [.pointer (some ⟨t1, 0, none⟩), vz, .pointer (some ⟨rt, 0, none⟩), .pointer (some ⟨rt, 0, none⟩), .pointer (some ⟨rt, 0 + 0, none⟩), .slice ar (ordE L).length cr, .bool true]) (fun m x => match x with | ⟨vz, lz⟩ => fun w1 => (m 1 = true → Vec 34 51 vz ((ordE L)).length (fE ((ordE L))) lz) ∧ St w [] ((t1, tabO mo m1) :: (m1, .map es ck) :: (rt, rtabO (.slice ar (ordE L).length cr) mo) :: ((bif m 1 then lz else []) ++ lr)) w1) Ty.mixed rfl rfl rfl (by kernel_rfl) rfl rfl ?hinit ?hstep ?htail
    case hinit => exact fun w1 hw => ⟨(.slice none 0 0, []), fun h => (by cases h), hw.drew⟩
    case hstep =>
      refine ⟨fun m x hm hp => ?_, fun m x hm hp => ?_, fun m x hm hp => ?_, fun m x hm hp => ?_, fun m x hm hp => ?_, fun m x hm hp => ?_, fun m x hm hp => ?_, trivial⟩
      · skip
        obtain ⟨vz, lz⟩ := x
        show J _ _ _ _ _ (_) (fun w1 => (m 1 = true → Vec 34 51 vz ((ordE L)).length (fE ((ordE L))) lz) ∧ St w [] ((t1, tabO mo m1) :: (m1, .map es ck) :: (rt, rtabO (.slice ar (ordE L).length cr) mo) :: ((bif m 1 then lz else []) ++ lr)) w1)
        refine J.pr (fun hF => ?_)
        refine J.move rfl rfl ?_
        exact J.nil (JX.finB rfl (fun w1 hw => ⟨⟨⟨vz, lz⟩, rfl, fun _ _ _ => rfl, hF, hw⟩, trivial⟩))
      · skip
        obtain ⟨vz, lz⟩ := x
        show J _ _ _ _ _ ((142, .pointer (some ⟨t1, 0, none⟩)) :: _) (fun w1 => (m 1 = true → Vec 34 51 vz ((ordE L)).length (fE ((ordE L))) lz) ∧ St w [] ((t1, tabO mo m1) :: (m1, .map es ck) :: (rt, rtabO (.slice ar (ordE L).length cr) mo) :: ((bif m 1 then lz else []) ++ lr)) w1)
        refine J.pr (fun hF => ?_)
        refine J.conseq (I' := St w [] ((t1, tabO mo m1) :: (m1, .map es ck) :: (rt, rtabO (.slice ar (ordE L).length cr) mo) :: lr)) ?_ (fun w1 hw => by simp only [hm, cond_true, cond_false, List.nil_append] at hw; exact hw)
        refine J.perm ([] ++ ((t1, tabO mo m1) :: (m1, .map es ck) :: (rt, rtabO (.slice ar (ordE L).length cr) mo) :: lr)) (.refl _) ?_
        refine J.callS (α := Value × List (Nat × Obj)) (V := (·.1)) (Pr := fun x => Vec 34 51 x.1 ((ordE L)).length (fE ((ordE L))) x.2) (L := (·.2)) (l1 := []) Ty.bd25 rfl rfl (fun w1 hw => all_spec t1 m1 mo (L) es ck w1 (hw.own _ (.head _)) (hw.own _ (.tail _ (.head _))) hT (by omega)) (fun x hvn => ?_)
        obtain ⟨vn, ln⟩ := x
        simp only at hvn ⊢
        refine J.nil (JX.finB rfl (fun w1 hw => ⟨⟨⟨vn, ln⟩, rfl, fun j h1 h2 => ?_, ?_⟩, trivial⟩))
        · match j, h1 with
          | 0, _ => (first | rfl | trivial)
          | 1, _ => exact absurd (h2.symm.trans hm) (by decide)
          | 2, _ => (first | rfl | trivial)
          | 3, _ => (first | rfl | trivial)
          | 4, _ => (first | rfl | trivial)
          | 5, _ => (first | rfl | trivial)
          | 6, _ => (first | rfl | trivial)
          | j + 7, h1 => omega
        show (true = true → Vec 34 51 vn ((ordE L)).length (fE ((ordE L))) ln) ∧ St w [] ((t1, tabO mo m1) :: (m1, .map es ck) :: (rt, rtabO (.slice ar (ordE L).length cr) mo) :: ((bif true then ln else []) ++ lr)) w1
        simp only [hm, cond_true, cond_false] at hw ⊢
        exact ⟨fun _ => hvn, hw.perm (by (refine perm_cnt (fun _ => ?_)); simp only [cntB_append, cntB_cons, cntB_nil, Nat.add_zero, Nat.zero_add]; try ac_rfl)⟩
      · skip
        obtain ⟨vz, lz⟩ := x
        show J _ _ _ _ _ (_) (fun w1 => (m 1 = true → Vec 34 51 vz ((ordE L)).length (fE ((ordE L))) lz) ∧ St w [] ((t1, tabO mo m1) :: (m1, .map es ck) :: (rt, rtabO (.slice ar (ordE L).length cr) mo) :: ((bif m 1 then lz else []) ++ lr)) w1)
        refine J.pr (fun hF => ?_)
        refine J.move rfl rfl ?_
        exact J.nil (JX.finB rfl (fun w1 hw => ⟨⟨⟨vz, lz⟩, rfl, fun _ _ _ => rfl, hF, hw⟩, trivial⟩))
      · skip
        obtain ⟨vz, lz⟩ := x
        show J _ _ _ _ _ ((144, .pointer (some ⟨rt, 0, none⟩)) :: _) (fun w1 => (m 1 = true → Vec 34 51 vz ((ordE L)).length (fE ((ordE L))) lz) ∧ St w [] ((t1, tabO mo m1) :: (m1, .map es ck) :: (rt, rtabO (.slice ar (ordE L).length cr) mo) :: ((bif m 1 then lz else []) ++ lr)) w1)
        refine J.pr (fun hF => ?_)
        refine J.nilCheck rfl rfl ?_
        exact J.nil (JX.finB rfl (fun w1 hw => ⟨⟨⟨vz, lz⟩, rfl, fun _ _ _ => rfl, hF, hw⟩, trivial⟩))
      · skip
        obtain ⟨vz, lz⟩ := x
        show J _ _ _ _ _ ((145, .pointer (some ⟨rt, 0, none⟩)) :: _) (fun w1 => (m 1 = true → Vec 34 51 vz ((ordE L)).length (fE ((ordE L))) lz) ∧ St w [] ((t1, tabO mo m1) :: (m1, .map es ck) :: (rt, rtabO (.slice ar (ordE L).length cr) mo) :: ((bif m 1 then lz else []) ++ lr)) w1)
        refine J.pr (fun hF => ?_)
        refine J.fieldAddr Ty.fd82_0 rfl rfl ?_
        exact J.nil (JX.finB rfl (fun w1 hw => ⟨⟨⟨vz, lz⟩, rfl, fun _ _ _ => rfl, hF, hw⟩, trivial⟩))
      · skip
        obtain ⟨vz, lz⟩ := x
        show J _ _ _ _ _ ((146, .pointer (some ⟨rt, 0 + 0, none⟩)) :: _) (fun w1 => (m 1 = true → Vec 34 51 vz ((ordE L)).length (fE ((ordE L))) lz) ∧ St w [] ((t1, tabO mo m1) :: (m1, .map es ck) :: (rt, rtabO (.slice ar (ordE L).length cr) mo) :: ((bif m 1 then lz else []) ++ lr)) w1)
        refine J.pr (fun hF => ?_)
        refine J.load1 (v := .slice ar (ordE L).length cr) Ty.a62 rfl (fun w1 hw => by rw [cell_of (hw.own _ (.tail _ (.tail _ (.head _))))]; rfl) rfl ?_
        exact J.nil (JX.finB rfl (fun w1 hw => ⟨⟨⟨vz, lz⟩, rfl, fun _ _ _ => rfl, hF, hw⟩, trivial⟩))
      · skip
        obtain ⟨vz, lz⟩ := x
        show J _ _ _ _ _ ((143, vz) :: (147, .slice ar (ordE L).length cr) :: (143, vz) :: _) (fun w1 => (m 1 = true → Vec 34 51 vz ((ordE L)).length (fE ((ordE L))) lz) ∧ St w [] ((t1, tabO mo m1) :: (m1, .map es ck) :: (rt, rtabO (.slice ar (ordE L).length cr) mo) :: ((bif m 1 then lz else []) ++ lr)) w1)
        have hp1 : m 1 = true := predsT hp (by kernel_rfl)
        have hp1 : m 1 = true := predsT hp (by kernel_rfl)
        refine J.pr (fun hF => ?_)
        refine J.callB (v := .bool true) (fun w1 w2 hw hb => hw.step hb) Ty.bd26 rfl rfl (fun w1 hw => (by have h := rsame_spec _ _ ((ordE L)) ((ordE L)) w1 (vec_rowM (l := (t1, tabO mo m1) :: (m1, .map es ck) :: (rt, rtabO (.slice ar (ordE L).length cr) mo) :: (lz ++ lr)) (hF hp1) (by simp only [hp1, cond_true] at hw; exact hw) (fun q hq => by first | (simp [hq]; done) | (simp at hq; simp [hq]; done) | (simp at hq; subst hq; simp))) (vec_rowM (l := (t1, tabO mo m1) :: (m1, .map es ck) :: (rt, rtabO (.slice ar (ordE L).length cr) mo) :: (lz ++ lr)) hvr (by simp only [hp1, cond_true] at hw; exact hw) (fun q hq => by first | (simp [hq]; done) | (simp at hq; simp [hq]; done) | (simp at hq; subst hq; simp))) (ordE_ok hT) (ordE_ok hT) (by omega) (by omega); simpa using h)) ?_
        exact J.nil (JX.finB rfl (fun w1 hw => ⟨⟨⟨vz, lz⟩, rfl, fun _ _ _ => rfl, hF, hw⟩, trivial⟩))
    case htail =>
      intro x
      obtain ⟨vz, lz⟩ := x
      show J _ _ _ _ _ ((148, .bool true) :: (147, .slice ar (ordE L).length cr) :: (146, .pointer (some ⟨rt, 0 + 0, none⟩)) :: (145, .pointer (some ⟨rt, 0, none⟩)) :: (144, .pointer (some ⟨rt, 0, none⟩)) :: (143, vz) :: (142, .pointer (some ⟨t1, 0, none⟩)) :: _) (fun w1 => (true = true → Vec 34 51 vz ((ordE L)).length (fE ((ordE L))) lz) ∧ St w [] ((t1, tabO mo m1) :: (m1, .map es ck) :: (rt, rtabO (.slice ar (ordE L).length cr) mo) :: ((bif true then lz else []) ++ lr)) w1)
      refine J.pr (fun hF => ?_)
      refine J.assign rfl rfl ?_
      refine J.nil ?_
      refine JX.thenN (hK32 _ _ ?_)
      refine JC.ret ?_
      refine JX.ret1 rfl rfl (fun w hw => ?_)
      exact ⟨rfl, (hw.drop (List.nil_sublist _)).below⟩

theorem tablePlays_walk (w : World) (n : Int) (hn : (Lit.int .i64 n).wf = true) (o : Sl OV) (ho : RSl 53 88 ROp w [o.v] o) :
    Calls Try.prog 10 [.int .i64 n, o.v].toArray w fun r w' => r = .returned (.bool true) ∧ Bel w w' := tablePlays_spec n o.v o.xs w (rslG cO_length (by omega) (fun _ _ _ h => h.1) ho) (rslG_all (fun _ _ _ h => h.2) ho) (rslO_len ho)
end Go.Proofs.Ytpldpkdlloolkaa
