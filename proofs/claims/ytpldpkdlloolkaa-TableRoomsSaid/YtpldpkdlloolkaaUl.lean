/-
  TableUndo: the walk.
-/
import Derived.Test.YtpldpkdlloolkaaUk
namespace Go.Proofs.Ytpldpkdlloolkaa
open Go.J Go.RowKit
set_option linter.unusedVariables false
set_option linter.unusedSimpArgs false
set_option maxRecDepth 4000
theorem tget_snoc {L : List EV} {x : EV} (h : tget L x.p = none) : tget (L ++ [x]) x.p = some x := by
  unfold tget at *
  rw [List.find?_append, h]
  simp
theorem del_none {L : List EV} {p : PV} (h : tget L p = none) : delL L p = L := filter_no h
theorem tadd_ok {L : List EV} {most : Int} {x : EV} (h1 : rightP x) (h2 : tget L x.p = none) (h3 : (L.length : Int) < most) : tadd L most x = (0, L ++ [x]) := by
  unfold tadd
  rw [if_neg (by simpa using h1), if_neg (by rw [h2]; simp), if_neg (by omega)]

set_option maxHeartbeats 1000000 in
theorem tableUndo_spec (v : Value) (xs : List EV) (xe : EV) (w : World) (hrv : Row w v xs.length (fE xs)) (hok : ∀ x, x ∈ xs → okE x) (hxe : okE xe) (hxl : xs.length ≤ 1954687338213) :
    Calls Try.prog 8 [v, .agg (cE xe).toArray].toArray w fun r w' => r = .returned (.bool true) ∧ Bel w w' := by
  obtain ⟨av, cv, rfl, hcv, _⟩ := id hrv
  refine calls_of_J (args := [.slice av xs.length cv, .agg (cE xe).toArray]) (e := [(0, .slice av xs.length cv), (1, .agg (cE xe).toArray)]) Try.func8 rfl rfl ⟨rfl, rfl, trivial⟩ (St.start w) ?_
  refine JC.seq (fun K0 hK0 => ?_)
  refine JC.region ?_
  refine J.box rfl rfl rfl (fun b3 => ?_)
  refine J.assign rfl rfl ?_
  refine J.nil ?_
  refine JX.thenN (hK0 _ _ ?_)
  refine JC.seq (fun K1 hK1 => ?_)
  refine JC.region ?_
  refine J.perm ([] ++ ([(b3, cb (cE xe) 34)])) (.refl _) ?_
  refine J.callS (α := Nat × Nat) (V := fun x => .pointer (some ⟨x.1, 0, none⟩)) (Pr := fun _ => True) (L := fun x => [(x.1, tabO (min (max (128) 0) 128) x.2), (x.2, .map #[] 0)]) (l1 := []) Ty.bd16 rfl rfl (fun w1 hw => (new_spec 128 w1).mono fun _ _ ⟨x, h1, h2⟩ => ⟨x, h1, trivial, h2⟩) (fun x _ => ?_)
  obtain ⟨t1, m1⟩ := x
  simp only [List.cons_append, List.nil_append]
  rw [show min (max (128 : Int) 0) 128 = 128 by decide]
  refine J.assign rfl rfl ?_
  refine J.nil ?_
  refine JX.thenN (hK1 _ _ ?_)
  refine JC.seq (fun K2 hK2 => ?_)
  refine JC.seq (fun K3 hK3 => ?_)
  refine JC.region ?_
  refine J.move rfl rfl ?_
  refine J.eqNil Ty.u29 rfl rfl rfl ?_
  refine J.move rfl rfl ?_
  first
    | (refine J.skip rfl rfl rfl rfl rfl ?_)
    | (refine J.skipU rfl rfl rfl rfl ?_)
    | (refine J.unguard rfl rfl rfl ?_; refine J.callB (v := .bool true) (fun w1 w2 hw hb => hw.step hb) Ty.bd24 rfl rfl (fun w1 hw => fixed12_spec w1) ?_)
  first
    | (refine J.skip rfl rfl rfl rfl rfl ?_)
    | (refine J.skipU rfl rfl rfl rfl ?_)
    | (refine J.unguard rfl rfl rfl ?_; refine J.not rfl rfl ?_)
  (first | refine J.pickT rfl rfl rfl ?_ | refine J.pickF rfl rfl rfl ?_)
  refine J.nil ?_
  refine JX.thenN (hK3 _ _ ?_)
  first | refine JC.condF rfl ?_ | refine JC.cond rfl (fun h => by first | (exfalso; simp at h; omega) | (simp at h)) (fun _ => ?_)
  refine JC.skip ?_
  refine JX.thenN (hK2 _ _ ?_)
  refine JC.seq (fun K4 hK4 => ?_)
  refine JC.seq (fun K5 hK5 => ?_)
  refine JC.region ?_
  refine J.move rfl rfl ?_
  refine J.lenS rfl Ty.u62 rfl rfl ?_
  refine J.move rfl rfl ?_
  refine J.nil ?_
  refine JX.thenN (hK5 _ _ ?_)
  refine JC.block ?_
  refine JC.conseq (JC.cov (f := (fun st => [(3, .pointer (some ⟨b3, 0, none⟩)), (5, .pointer (some ⟨t1, 0, none⟩)), (20, .slice av xs.length cv), (21, .int .i64 ((xs.length : Nat) : Int)), (22, .int .i64 ((st.1 : Nat) : Int))]) ((0, #[], 0) : Nat × Array MapEntry × Nat)) ⟨rfl, rfl, rfl, rfl, rfl, trivial⟩ (JC.loop (α := Nat × Array MapEntry × Nat) (fun st => [(3, .pointer (some ⟨b3, 0, none⟩)), (5, .pointer (some ⟨t1, 0, none⟩)), (20, .slice av xs.length cv), (21, .int .i64 ((xs.length : Nat) : Int)), (22, .int .i64 ((st.1 : Nat) : Int))]) (fun st w' => (st.1 ≤ xs.length ∧ Tab (laidL 128 (xs.take st.1)) st.2.1 st.2.2) ∧ St w [] ((t1, tabO 128 m1) :: (m1, .map st.2.1 st.2.2) :: [(b3, cb (cE xe) 34)]) w') (fun st => xs.length - st.1) ((0, #[], 0) : Nat × Array MapEntry × Nat) (fun st => ?_))) (fun w hw => ⟨⟨Nat.zero_le _, Tab.nil⟩, hw⟩)
  obtain ⟨i, es, ck⟩ := st
  refine JC.pr (fun hx1 => ?_)
  obtain ⟨hi, hT⟩ := hx1
  simp only at hi hT ⊢
  refine JC.seq (fun K6 hK6 => ?_)
  refine JC.region ?_
  refine J.bin rfl rfl rfl rfl ?_
  refine J.nil ?_
  refine JX.thenN (hK6 _ _ ?_)
  refine JC.seq (fun K7 hK7 => ?_)
  refine JC.cond rfl (fun h1 => ?_) (fun h1 => ?_)
  · skip
    have hlt : i < xs.length := by simp at h1; omega
    have hflx := fE_length xs
    have hclx := (Row.some hrv (by omega))
    obtain ⟨qx, ox, cx', hqe, _, _⟩ := hclx
    simp only [Value.slice.injEq] at hqe
    obtain ⟨rfl, _, rfl⟩ := hqe
    obtain ⟨xa, hxa⟩ : ∃ x, xs[i]? = some x := ⟨_, List.getElem?_eq_getElem hlt⟩
    have hxo := hok xa (List.mem_of_getElem? hxa)
    refine JC.skip ?_
    refine JX.thenN (hK7 _ _ ?_)
    refine JC.seq (fun K8 hK8 => ?_)
    refine JC.block ?_
    refine JC.seq (fun K9 hK9 => ?_)
    refine JC.region ?_
    refine J.indexAddrS Ty.el62 Ty.s34 rfl rfl (by omega) (by omega) rfl ?_
    refine J.loadA (vs := cE xa) Ty.a34 Ty.s34 rfl rfl (fun w1 hw => rowE_at (hrv.below (hw.drop (List.nil_sublist _)).below) hxa (by omega)) rfl ?_
    refine J.alloc Ty.zE_ rfl rfl (fun b7 => ?_)
    refine J.storeW (cs := cE zE) (vs := cE xa) Ty.s34 rfl rfl rfl rfl rfl (one_cE _) .here ?_
    refine J.nil ?_
    refine JX.thenN (hK9 _ _ ?_)
    refine JC.region ?_
    refine J.move rfl rfl ?_
    refine J.loadOA (vs := cE xa) Ty.a34 Ty.s34 rfl (.head _) rfl rfl rfl ?_
    refine J.perm ([(t1, tabO 128 m1), (m1, .map es ck)] ++ ((b7, cb (cE xa) 34) :: [(b3, cb (cE xe) 34)])) (by (refine perm_cnt (fun _ => ?_)); simp only [cntB_append, cntB_cons, cntB_nil, Nat.add_zero, Nat.zero_add]; try ac_rfl) ?_
    refine J.callS (α := Array MapEntry × Nat) (V := fun _ => .int .i64 (tadd (laidL 128 (xs.take i)) 128 xa).1) (Pr := fun y => Tab (tadd (laidL 128 (xs.take i)) 128 xa).2 y.1 y.2) (L := fun y => [(t1, tabO 128 m1), (m1, .map y.1 y.2)]) (l1 := [(t1, tabO 128 m1), (m1, .map es ck)]) Ty.bd17 rfl rfl (fun w1 hw => (add_spec t1 m1 128 (laidL 128 (xs.take i)) es ck w1 hw.owns hT xa hxo).mono fun _ _ ⟨y, h1, h2, h3⟩ => ⟨y, h1, h2, h3⟩) (fun y hT2 => ?_)
    obtain ⟨es2, ck2⟩ := y
    simp only [List.cons_append, List.nil_append] at hT2 ⊢
    refine J.nil ?_
    refine JX.blockN ?_
    refine JX.thenN (hK8 _ _ ?_)
    refine JC.region ?_
    (first | refine J.addN rfl rfl (by omega) (by omega) rfl ?_ | refine J.bin rfl rfl rfl rfl ?_)
    refine J.move rfl rfl ?_
    refine J.nil ?_
    refine JX.thenN ?_
    refine JX.again ((i + 1, es2, ck2) : Nat × Array MapEntry × Nat) ?_ ?_ ?_
    · simp only; omega
    · exact ⟨rfl, rfl, rfl, rfl, rfl, trivial⟩
    · exact fun w1 hw => ⟨⟨hlt, by rw [take_snocE hxa, laidL_snoc]; exact hT2⟩, hw.drop (.cons_cons _ (.cons_cons _ (List.sublist_cons_self _ _)))⟩
  · skip
    have hge : i = xs.length := by simp at h1; omega
    rw [List.take_of_length_le (by omega)] at hT
    obtain ⟨L, hLe⟩ : ∃ L, laidL 128 xs = L := ⟨_, rfl⟩
    have hgood := laidL_good 128 xs
    rw [hLe] at hT hgood
    have hL128 := hgood.len
    have hol := (ordE_perm L).length_eq
    have hol2 : (ordE L).length ≤ 128 := by rw [hol]; omega
    refine JC.exit ?_
    refine JX.thenE ?_
    refine JX.thenE ?_
    refine JX.blockE ?_
    refine JX.thenN (hK4 _ _ ?_)
    refine JC.seq (fun K10 hK10 => ?_)
    refine JC.region ?_
    refine J.move rfl rfl ?_
    refine J.perm ([] ++ ((t1, tabO 128 m1) :: (m1, .map es ck) :: [(b3, cb (cE xe) 34)])) (.refl _) ?_
    refine J.callS (α := Value × List (Nat × Obj)) (V := (·.1)) (Pr := fun x => Vec 34 51 x.1 (ordE L).length (fE (ordE L)) x.2) (L := (·.2)) (l1 := []) Ty.bd25 rfl rfl (fun w1 hw => all_spec t1 m1 128 (L) es ck w1 (hw.own _ (.head _)) (hw.own _ (.tail _ (.head _))) hT (by omega)) (fun x hvw => ?_)
    obtain ⟨vw, lw⟩ := x
    simp only at hvw ⊢
    obtain ⟨aw, cw, rfl, hcvw⟩ := hvw.form
    refine J.perm ((t1, tabO 128 m1) :: (m1, .map es ck) :: (b3, cb (cE xe) 34) :: lw) (by (refine perm_cnt (fun _ => ?_)); simp only [cntB_append, cntB_cons, cntB_nil, Nat.add_zero, Nat.zero_add]; try ac_rfl) ?_
    refine J.assign rfl rfl ?_
    refine J.nil ?_
    refine JX.thenN (hK10 _ _ ?_)
    refine JC.seq (fun K11 hK11 => ?_)
    refine JC.seq (fun K12 hK12 => ?_)
    have hcs := tadd_cases L 128 xe
    obtain ⟨cd, hcd⟩ : ∃ cd, (tadd L 128 xe).1 = cd := ⟨_, rfl⟩
    refine JC.region ?_
    refine J.move rfl rfl ?_
    refine J.loadOA (vs := cE xe) Ty.a34 Ty.s34 rfl (.tail _ (.tail _ (.head _))) rfl rfl rfl ?_
    refine J.perm ([(t1, tabO 128 m1), (m1, .map es ck)] ++ ((b3, cb (cE xe) 34) :: lw)) (by (refine perm_cnt (fun _ => ?_)); simp only [cntB_append, cntB_cons, cntB_nil, Nat.add_zero, Nat.zero_add]; try ac_rfl) ?_
    refine J.callS (α := Array MapEntry × Nat) (V := fun _ => .int .i64 (tadd (L) 128 xe).1) (Pr := fun y => Tab (tadd (L) 128 xe).2 y.1 y.2) (L := fun y => [(t1, tabO 128 m1), (m1, .map y.1 y.2)]) (l1 := [(t1, tabO 128 m1), (m1, .map es ck)]) Ty.bd17 rfl rfl (fun w1 hw => (add_spec t1 m1 128 (L) es ck w1 hw.owns hT xe hxe).mono fun _ _ ⟨y, h1, h2, h3⟩ => ⟨y, h1, h2, h3⟩) (fun y hT3 => ?_)
    obtain ⟨es3, ck3⟩ := y
    simp only [List.cons_append, List.nil_append] at hT3 ⊢
    rw [hcd]
    refine J.bin rfl rfl rfl rfl ?_
    refine J.nil ?_
    refine JX.thenN (hK12 _ _ ?_)
    refine JC.cond rfl (fun h2 => ?_) (fun h2 => ?_)
    · skip
      have hcd0 : cd = 0 := by simpa using h2
      obtain ⟨hta, htb, htr, hno, htl⟩ : (tadd L 128 xe).1 = 0 ∧ (tadd L 128 xe).2 = L ++ [xe] ∧ rightP xe ∧ tget L xe.p = none ∧ (L.length : Int) < 128 := by
        rcases hcs with h | ⟨h, _⟩
        · exact h
        · exact absurd (hcd.trans hcd0) h
      rw [htb] at hT3
      refine JC.seq (fun K13 hK13 => ?_)
      refine JC.region ?_
      refine J.move rfl rfl ?_
      refine J.fieldAddr Ty.fd34_0 rfl rfl ?_
      refine J.loadOA (vs := cP xe.p) Ty.a25 Ty.s25 rfl (.tail _ (.tail _ (.head _))) rfl rfl rfl ?_
      refine J.perm ([(t1, tabO 128 m1), (m1, .map es3 ck3)] ++ ((b3, cb (cE xe) 34) :: lw)) (by (refine perm_cnt (fun _ => ?_)); simp only [cntB_append, cntB_cons, cntB_nil, Nat.add_zero, Nat.zero_add]; try ac_rfl) ?_
      refine J.callS (α := Array MapEntry) (V := fun _ => .tuple #[.agg (cE ((tget ((L ++ [xe])) xe.p).getD zE)).toArray, .bool (tget ((L ++ [xe])) xe.p).isSome]) (Pr := fun y => Tab (delL ((L ++ [xe])) xe.p) y ck3) (L := fun y => [(t1, tabO 128 m1), (m1, .map y ck3)]) (l1 := [(t1, tabO 128 m1), (m1, .map es3 ck3)]) Ty.bd35 rfl rfl (fun w1 hw => (remove_spec t1 m1 128 ((L ++ [xe])) es3 ck3 w1 hw.owns hT3 xe.p hxe.1).mono fun _ _ ⟨y, h1, h2, h3⟩ => ⟨y, h1, h2, h3⟩) (fun es4 hT4 => ?_)
      simp only [List.cons_append, List.nil_append]
      rw [del_add hno] at hT4
      rw [tget_snoc hno]
      refine J.name 40 rfl (show _ = Value.tuple #[.agg (cE xe).toArray, .bool true] from rfl) ?_
      refine J.move rfl rfl ?_
      refine J.extract rfl rfl rfl ?_
      refine J.extract rfl rfl rfl ?_
      refine J.alloc Ty.zE_ rfl rfl (fun b9 => ?_)
      refine J.storeW (cs := cE zE) (vs := cE xe) Ty.s34 rfl rfl rfl rfl rfl (one_cE _) .here ?_
      refine J.assign rfl rfl ?_
      refine J.nil ?_
      refine JX.thenN (hK13 _ _ ?_)
      refine JC.seq (fun K14 hK14 => ?_)
      refine JC.region ?_
      refine J.move rfl rfl ?_
      refine J.move rfl rfl ?_
      first
        | (refine J.skip rfl rfl rfl rfl rfl ?_)
        | (refine J.skipU rfl rfl rfl rfl ?_)
        | (refine J.unguard rfl rfl rfl ?_; refine J.loadOA (vs := cE xe) Ty.a34 Ty.s34 rfl (.head _) rfl rfl rfl ?_)
      first
        | (refine J.skip rfl rfl rfl rfl rfl ?_)
        | (refine J.skipU rfl rfl rfl rfl ?_)
        | (refine J.unguard rfl rfl rfl ?_; refine J.loadOA (vs := cE xe) Ty.a34 Ty.s34 rfl (.tail _ (.tail _ (.tail _ (.head _)))) rfl rfl rfl ?_)
      first
        | (refine J.skip rfl rfl rfl rfl rfl ?_)
        | (refine J.skipU rfl rfl rfl rfl ?_)
        | (refine J.unguard rfl rfl rfl ?_; refine J.eqE Ty.QE Ty.keyE rfl rfl hxe hxe rfl ?_; refine J.name 47 rfl (show _ = Value.bool true by simp) ?_)
      (first | refine J.pickT rfl rfl rfl ?_ | refine J.pickF rfl rfl rfl ?_)
      refine J.move rfl rfl ?_
      first
        | (refine J.skip rfl rfl rfl rfl rfl ?_)
        | (refine J.skipU rfl rfl rfl rfl ?_)
        | (refine J.unguard rfl rfl rfl ?_; refine J.move rfl rfl ?_)
      first
        | (refine J.skip rfl rfl rfl rfl rfl ?_)
        | (refine J.skipU rfl rfl rfl rfl ?_)
        | (refine J.unguard rfl rfl rfl ?_; refine J.perm ((t1, tabO 128 m1) :: (m1, .map es4 ck3) :: (b9, cb (cE xe) 34) :: (b3, cb (cE xe) 34) :: lw) (by (refine perm_cnt (fun _ => ?_)); simp only [cntB_append, cntB_cons, cntB_nil, Nat.add_zero, Nat.zero_add]; try ac_rfl) ?_; refine J.perm ([] ++ ((t1, tabO 128 m1) :: (m1, .map es4 ck3) :: (b9, cb (cE xe) 34) :: (b3, cb (cE xe) 34) :: lw)) (.refl _) ?_; refine J.callS (α := Value × List (Nat × Obj)) (V := (·.1)) (Pr := fun x => Vec 34 51 x.1 (ordE L).length (fE (ordE L)) x.2) (L := (·.2)) (l1 := []) Ty.bd25 rfl rfl (fun w1 hw => all_spec t1 m1 128 (L) es4 ck3 w1 (hw.own _ (.head _)) (hw.own _ (.tail _ (.head _))) hT4 (by omega)) (fun x hvz => ?_); obtain ⟨vz, lz⟩ := x; simp only at hvz ⊢)
      first
        | (refine J.skip rfl rfl rfl rfl rfl ?_)
        | (refine J.skipU rfl rfl rfl rfl ?_)
        | (refine J.unguard rfl rfl rfl ?_; refine J.move rfl rfl ?_)
      first
        | (refine J.skip rfl rfl rfl rfl rfl ?_)
        | (refine J.skipU rfl rfl rfl rfl ?_)
        | (refine J.unguard rfl rfl rfl ?_; refine J.callB (v := .bool true) (fun w1 w2 hw hb => hw.step hb) Ty.bd26 rfl rfl (fun w1 hw => (by have h := rsame_spec _ _ (ordE L) (ordE L) w1 (vec_rowM hvz hw (fun q hq => by first | (simp [hq]; done) | (simp at hq; simp [hq]; done) | (simp at hq; subst hq; simp))) (vec_rowM hvw hw (fun q hq => by first | (simp [hq]; done) | (simp at hq; simp [hq]; done) | (simp at hq; subst hq; simp))) (ordE_ok hT) (ordE_ok hT) (by omega) (by omega); simpa using h)) ?_)
      (first | refine J.pickT rfl rfl rfl ?_ | refine J.pickF rfl rfl rfl ?_)
      refine J.assign rfl rfl ?_
      refine J.nil ?_
      refine JX.thenN (hK14 _ _ ?_)
      refine JC.ret ?_
      refine JX.thenR ?_
      refine JX.ret1 rfl rfl (fun w hw => ?_)
      exact ⟨rfl, (hw.drop (List.nil_sublist _)).below⟩
    · skip
      have hcd0 : cd ≠ 0 := by simpa using h2
      have htb : (tadd L 128 xe).2 = L := by
        rcases hcs with ⟨h, _⟩ | ⟨_, h, _⟩
        · exact absurd (hcd.symm.trans h) hcd0
        · exact h
      rw [htb] at hT3
      refine JC.skip ?_
      refine JX.thenN (hK11 _ _ ?_)
      refine JC.seq (fun K15 hK15 => ?_)
      cases hg : tget L xe.p with
      | none =>
        have hdn := del_none hg
        refine JC.region ?_
        refine J.move rfl rfl ?_
        refine J.fieldAddr Ty.fd34_0 rfl rfl ?_
        refine J.loadOA (vs := cP xe.p) Ty.a25 Ty.s25 rfl (.tail _ (.tail _ (.head _))) rfl rfl rfl ?_
        refine J.perm ([(t1, tabO 128 m1), (m1, .map es3 ck3)] ++ ((b3, cb (cE xe) 34) :: lw)) (by (refine perm_cnt (fun _ => ?_)); simp only [cntB_append, cntB_cons, cntB_nil, Nat.add_zero, Nat.zero_add]; try ac_rfl) ?_
        refine J.callS (α := Array MapEntry) (V := fun _ => .tuple #[.agg (cE ((tget (L) xe.p).getD zE)).toArray, .bool (tget (L) xe.p).isSome]) (Pr := fun y => Tab (delL (L) xe.p) y ck3) (L := fun y => [(t1, tabO 128 m1), (m1, .map y ck3)]) (l1 := [(t1, tabO 128 m1), (m1, .map es3 ck3)]) Ty.bd35 rfl rfl (fun w1 hw => (remove_spec t1 m1 128 (L) es3 ck3 w1 hw.owns hT3 xe.p hxe.1).mono fun _ _ ⟨y, h1, h2, h3⟩ => ⟨y, h1, h2, h3⟩) (fun es4 hT4 => ?_)
        simp only [List.cons_append, List.nil_append]
        rw [hdn] at hT4
        refine J.name 59 rfl (show _ = Value.tuple #[.agg (cE zE).toArray, .bool false] by rw [hg]; rfl) ?_
        refine J.move rfl rfl ?_
        refine J.extract rfl rfl rfl ?_
        refine J.extract rfl rfl rfl ?_
        refine J.alloc Ty.zE_ rfl rfl (fun b11 => ?_)
        refine J.storeW (cs := cE zE) (vs := cE zE) Ty.s34 rfl rfl rfl rfl rfl (one_cE _) .here ?_
        refine J.assign rfl rfl ?_
        refine J.nil ?_
        refine JX.thenN (hK15 _ _ ?_)
        refine JC.seq (fun K16 hK16 => ?_)
        refine JC.seq (fun K17 hK17 => ?_)
        refine JC.region ?_
        refine J.move rfl rfl ?_
        refine J.move rfl rfl ?_
        first
          | (refine J.skip rfl rfl rfl rfl rfl ?_)
          | (refine J.skipU rfl rfl rfl rfl ?_)
          | (refine J.unguard rfl rfl rfl ?_; refine J.move rfl rfl ?_)
        first
          | (refine J.skip rfl rfl rfl rfl rfl ?_)
          | (refine J.skipU rfl rfl rfl rfl ?_)
          | (refine J.unguard rfl rfl rfl ?_; skip)
        first
          | (refine J.skip rfl rfl rfl rfl rfl ?_)
          | (refine J.skipU rfl rfl rfl rfl ?_)
          | (refine J.unguard rfl rfl rfl ?_; skip)
        first
          | (refine J.skip rfl rfl rfl rfl rfl ?_)
          | (refine J.skipU rfl rfl rfl rfl ?_)
          | (refine J.unguard rfl rfl rfl ?_; refine J.bin rfl rfl rfl rfl ?_)
        (first | refine J.pickT rfl rfl rfl ?_ | refine J.pickF rfl rfl rfl ?_)
        refine J.nil ?_
        refine JX.thenN (hK17 _ _ ?_)
        first | refine JC.condF rfl ?_ | refine JC.cond rfl (fun h => by first | (exfalso; simp at h; omega) | (simp at h)) (fun _ => ?_)
        refine JC.skip ?_
        refine JX.thenN (hK16 _ _ ?_)
        refine JC.seq (fun K18 hK18 => ?_)
        refine JC.region ?_
        refine J.move rfl rfl ?_
        refine J.perm ((t1, tabO 128 m1) :: (m1, .map es4 ck3) :: (b11, cb (cE zE) 34) :: (b3, cb (cE xe) 34) :: lw) (by (refine perm_cnt (fun _ => ?_)); simp only [cntB_append, cntB_cons, cntB_nil, Nat.add_zero, Nat.zero_add]; try ac_rfl) ?_
        refine J.perm ([] ++ ((t1, tabO 128 m1) :: (m1, .map es4 ck3) :: (b11, cb (cE zE) 34) :: (b3, cb (cE xe) 34) :: lw)) (.refl _) ?_
        refine J.callS (α := Value × List (Nat × Obj)) (V := (·.1)) (Pr := fun x => Vec 34 51 x.1 (ordE L).length (fE (ordE L)) x.2) (L := (·.2)) (l1 := []) Ty.bd25 rfl rfl (fun w1 hw => all_spec t1 m1 128 (L) es4 ck3 w1 (hw.own _ (.head _)) (hw.own _ (.tail _ (.head _))) hT4 (by omega)) (fun x hvz => ?_)
        obtain ⟨vz, lz⟩ := x
        simp only at hvz ⊢
        refine J.move rfl rfl ?_
        refine J.callB (v := .bool true) (fun w1 w2 hw hb => hw.step hb) Ty.bd26 rfl rfl (fun w1 hw => (by have h := rsame_spec _ _ (ordE L) (ordE L) w1 (vec_rowM hvz hw (fun q hq => by first | (simp [hq]; done) | (simp at hq; simp [hq]; done) | (simp at hq; subst hq; simp))) (vec_rowM hvw hw (fun q hq => by first | (simp [hq]; done) | (simp at hq; simp [hq]; done) | (simp at hq; subst hq; simp))) (ordE_ok hT) (ordE_ok hT) (by omega) (by omega); simpa using h)) ?_
        refine J.assign rfl rfl ?_
        refine J.nil ?_
        refine JX.thenN (hK18 _ _ ?_)
        refine JC.ret ?_
        refine JX.ret1 rfl rfl (fun w hw => ?_)
        exact ⟨rfl, (hw.drop (List.nil_sublist _)).below⟩
      | some ye =>
        obtain ⟨had1, had2, had3, had4, had5⟩ := add_del hT.dist hg
        have hyo := hT.ok ye had3
        have hao := tadd_ok (most := 128) (hgood.right ye had3) (by rw [had2]; exact had4) (show ((delL L xe.p).length : Int) < 128 by omega)
        refine JC.region ?_
        refine J.move rfl rfl ?_
        refine J.fieldAddr Ty.fd34_0 rfl rfl ?_
        refine J.loadOA (vs := cP xe.p) Ty.a25 Ty.s25 rfl (.tail _ (.tail _ (.head _))) rfl rfl rfl ?_
        refine J.perm ([(t1, tabO 128 m1), (m1, .map es3 ck3)] ++ ((b3, cb (cE xe) 34) :: lw)) (by (refine perm_cnt (fun _ => ?_)); simp only [cntB_append, cntB_cons, cntB_nil, Nat.add_zero, Nat.zero_add]; try ac_rfl) ?_
        refine J.callS (α := Array MapEntry) (V := fun _ => .tuple #[.agg (cE ((tget (L) xe.p).getD zE)).toArray, .bool (tget (L) xe.p).isSome]) (Pr := fun y => Tab (delL (L) xe.p) y ck3) (L := fun y => [(t1, tabO 128 m1), (m1, .map y ck3)]) (l1 := [(t1, tabO 128 m1), (m1, .map es3 ck3)]) Ty.bd35 rfl rfl (fun w1 hw => (remove_spec t1 m1 128 (L) es3 ck3 w1 hw.owns hT3 xe.p hxe.1).mono fun _ _ ⟨y, h1, h2, h3⟩ => ⟨y, h1, h2, h3⟩) (fun es4 hT4 => ?_)
        simp only [List.cons_append, List.nil_append]
        refine J.name 59 rfl (show _ = Value.tuple #[.agg (cE ye).toArray, .bool true] by rw [hg]; rfl) ?_
        refine J.move rfl rfl ?_
        refine J.extract rfl rfl rfl ?_
        refine J.extract rfl rfl rfl ?_
        refine J.alloc Ty.zE_ rfl rfl (fun b11 => ?_)
        refine J.storeW (cs := cE zE) (vs := cE ye) Ty.s34 rfl rfl rfl rfl rfl (one_cE _) .here ?_
        refine J.assign rfl rfl ?_
        refine J.nil ?_
        refine JX.thenN (hK15 _ _ ?_)
        refine JC.seq (fun K19 hK19 => ?_)
        refine JC.seq (fun K20 hK20 => ?_)
        refine JC.region ?_
        refine J.move rfl rfl ?_
        refine J.move rfl rfl ?_
        first
          | (refine J.skip rfl rfl rfl rfl rfl ?_)
          | (refine J.skipU rfl rfl rfl rfl ?_)
          | (refine J.unguard rfl rfl rfl ?_; refine J.move rfl rfl ?_)
        first
          | (refine J.skip rfl rfl rfl rfl rfl ?_)
          | (refine J.skipU rfl rfl rfl rfl ?_)
          | (refine J.unguard rfl rfl rfl ?_; refine J.loadOA (vs := cE ye) Ty.a34 Ty.s34 rfl (.head _) rfl rfl rfl ?_)
        first
          | (refine J.skip rfl rfl rfl rfl rfl ?_)
          | (refine J.skipU rfl rfl rfl rfl ?_)
          | (refine J.unguard rfl rfl rfl ?_; refine J.perm ((t1, tabO 128 m1) :: (m1, .map es4 ck3) :: (b11, cb (cE ye) 34) :: (b3, cb (cE xe) 34) :: lw) (by (refine perm_cnt (fun _ => ?_)); simp only [cntB_append, cntB_cons, cntB_nil, Nat.add_zero, Nat.zero_add]; try ac_rfl) ?_; refine J.perm ([(t1, tabO 128 m1), (m1, .map es4 ck3)] ++ ((b11, cb (cE ye) 34) :: (b3, cb (cE xe) 34) :: lw)) (by (refine perm_cnt (fun _ => ?_)); simp only [cntB_append, cntB_cons, cntB_nil, Nat.add_zero, Nat.zero_add]; try ac_rfl) ?_; refine J.callS (α := Array MapEntry × Nat) (V := fun _ => .int .i64 (tadd ((delL L xe.p)) 128 ye).1) (Pr := fun y => Tab (tadd ((delL L xe.p)) 128 ye).2 y.1 y.2) (L := fun y => [(t1, tabO 128 m1), (m1, .map y.1 y.2)]) (l1 := [(t1, tabO 128 m1), (m1, .map es4 ck3)]) Ty.bd17 rfl rfl (fun w1 hw => (add_spec t1 m1 128 ((delL L xe.p)) es4 ck3 w1 hw.owns hT4 ye hyo).mono fun _ _ ⟨y, h1, h2, h3⟩ => ⟨y, h1, h2, h3⟩) (fun y hT5 => ?_); obtain ⟨es5, ck5⟩ := y; simp only [List.cons_append, List.nil_append] at hT5 ⊢; rw [hao] at hT5; refine J.name 66 rfl (show _ = Value.int .i64 0 by rw [hao]) ?_)
        first
          | (refine J.skip rfl rfl rfl rfl rfl ?_)
          | (refine J.skipU rfl rfl rfl rfl ?_)
          | (refine J.unguard rfl rfl rfl ?_; refine J.bin rfl rfl rfl rfl ?_)
        (first | refine J.pickT rfl rfl rfl ?_ | refine J.pickF rfl rfl rfl ?_)
        refine J.nil ?_
        refine JX.thenN (hK20 _ _ ?_)
        first | refine JC.condF rfl ?_ | refine JC.cond rfl (fun h => by first | (exfalso; simp at h; omega) | (simp at h)) (fun _ => ?_)
        refine JC.skip ?_
        refine JX.thenN (hK19 _ _ ?_)
        refine JC.seq (fun K21 hK21 => ?_)
        refine JC.region ?_
        refine J.move rfl rfl ?_
        refine J.perm ([] ++ ((t1, tabO 128 m1) :: (m1, .map es5 ck5) :: (b11, cb (cE ye) 34) :: (b3, cb (cE xe) 34) :: lw)) (.refl _) ?_
        refine J.callS (α := Value × List (Nat × Obj)) (V := (·.1)) (Pr := fun x => Vec 34 51 x.1 (ordE (delL L xe.p ++ [ye])).length (fE (ordE (delL L xe.p ++ [ye]))) x.2) (L := (·.2)) (l1 := []) Ty.bd25 rfl rfl (fun w1 hw => all_spec t1 m1 128 ((delL L xe.p ++ [ye])) es5 ck5 w1 (hw.own _ (.head _)) (hw.own _ (.tail _ (.head _))) hT5 (by rw [List.length_append]; simp; omega)) (fun x hvz => ?_)
        obtain ⟨vz, lz⟩ := x
        simp only at hvz ⊢
        rw [ordE_congr had1 hT5.dist] at hvz
        refine J.move rfl rfl ?_
        refine J.callB (v := .bool true) (fun w1 w2 hw hb => hw.step hb) Ty.bd26 rfl rfl (fun w1 hw => (by have h := rsame_spec _ _ (ordE L) (ordE L) w1 (vec_rowM hvz hw (fun q hq => by first | (simp [hq]; done) | (simp at hq; simp [hq]; done) | (simp at hq; subst hq; simp))) (vec_rowM hvw hw (fun q hq => by first | (simp [hq]; done) | (simp at hq; simp [hq]; done) | (simp at hq; subst hq; simp))) (ordE_ok hT) (ordE_ok hT) (by omega) (by omega); simpa using h)) ?_
        refine J.assign rfl rfl ?_
        refine J.nil ?_
        refine JX.thenN (hK21 _ _ ?_)
        refine JC.ret ?_
        refine JX.ret1 rfl rfl (fun w hw => ?_)
        exact ⟨rfl, (hw.drop (List.nil_sublist _)).below⟩

theorem tableUndo_walk (w : World) (o : Sl EV) (ho : RSl 51 72 REnt w [o.v] o) (xc : List Value) (xe : EV) (hx : REnt w xc xe) :
    Calls Try.prog 8 [o.v, .agg xc.toArray].toArray w fun r w' => r = .returned (.bool true) ∧ Bel w w' := by
  obtain ⟨rfl, hxo⟩ := hx
  exact tableUndo_spec o.v o.xs xe w (rslE ho) (rslE_ok ho) hxo (rslE_len ho)
end Go.Proofs.Ytpldpkdlloolkaa
