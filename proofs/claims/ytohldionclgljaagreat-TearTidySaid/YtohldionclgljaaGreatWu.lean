/-
  TearTidy: the walk.
-/
import Derived.Test.YtohldionclgljaaGreatWt
namespace Go.Proofs.YtohldionclgljaaGreat
open Go.J Go.RowKit
set_option linter.unusedVariables false
set_option linter.unusedSimpArgs false
set_option maxRecDepth 8000

set_option maxHeartbeats 1000000 in
theorem tearTidy_spec (v : Value) (xs : List EV) (me : IDV) (half : Int) (w : World) (hrv : Row w v xs.length (fE xs)) (hok : ∀ x, x ∈ xs → okE x) (hxl : xs.length ≤ 1954687338213) :
    Calls Tryz.prog 4 [v, .agg (cI me).toArray, .int .i64 half].toArray w fun r w' => r = .returned (.bool true) ∧ Bel w w' := by
  obtain ⟨av, cv, rfl, hcv, _⟩ := id hrv
  refine calls_of_J (args := [.slice av xs.length cv, .agg (cI me).toArray, .int .i64 half]) (e := [(0, .slice av xs.length cv), (1, .agg (cI me).toArray), (2, .int .i64 half)]) Tryz.func4 rfl rfl ⟨rfl, rfl, rfl, trivial⟩ (St.start w) ?_
  refine JC.seq (fun K0 hK0 => ?_)
  refine JC.region ?_
  refine J.box rfl rfl rfl (fun b4 => ?_)
  refine J.assign rfl rfl ?_
  refine J.nil ?_
  refine JX.thenN (hK0 _ _ ?_)
  refine JC.seq (fun K1 hK1 => ?_)
  refine JC.region ?_
  refine J.move rfl rfl ?_
  refine J.perm ([] ++ ((b4, cb (cI me) 24) :: [])) (.refl _) ?_
  refine J.callS (α := LaidS) (V := fun x => .tuple #[.pointer (some ⟨x.t1, 0, none⟩), .pointer (some ⟨x.rt, 0, none⟩)]) (Pr := fun x => Tab (laidL 128 (xs)) x.es x.ck ∧ Vec 33 51 x.vr (ordE (laidL 128 (xs))).length (fE (ordE (laidL 128 (xs)))) x.lr) (L := fun x => x.blk 128) (l1 := []) Ty.bd5 rfl rfl (fun w1 hw => laid15_spec _ (xs) w1 (hrv.below (hw.drop (List.nil_sublist _)).below) hok hxl) (fun x hx9 => ?_)
  obtain ⟨t1, m1, rt, es, ck, vr, lr⟩ := x
  obtain ⟨hT, hvr⟩ := hx9
  simp only [LaidS.blk, List.cons_append] at hT hvr ⊢
  have hgood := laidL_good 128 xs
  have hl128 : (laidL 128 xs).length ≤ 128 := by have := hgood.len; omega
  have hpl := (ordE_perm (laidL 128 xs)).length_eq
  have hol := List.length_filter_le ownB (ordE (laidL 128 xs))
  have hdist := hT.dist
  have htl := tw_le (ownL (laidL 128 xs)) (ownL (laidL 128 xs)).length
  have hol2 : (ownL (laidL 128 xs)).length ≤ 128 := by unfold ownL; omega
  refine J.perm ((b4, cb (cI me) 24) :: (t1, tabO 128 m1) :: (m1, .map es ck) :: ((rt, rtabO vr 128) :: lr)) (by (refine perm_cnt (fun _ => ?_)); simp only [cntB_append, cntB_cons, cntB_nil, Nat.add_zero, Nat.zero_add]; try ac_rfl) ?_
  refine J.move rfl rfl ?_
  refine J.extract rfl rfl rfl ?_
  refine J.extract rfl rfl rfl ?_
  refine J.assign rfl rfl ?_
  refine J.assign rfl rfl ?_
  refine J.nil ?_
  refine JX.thenN (hK1 _ _ ?_)
  refine JC.seq (fun K2 hK2 => ?_)
  refine JC.seq (fun K3 hK3 => ?_)
  refine JC.region ?_
  refine J.move rfl rfl ?_
  refine J.eqNil Ty.u26 rfl rfl rfl ?_
  refine J.move rfl rfl ?_
  first | refine J.skip rfl rfl rfl rfl rfl ?_ | refine J.skipU rfl rfl rfl rfl ?_ | (refine J.unguard rfl rfl rfl ?_; refine J.callB (v := .bool true) (fun w1 w2 hw hb => hw.step hb) Ty.bd8 rfl rfl (fun w1 hw => fixed15_spec w1) ?_)
  first | refine J.skip rfl rfl rfl rfl rfl ?_ | refine J.skipU rfl rfl rfl rfl ?_ | (refine J.unguard rfl rfl rfl ?_; refine J.not rfl rfl ?_)
  (first | refine J.pickT rfl rfl rfl ?_ | refine J.pickF rfl rfl rfl ?_)
  refine J.nil ?_
  refine JX.thenN (hK3 _ _ ?_)
  first | refine JC.condF rfl ?_ | refine JC.cond rfl (fun h => by first | (exfalso; simp at h; omega) | (simp at h)) (fun _ => ?_)
  refine JC.skip ?_
  refine JX.thenN (hK2 _ _ ?_)
  refine JC.seq (fun K4 hK4 => ?_)
  refine JC.seq (fun K5 hK5 => ?_)
  refine JC.region ?_
  refine J.move rfl rfl ?_
  refine J.perm ([] ++ ((b4, cb (cI me) 24) :: (t1, tabO 128 m1) :: (m1, .map es ck) :: ((rt, rtabO vr 128) :: lr))) (.refl _) ?_
  refine J.callS (α := Value × List (Nat × Obj)) (V := (·.1)) (Pr := fun x => Vec 31 17 x.1 ((twP (ownL (laidL 128 xs)) (ownL (laidL 128 xs)).length)).length (fP ((twP (ownL (laidL 128 xs)) (ownL (laidL 128 xs)).length))) x.2) (L := (·.2)) (l1 := []) Ty.bd15 rfl rfl (fun w1 hw => twins_spec t1 m1 128 (laidL 128 xs) es ck w1 (hw.own (t1, tabO 128 m1) (by repeat first | exact .head _ | apply List.Mem.tail | apply List.mem_append_right)) (hw.own (m1, .map es ck) (by repeat first | exact .head _ | apply List.Mem.tail | apply List.mem_append_right)) hT (by omega)) (fun x hvt => ?_)
  obtain ⟨vt, lt⟩ := x
  simp only at hvt ⊢
  obtain ⟨at1, ct1, rfl, hct⟩ := hvt.form
  refine J.lenS rfl Ty.u43 rfl rfl ?_
  refine J.move rfl rfl ?_
  refine J.nil ?_
  refine JX.thenN (hK5 _ _ ?_)
  refine JC.block ?_
  refine JC.conseq (JC.cov (f := (fun st => [(2, .int .i64 half), (4, .pointer (some ⟨b4, 0, none⟩)), (7, .pointer (some ⟨t1, 0, none⟩)), (30, .slice at1 (twP (ownL (laidL 128 xs)) (ownL (laidL 128 xs)).length).length ct1), (31, .int .i64 (((twP (ownL (laidL 128 xs)) (ownL (laidL 128 xs)).length).length : Nat) : Int)), (32, .int .i64 ((st.1 : Nat) : Int))]) ((0, (laidL 128 xs), es) : Nat × List EV × Array MapEntry)) ⟨rfl, rfl, rfl, rfl, rfl, rfl, trivial⟩ (JC.loop (α := Nat × List EV × Array MapEntry) (fun st => [(2, .int .i64 half), (4, .pointer (some ⟨b4, 0, none⟩)), (7, .pointer (some ⟨t1, 0, none⟩)), (30, .slice at1 (twP (ownL (laidL 128 xs)) (ownL (laidL 128 xs)).length).length ct1), (31, .int .i64 (((twP (ownL (laidL 128 xs)) (ownL (laidL 128 xs)).length).length : Nat) : Int)), (32, .int .i64 ((st.1 : Nat) : Int))]) (fun st w' => (st.1 ≤ (twP (ownL (laidL 128 xs)) (ownL (laidL 128 xs)).length).length ∧ Tab st.2.1 st.2.2 ck ∧ TInv (laidL 128 xs) st.2.1 ∧ ∀ y, y ∈ st.2.1 → ∀ p, p ∈ (twP (ownL (laidL 128 xs)) (ownL (laidL 128 xs)).length).take st.1 → y.p ≠ p) ∧ St w [] ((b4, cb (cI me) 24) :: (t1, tabO 128 m1) :: (m1, .map st.2.2 ck) :: (lt ++ ((rt, rtabO vr 128) :: lr))) w') (fun st => (twP (ownL (laidL 128 xs)) (ownL (laidL 128 xs)).length).length - st.1) ((0, (laidL 128 xs), es) : Nat × List EV × Array MapEntry) (fun st => ?_))) (fun w hw => ⟨⟨Nat.zero_le _, hT, TInv.start hgood hdist, fun y _ p hp => by simp at hp⟩, hw.perm (by (refine perm_cnt (fun _ => ?_)); simp only [cntB_append, cntB_cons, cntB_nil, Nat.add_zero, Nat.zero_add]; try ac_rfl)⟩)
  obtain ⟨i, L2, es2⟩ := st
  refine JC.pr (fun hx1 => ?_)
  obtain ⟨hi, hT2, hinv, hb⟩ := hx1
  simp only at hi hT2 hinv hb ⊢
  have hlen := hinv.good.len
  refine JC.seq (fun K6 hK6 => ?_)
  refine JC.region ?_
  refine J.bin rfl rfl rfl rfl ?_
  refine J.nil ?_
  refine JX.thenN (hK6 _ _ ?_)
  refine JC.seq (fun K7 hK7 => ?_)
  refine JC.cond rfl (fun h1 => ?_) (fun h1 => ?_)
  · skip
    have hlt : i < (twP (ownL (laidL 128 xs)) (ownL (laidL 128 xs)).length).length := by simp at h1; omega
    obtain ⟨qt, rfl⟩ : ∃ q, at1 = some ⟨q, 0, none⟩ := by
      obtain ⟨q, sp, h9, _⟩ := vec_pos hvt (by omega)
      exact ⟨q, h9⟩
    obtain ⟨pp, hpp⟩ : ∃ x, (twP (ownL (laidL 128 xs)) (ownL (laidL 128 xs)).length)[i]? = some x := ⟨_, List.getElem?_eq_getElem hlt⟩
    obtain ⟨x0, hx0, rfl⟩ := tw_mem _ _ (List.mem_of_getElem? hpp)
    have hxo0 : okE x0 := hT.ok x0 (own_mem.1 hx0).1
    refine JC.skip ?_
    refine JX.thenN (hK7 _ _ ?_)
    refine JC.seq (fun K8 hK8 => ?_)
    refine JC.block ?_
    refine JC.seq (fun K9 hK9 => ?_)
    refine JC.region ?_
    refine J.indexAddrS Ty.el43 Ty.s31 rfl rfl (by omega) (by omega) rfl ?_
    refine J.loadA (vs := cP x0.p) Ty.a31 Ty.s31 rfl rfl (fun w1 hw => rowP_at (vec_rowM hvt hw (fun q hq => by first | (simp [hq]; done) | (simp at hq; simp [hq]; done) | (simp at hq; subst hq; simp))) hpp (by simp)) rfl ?_
    refine J.alloc zPa rfl rfl (fun b10 => ?_)
    refine J.storeW (cs := cP zP) (vs := cP x0.p) Ty.s31 rfl rfl rfl rfl rfl (one_cP _) .here ?_
    refine J.nil ?_
    refine JX.thenN (hK9 _ _ ?_)
    refine JC.region ?_
    refine J.move rfl rfl ?_
    refine J.loadOA (vs := cP x0.p) Ty.a31 Ty.s31 rfl (.head _) rfl rfl rfl ?_
    refine J.perm ([(t1, tabO 128 m1), (m1, .map es2 ck)] ++ ((b10, cb (cP x0.p) 31) :: (b4, cb (cI me) 24) :: (lt ++ ((rt, rtabO vr 128) :: lr)))) (by (refine perm_cnt (fun _ => ?_)); simp only [cntB_append, cntB_cons, cntB_nil, Nat.add_zero, Nat.zero_add]; try ac_rfl) ?_
    refine J.callS (α := TS × Array MapEntry) (V := fun y => .agg [y.1.vo, y.1.vl].toArray) (Pr := fun y => (endT L2 x0.p).1.is y.1 ∧ Tab (endT L2 x0.p).2 y.2 ck) (L := fun y => (y.1.lo ++ y.1.ll) ++ [(t1, tabO 128 m1), (m1, .map y.2 ck)]) (l1 := [(t1, tabO 128 m1), (m1, .map es2 ck)]) Ty.bd19 rfl rfl (fun w1 hw => (tend_spec t1 m1 128 L2 es2 ck w1 hw.owns hT2 x0.p hxo0.1)) (fun y hy => ?_)
    obtain ⟨y, es3⟩ := y
    obtain ⟨hy, hT3⟩ := hy
    simp only [List.cons_append, List.nil_append] at hy hT3 ⊢
    rw [hinv.ends hdist hx0] at hT3
    refine J.nil ?_
    refine JX.blockN ?_
    refine JX.thenN (hK8 _ _ ?_)
    refine JC.region ?_
    (first | refine J.addN rfl rfl (by omega) (by omega) rfl ?_ | refine J.bin rfl rfl rfl rfl ?_)
    refine J.move rfl rfl ?_
    refine J.nil ?_
    refine JX.thenN ?_
    refine JX.again ((i + 1, delL L2 x0.p, es3) : Nat × List EV × Array MapEntry) ?_ ?_ ?_
    · simp only; omega
    · exact ⟨rfl, rfl, rfl, rfl, rfl, rfl, trivial⟩
    · exact fun w1 hw => ⟨⟨hlt, hT3, hinv.del _, tw_next hpp hb⟩, (hw.perm (l' := ((b10, cb (cP x0.p) 31) :: (y.lo ++ y.ll)) ++ ((b4, cb (cI me) 24) :: (t1, tabO 128 m1) :: (m1, .map es3 ck) :: (lt ++ ((rt, rtabO vr 128) :: lr)))) (by (refine perm_cnt (fun _ => ?_)); simp only [cntB_append, cntB_cons, cntB_nil, Nat.add_zero, Nat.zero_add]; try ac_rfl)).drop (List.sublist_append_right _ _)⟩
  · skip
    have hge : i = (twP (ownL (laidL 128 xs)) (ownL (laidL 128 xs)).length).length := by simp at h1; omega
    subst hge
    rw [List.take_length] at hb
    have hone := hinv.one hb
    have hl2 : (ordE L2).length = L2.length := (ordE_perm L2).length_eq
    have hol3 := List.length_filter_le ownB (ordE L2)
    have hol4 : (ownL L2).length ≤ 128 := by unfold ownL; omega
    refine JC.exit ?_
    refine JX.thenE ?_
    refine JX.thenE ?_
    refine JX.blockE ?_
    refine JX.thenN (hK4 _ _ ?_)
    refine JC.seq (fun K10 hK10 => ?_)
    refine JC.seq (fun K11 hK11 => ?_)
    refine JC.region ?_
    refine J.move rfl rfl ?_
    refine J.perm ([] ++ ((b4, cb (cI me) 24) :: (t1, tabO 128 m1) :: (m1, .map es2 ck) :: (lt ++ ((rt, rtabO vr 128) :: lr)))) (.refl _) ?_
    refine J.callS (α := Value × List (Nat × Obj)) (V := (·.1)) (Pr := fun x => Vec 33 51 x.1 (ownL L2).length (fE (ownL L2)) x.2) (L := (·.2)) (l1 := []) Ty.bd20 rfl rfl (fun w1 hw => own_spec t1 m1 128 L2 es2 ck w1 (hw.own (t1, tabO 128 m1) (by repeat first | exact .head _ | apply List.Mem.tail | apply List.mem_append_right)) (hw.own (m1, .map es2 ck) (by repeat first | exact .head _ | apply List.Mem.tail | apply List.mem_append_right)) hT2 (by omega)) (fun x hvo => ?_)
    obtain ⟨vo, lo⟩ := x
    simp only at hvo ⊢
    obtain ⟨ao, co, rfl, hco⟩ := hvo.form
    refine J.lenS rfl Ty.u22 rfl rfl ?_
    refine J.move rfl rfl ?_
    refine J.nil ?_
    refine JX.thenN (hK11 _ _ ?_)
    refine JC.block ?_
    refine JC.conseq (JC.cov (f := (fun st => [(2, .int .i64 half), (4, .pointer (some ⟨b4, 0, none⟩)), (7, .pointer (some ⟨t1, 0, none⟩)), (41, .slice ao (ownL L2).length co), (42, .int .i64 (((ownL L2).length : Nat) : Int)), (43, .int .i64 ((st.1 : Nat) : Int))]) ((0, L2, es2) : Nat × List EV × Array MapEntry)) ⟨rfl, rfl, rfl, rfl, rfl, rfl, trivial⟩ (JC.loop (α := Nat × List EV × Array MapEntry) (fun st => [(2, .int .i64 half), (4, .pointer (some ⟨b4, 0, none⟩)), (7, .pointer (some ⟨t1, 0, none⟩)), (41, .slice ao (ownL L2).length co), (42, .int .i64 (((ownL L2).length : Nat) : Int)), (43, .int .i64 ((st.1 : Nat) : Int))]) (fun st w' => (st.1 ≤ (ownL L2).length ∧ Tab st.2.1 st.2.2 ck ∧ TInv L2 st.2.1 ∧ ∀ y, y ∈ st.2.1 → ∀ x, x ∈ (ownL L2).take st.1 → othE x = me → y.p ≠ x.p) ∧ St w [] ((b4, cb (cI me) 24) :: (t1, tabO 128 m1) :: (m1, .map st.2.2 ck) :: (lo ++ (lt ++ ((rt, rtabO vr 128) :: lr)))) w') (fun st => (ownL L2).length - st.1) ((0, L2, es2) : Nat × List EV × Array MapEntry) (fun st => ?_))) (fun w hw => ⟨⟨Nat.zero_le _, hT2, TInv.start hinv.good hinv.dist, fun y _ x hx => by simp at hx⟩, hw.perm (by (refine perm_cnt (fun _ => ?_)); simp only [cntB_append, cntB_cons, cntB_nil, Nat.add_zero, Nat.zero_add]; try ac_rfl)⟩)
    obtain ⟨i, L3, es3⟩ := st
    refine JC.pr (fun hx1 => ?_)
    obtain ⟨hi, hT3, hinv3, hb3⟩ := hx1
    simp only at hi hT3 hinv3 hb3 ⊢
    have hlen3 := hinv3.good.len
    refine JC.seq (fun K12 hK12 => ?_)
    refine JC.region ?_
    refine J.bin rfl rfl rfl rfl ?_
    refine J.nil ?_
    refine JX.thenN (hK12 _ _ ?_)
    refine JC.seq (fun K13 hK13 => ?_)
    refine JC.cond rfl (fun h2 => ?_) (fun h2 => ?_)
    · skip
      have hlt : i < (ownL L2).length := by simp at h2; omega
      obtain ⟨qo, rfl⟩ : ∃ q, ao = some ⟨q, 0, none⟩ := by
        obtain ⟨q, sp, h9, _⟩ := vec_pos hvo (by omega)
        exact ⟨q, h9⟩
      obtain ⟨xe, hxe⟩ : ∃ x, (ownL L2)[i]? = some x := ⟨_, List.getElem?_eq_getElem hlt⟩
      have hxm := List.mem_of_getElem? hxe
      have hxo : okE xe := hT2.ok xe (own_mem.1 hxm).1
      refine JC.skip ?_
      refine JX.thenN (hK13 _ _ ?_)
      refine JC.seq (fun K14 hK14 => ?_)
      refine JC.block ?_
      refine JC.seq (fun K15 hK15 => ?_)
      refine JC.region ?_
      refine J.indexAddrS Ty.el22 Ty.s33 rfl rfl (by omega) (by omega) rfl ?_
      refine J.loadA (vs := cE xe) Ty.a33 Ty.s33 rfl rfl (fun w1 hw => rowE_at (o := 0) (vec_rowM hvo hw (fun q hq => by first | (simp [hq]; done) | (simp at hq; simp [hq]; done) | (simp at hq; subst hq; simp))) hxe (by omega)) rfl ?_
      refine J.alloc Ty.zE_ rfl rfl (fun b12 => ?_)
      refine J.storeW (cs := cE zE) (vs := cE xe) Ty.s33 rfl rfl rfl rfl rfl (one_cE _) .here ?_
      refine J.nil ?_
      refine JX.thenN (hK15 _ _ ?_)
      refine JC.seq (fun K16 hK16 => ?_)
      refine JC.region ?_
      refine J.loadOA (vs := cE xe) Ty.a33 Ty.s33 rfl (.head _) rfl rfl rfl ?_
      refine J.callB (v := .tuple #[.agg (cI (otherV xe).1).toArray, .int .i64 (otherV xe).2.1, .bool (otherV xe).2.2]) (fun w1 w2 hw hb => hw.step hb) Ty.bd21 rfl rfl (fun w1 hw => other_spec xe w1) ?_
      refine J.move rfl rfl ?_
      refine J.extract rfl rfl rfl ?_
      refine J.extract rfl rfl rfl ?_
      refine J.extract rfl rfl rfl ?_
      refine J.alloc Ty.zID rfl rfl (fun b13 => ?_)
      refine J.storeW (cs := cI zI) (vs := cI (othE xe)) Ty.s24 rfl rfl rfl rfl rfl (one_cI _) .here ?_
      refine J.assign rfl rfl ?_
      refine J.assign rfl rfl ?_
      refine J.nil ?_
      refine JX.thenN (hK16 _ _ ?_)
      refine JC.seq (fun K17 hK17 => ?_)
      refine JC.region ?_
      refine J.loadOA (vs := cI (othE xe)) Ty.a24 Ty.s24 rfl (.head _) rfl rfl rfl ?_
      refine J.loadOA (vs := cI me) Ty.a24 Ty.s24 rfl (.tail _ (.tail _ (.head _))) rfl rfl rfl ?_
      refine J.eqI Ty.QI Ty.keyI rfl rfl rfl ?_
      refine J.nil ?_
      refine JX.thenN (hK17 _ _ ?_)
      refine JC.cond rfl (fun h3 => ?_) (fun h3 => ?_)
      · skip
        have hx3 : othE xe = me := by simpa using h3
        refine JC.region ?_
        refine J.move rfl rfl ?_
        refine J.fieldAddr Ty.fd33_0 rfl rfl ?_
        refine J.loadOA (vs := cP xe.p) Ty.a31 Ty.s31 rfl (.tail _ (.head _)) rfl rfl rfl ?_
        refine J.perm ([(t1, tabO 128 m1), (m1, .map es3 ck)] ++ ((b13, cb (cI (othE xe)) 24) :: (b12, cb (cE xe) 33) :: (b4, cb (cI me) 24) :: (lo ++ (lt ++ ((rt, rtabO vr 128) :: lr))))) (by (refine perm_cnt (fun _ => ?_)); simp only [cntB_append, cntB_cons, cntB_nil, Nat.add_zero, Nat.zero_add]; try ac_rfl) ?_
        refine J.callS (α := TS × Array MapEntry) (V := fun y => .agg [y.1.vo, y.1.vl].toArray) (Pr := fun y => (endT L3 xe.p).1.is y.1 ∧ Tab (endT L3 xe.p).2 y.2 ck) (L := fun y => (y.1.lo ++ y.1.ll) ++ [(t1, tabO 128 m1), (m1, .map y.2 ck)]) (l1 := [(t1, tabO 128 m1), (m1, .map es3 ck)]) Ty.bd19 rfl rfl (fun w1 hw => (tend_spec t1 m1 128 L3 es3 ck w1 hw.owns hT3 xe.p hxo.1)) (fun y hy => ?_)
        obtain ⟨y, es4⟩ := y
        obtain ⟨hy, hT4⟩ := hy
        simp only [List.cons_append, List.nil_append] at hy hT4 ⊢
        rw [hinv3.ends hinv.dist hxm] at hT4
        refine J.nil ?_
        refine JX.blockN ?_
        refine JX.thenN (hK14 _ _ ?_)
        refine JC.region ?_
        (first | refine J.addN rfl rfl (by omega) (by omega) rfl ?_ | refine J.bin rfl rfl rfl rfl ?_)
        refine J.move rfl rfl ?_
        refine J.nil ?_
        refine JX.thenN ?_
        refine JX.again ((i + 1, delL L3 xe.p, es4) : Nat × List EV × Array MapEntry) ?_ ?_ ?_
        · simp only; omega
        · exact ⟨rfl, rfl, rfl, rfl, rfl, rfl, trivial⟩
        · exact fun w1 hw => ⟨⟨hlt, hT4, hinv3.del _, me_next hxe hb3⟩, (hw.perm (l' := ((b13, cb (cI (othE xe)) 24) :: (b12, cb (cE xe) 33) :: (y.lo ++ y.ll)) ++ ((b4, cb (cI me) 24) :: (t1, tabO 128 m1) :: (m1, .map es4 ck) :: (lo ++ (lt ++ ((rt, rtabO vr 128) :: lr))))) (by (refine perm_cnt (fun _ => ?_)); simp only [cntB_append, cntB_cons, cntB_nil, Nat.add_zero, Nat.zero_add]; try ac_rfl)).drop (List.sublist_append_right _ _)⟩
      · skip
        have hx3 : ¬ othE xe = me := by simpa using h3
        refine JC.skip ?_
        refine JX.blockN ?_
        refine JX.thenN (hK14 _ _ ?_)
        refine JC.region ?_
        (first | refine J.addN rfl rfl (by omega) (by omega) rfl ?_ | refine J.bin rfl rfl rfl rfl ?_)
        refine J.move rfl rfl ?_
        refine J.nil ?_
        refine JX.thenN ?_
        refine JX.again ((i + 1, L3, es3) : Nat × List EV × Array MapEntry) ?_ ?_ ?_
        · simp only; omega
        · exact ⟨rfl, rfl, rfl, rfl, rfl, rfl, trivial⟩
        · exact fun w1 hw => ⟨⟨hlt, hT3, hinv3, me_skip hxe hx3 hb3⟩, hw.drop (.cons _ (.cons _ (List.Sublist.refl _)))⟩
    · skip
      have hge2 : i = (ownL L2).length := by simp at h2; omega
      subst hge2
      rw [List.take_length] at hb3
      have hme := me_none hinv3 hb3
      have hone3 : OneEach (ownL L3) := List.Pairwise.sublist hinv3.own hone
      have hol5 := hinv3.own.length_le
      refine JC.exit ?_
      refine JX.thenE ?_
      refine JX.thenE ?_
      refine JX.blockE ?_
      refine JX.thenN (hK10 _ _ ?_)
      refine JC.seq (fun K18 hK18 => ?_)
      refine JC.seq (fun K19 hK19 => ?_)
      refine JC.region ?_
      refine J.move rfl rfl ?_
      refine J.nil ?_
      refine JX.thenN (hK19 _ _ ?_)
      refine JC.block ?_
      refine JC.conseq (JC.cov (f := (fun st => [(2, .int .i64 half), (4, .pointer (some ⟨b4, 0, none⟩)), (7, .pointer (some ⟨t1, 0, none⟩)), (61, .int .i64 ((st.1 : Nat) : Int))]) ((0, L3, es3) : Nat × List EV × Array MapEntry)) ⟨rfl, rfl, rfl, rfl, trivial⟩ (JC.loop (α := Nat × List EV × Array MapEntry) (fun st => [(2, .int .i64 half), (4, .pointer (some ⟨b4, 0, none⟩)), (7, .pointer (some ⟨t1, 0, none⟩)), (61, .int .i64 ((st.1 : Nat) : Int))]) (fun st w' => (st.1 + (ownL st.2.1).length ≤ 128 ∧ Tab st.2.1 st.2.2 ck ∧ TInv L3 st.2.1) ∧ St w [] ((b4, cb (cI me) 24) :: (t1, tabO 128 m1) :: (m1, .map st.2.2 ck) :: (lo ++ (lt ++ ((rt, rtabO vr 128) :: lr)))) w') (fun st => 130 - st.1) ((0, L3, es3) : Nat × List EV × Array MapEntry) (fun st => ?_))) (fun w hw => ⟨⟨by simp only; omega, hT3, TInv.start hinv3.good hinv3.dist⟩, hw⟩)
      obtain ⟨r, L4, es4⟩ := st
      refine JC.pr (fun hx1 => ?_)
      obtain ⟨hr4, hT4, hinv4⟩ := hx1
      simp only at hr4 hT4 hinv4 ⊢
      have hlen4 := hinv4.good.len
      have hpl4 := (ordE_perm L4).length_eq
      have hol6 := List.length_filter_le ownB (ordE L4)
      have hsl4 := sp_le (ownL L4) (wnI (ownL L4) me half)
      have hfl4 := fr_len (ownL L4) me
      refine JC.seq (fun K20 hK20 => ?_)
      refine JC.region ?_
      refine J.bin rfl rfl rfl rfl ?_
      refine J.nil ?_
      refine JX.thenN (hK20 _ _ ?_)
      refine JC.seq (fun K21 hK21 => ?_)
      first | refine JC.condT rfl ?_ | refine JC.cond rfl (fun _ => ?_) (fun h => by simp at h; omega)
      refine JC.skip ?_
      refine JX.thenN (hK21 _ _ ?_)
      refine JC.seq (fun K22 hK22 => ?_)
      refine JC.block ?_
      refine JC.seq (fun K23 hK23 => ?_)
      refine JC.region ?_
      refine J.move rfl rfl ?_
      refine J.loadA (vs := cI me) Ty.a24 Ty.s24 rfl rfl (fun w1 hw => Cells.of_block (hw.own ((b4, cb (cI me) 24)) (by repeat first | exact .head _ | apply List.Mem.tail | apply List.mem_append_right)) rfl) rfl ?_
      refine J.move rfl rfl ?_
      refine J.perm ([] ++ ((b4, cb (cI me) 24) :: (t1, tabO 128 m1) :: (m1, .map es4 ck) :: (lo ++ (lt ++ ((rt, rtabO vr 128) :: lr))))) (.refl _) ?_
      refine J.callS (α := Value × List (Nat × Obj)) (V := (·.1)) (Pr := fun x => Vec 31 17 x.1 ((spP (ownL L4) (wnI (ownL L4) me half))).length (fP ((spP (ownL L4) (wnI (ownL L4) me half)))) x.2) (L := (·.2)) (l1 := []) Ty.bd13 rfl rfl (fun w1 hw => spare_spec t1 m1 128 L4 es4 ck w1 (hw.own (t1, tabO 128 m1) (by repeat first | exact .head _ | apply List.Mem.tail | apply List.mem_append_right)) (hw.own (m1, .map es4 ck) (by repeat first | exact .head _ | apply List.Mem.tail | apply List.mem_append_right)) hT4 (by omega) me half) (fun x hv16 => ?_)
      obtain ⟨v16, l16⟩ := x
      simp only at hv16 ⊢
      obtain ⟨a16, c16, rfl, hc16⟩ := hv16.form
      refine J.assign rfl rfl ?_
      refine J.nil ?_
      refine JX.thenN (hK23 _ _ ?_)
      refine JC.seq (fun K24 hK24 => ?_)
      refine JC.seq (fun K25 hK25 => ?_)
      refine JC.region ?_
      refine J.move rfl rfl ?_
      refine J.lenS rfl Ty.u43 rfl rfl ?_
      refine J.bin rfl rfl rfl rfl ?_
      refine J.nil ?_
      refine JX.thenN (hK25 _ _ ?_)
      refine JC.cond rfl (fun h5 => ?_) (fun h5 => ?_)
      · skip
        have hnil : (spP (ownL L4) (wnI (ownL L4) me half)) = [] := List.eq_nil_of_length_eq_zero (by simpa using h5)
        obtain ⟨hE1, hE2, hE3⟩ := tidy_end (List.Pairwise.sublist hinv4.own hone3) (fun y hy => hme y (hinv4.own.mem hy)) hnil
        refine JC.exit ?_
        refine JX.thenE ?_
        refine JX.blockO rfl ?_
        refine JX.thenE ?_
        refine JX.thenE ?_
        refine JX.blockE ?_
        refine JX.thenN (hK18 _ _ ?_)
        refine JC.seq (fun K26 hK26 => ?_)
        refine JC.region ?_
        refine J.move rfl rfl ?_
        refine J.loadA (vs := cI me) Ty.a24 Ty.s24 rfl rfl (fun w1 hw => Cells.of_block (hw.own ((b4, cb (cI me) 24)) (by repeat first | exact .head _ | apply List.Mem.tail | apply List.mem_append_right)) rfl) rfl ?_
        refine J.perm ([] ++ (l16 ++ ((b4, cb (cI me) 24) :: (t1, tabO 128 m1) :: (m1, .map es4 ck) :: (lo ++ (lt ++ ((rt, rtabO vr 128) :: lr)))))) (.refl _) ?_
        refine J.callS (α := Value × List (Nat × Obj)) (V := (·.1)) (Pr := fun x => Vec 24 16 x.1 (frI (ownL L4) me).length (fI (frI (ownL L4) me)) x.2) (L := (·.2)) (l1 := []) Ty.bd10 rfl rfl (fun w1 hw => friends_spec t1 m1 128 L4 es4 ck w1 (hw.own (t1, tabO 128 m1) (by repeat first | exact .head _ | apply List.Mem.tail | apply List.mem_append_right)) (hw.own (m1, .map es4 ck) (by repeat first | exact .head _ | apply List.Mem.tail | apply List.mem_append_right)) hT4 (by omega) me) (fun x hvf => ?_)
        obtain ⟨vf, lf⟩ := x
        simp only at hvf ⊢
        obtain ⟨af, cf, rfl, hcf⟩ := hvf.form
        refine J.assign rfl rfl ?_
        refine J.nil ?_
        refine JX.thenN (hK26 _ _ ?_)
        refine JC.seq (fun K27 hK27 => ?_)
        refine JC.region ?_
        refine J.move rfl rfl ?_
        refine J.loadA (vs := cI me) Ty.a24 Ty.s24 rfl rfl (fun w1 hw => Cells.of_block (hw.own ((b4, cb (cI me) 24)) (by repeat first | exact .head _ | apply List.Mem.tail | apply List.mem_append_right)) rfl) rfl ?_
        refine J.move rfl rfl ?_
        refine J.perm ([] ++ (lf ++ (l16 ++ ((b4, cb (cI me) 24) :: (t1, tabO 128 m1) :: (m1, .map es4 ck) :: (lo ++ (lt ++ ((rt, rtabO vr 128) :: lr))))))) (.refl _) ?_
        refine J.callS (α := Value × List (Nat × Obj)) (V := (·.1)) (Pr := fun x => Vec 31 17 x.1 ((spP (ownL L4) (wnI (ownL L4) me half))).length (fP ((spP (ownL L4) (wnI (ownL L4) me half)))) x.2) (L := (·.2)) (l1 := []) Ty.bd13 rfl rfl (fun w1 hw => spare_spec t1 m1 128 L4 es4 ck w1 (hw.own (t1, tabO 128 m1) (by repeat first | exact .head _ | apply List.Mem.tail | apply List.mem_append_right)) (hw.own (m1, .map es4 ck) (by repeat first | exact .head _ | apply List.Mem.tail | apply List.mem_append_right)) hT4 (by omega) me half) (fun x hvs => ?_)
        obtain ⟨vs, ls⟩ := x
        simp only at hvs ⊢
        obtain ⟨as_, cs_, rfl, hcs⟩ := hvs.form
        refine J.lenS rfl Ty.u43 rfl rfl ?_
        refine J.bin rfl rfl rfl rfl ?_
        refine J.name 84 rfl (show _ = Value.bool true by rw [hnil]; rfl) ?_
        refine J.move rfl rfl ?_
        first | refine J.skip rfl rfl rfl rfl rfl ?_ | refine J.skipU rfl rfl rfl rfl ?_ | (refine J.unguard rfl rfl rfl ?_; refine J.move rfl rfl ?_)
        first | refine J.skip rfl rfl rfl rfl rfl ?_ | refine J.skipU rfl rfl rfl rfl ?_ | (refine J.unguard rfl rfl rfl ?_; refine J.perm ([] ++ (ls ++ (lf ++ (l16 ++ ((b4, cb (cI me) 24) :: (t1, tabO 128 m1) :: (m1, .map es4 ck) :: (lo ++ (lt ++ ((rt, rtabO vr 128) :: lr)))))))) (.refl _) ?_; refine J.callS (α := Value × List (Nat × Obj)) (V := (·.1)) (Pr := fun x => Vec 31 17 x.1 (twP (ownL L4) (ownL L4).length).length (fP (twP (ownL L4) (ownL L4).length)) x.2) (L := (·.2)) (l1 := []) Ty.bd15 rfl rfl (fun w1 hw => twins_spec t1 m1 128 L4 es4 ck w1 (hw.own (t1, tabO 128 m1) (by repeat first | exact .head _ | apply List.Mem.tail | apply List.mem_append_right)) (hw.own (m1, .map es4 ck) (by repeat first | exact .head _ | apply List.Mem.tail | apply List.mem_append_right)) hT4 (by omega)) (fun x hvu => ?_); obtain ⟨vu, lu⟩ := x; simp only at hvu ⊢; obtain ⟨au, cu, rfl, hcu⟩ := hvu.form)
        first | refine J.skip rfl rfl rfl rfl rfl ?_ | refine J.skipU rfl rfl rfl rfl ?_ | (refine J.unguard rfl rfl rfl ?_; refine J.lenS rfl Ty.u43 rfl rfl ?_)
        first | refine J.skip rfl rfl rfl rfl rfl ?_ | refine J.skipU rfl rfl rfl rfl ?_ | (refine J.unguard rfl rfl rfl ?_; refine J.bin rfl rfl rfl rfl ?_; refine J.name 89 rfl (show _ = Value.bool true by rw [hE1]; rfl) ?_)
        (first | refine J.pickT rfl rfl rfl ?_ | refine J.pickF rfl rfl rfl ?_)
        refine J.move rfl rfl ?_
        first | refine J.skip rfl rfl rfl rfl rfl ?_ | refine J.skipU rfl rfl rfl rfl ?_ | (refine J.unguard rfl rfl rfl ?_; refine J.move rfl rfl ?_)
        first | refine J.skip rfl rfl rfl rfl rfl ?_ | refine J.skipU rfl rfl rfl rfl ?_ | (refine J.unguard rfl rfl rfl ?_; refine J.perm ([] ++ (lu ++ (ls ++ (lf ++ (l16 ++ ((b4, cb (cI me) 24) :: (t1, tabO 128 m1) :: (m1, .map es4 ck) :: (lo ++ (lt ++ ((rt, rtabO vr 128) :: lr))))))))) (.refl _) ?_; refine J.callS (α := Value × List (Nat × Obj)) (V := (·.1)) (Pr := fun x => Vec 33 51 x.1 (ownL L4).length (fE (ownL L4)) x.2) (L := (·.2)) (l1 := []) Ty.bd20 rfl rfl (fun w1 hw => own_spec t1 m1 128 L4 es4 ck w1 (hw.own (t1, tabO 128 m1) (by repeat first | exact .head _ | apply List.Mem.tail | apply List.mem_append_right)) (hw.own (m1, .map es4 ck) (by repeat first | exact .head _ | apply List.Mem.tail | apply List.mem_append_right)) hT4 (by omega)) (fun x hvz => ?_); obtain ⟨vz, lz⟩ := x; simp only at hvz ⊢; obtain ⟨az, cz, rfl, hcz⟩ := hvz.form)
        first | refine J.skip rfl rfl rfl rfl rfl ?_ | refine J.skipU rfl rfl rfl rfl ?_ | (refine J.unguard rfl rfl rfl ?_; refine J.lenS rfl Ty.u22 rfl rfl ?_)
        first | refine J.skip rfl rfl rfl rfl rfl ?_ | refine J.skipU rfl rfl rfl rfl ?_ | (refine J.unguard rfl rfl rfl ?_; refine J.move rfl rfl ?_)
        first | refine J.skip rfl rfl rfl rfl rfl ?_ | refine J.skipU rfl rfl rfl rfl ?_ | (refine J.unguard rfl rfl rfl ?_; refine J.lenS rfl Ty.u39 rfl rfl ?_)
        first | refine J.skip rfl rfl rfl rfl rfl ?_ | refine J.skipU rfl rfl rfl rfl ?_ | (refine J.unguard rfl rfl rfl ?_; refine J.bin rfl rfl rfl rfl ?_; refine J.name 97 rfl (show _ = Value.bool true by rw [hE2]; simp) ?_)
        (first | refine J.pickT rfl rfl rfl ?_ | refine J.pickF rfl rfl rfl ?_)
        refine J.move rfl rfl ?_
        first | refine J.skip rfl rfl rfl rfl rfl ?_ | refine J.skipU rfl rfl rfl rfl ?_ | (refine J.unguard rfl rfl rfl ?_; refine J.loadA (vs := cI me) Ty.a24 Ty.s24 rfl rfl (fun w1 hw => Cells.of_block (hw.own ((b4, cb (cI me) 24)) (by repeat first | exact .head _ | apply List.Mem.tail | apply List.mem_append_right)) rfl) rfl ?_)
        first | refine J.skip rfl rfl rfl rfl rfl ?_ | refine J.skipU rfl rfl rfl rfl ?_ | (refine J.unguard rfl rfl rfl ?_; refine J.move rfl rfl ?_)
        first | refine J.skip rfl rfl rfl rfl rfl ?_ | refine J.skipU rfl rfl rfl rfl ?_ | (refine J.unguard rfl rfl rfl ?_; refine J.move rfl rfl ?_)
        first | refine J.skip rfl rfl rfl rfl rfl ?_ | refine J.skipU rfl rfl rfl rfl ?_ | (refine J.unguard rfl rfl rfl ?_; refine J.perm ([] ++ (lz ++ (lu ++ (ls ++ (lf ++ (l16 ++ ((b4, cb (cI me) 24) :: (t1, tabO 128 m1) :: (m1, .map es4 ck) :: (lo ++ (lt ++ ((rt, rtabO vr 128) :: lr)))))))))) (.refl _) ?_; refine J.callS (α := Value × List (Nat × Obj)) (V := (·.1)) (Pr := fun x => Vec 24 16 x.1 (wantI me (frI (ownL L4) me) half).length (fI (wantI me (frI (ownL L4) me) half)) x.2) (L := (·.2)) (l1 := []) Ty.bd22 rfl rfl (fun w1 hw => rwant_spec me _ (frI (ownL L4) me) half w1 (vec_rowM hvf hw (fun q hq => by first | (simp [hq]; done) | (simp at hq; simp [hq]; done) | (simp at hq; subst hq; simp))) (by omega)) (fun x hvw => ?_); obtain ⟨vw, lw⟩ := x; simp only at hvw ⊢; rw [hE3] at hvw)
        first | refine J.skip rfl rfl rfl rfl rfl ?_ | refine J.skipU rfl rfl rfl rfl ?_ | (refine J.unguard rfl rfl rfl ?_; refine J.move rfl rfl ?_)
        first | refine J.skip rfl rfl rfl rfl rfl ?_ | refine J.skipU rfl rfl rfl rfl ?_ | (refine J.unguard rfl rfl rfl ?_; refine J.callB (v := .bool true) (fun w1 w2 hw hb => hw.step hb) Ty.bd9 rfl rfl (fun w1 hw => (by have h := sameIDs_spec _ _ (frI (ownL L4) me) (frI (ownL L4) me) w1 (vec_rowM hvw hw (fun q hq => by first | (simp [hq]; done) | (simp at hq; simp [hq]; done) | (simp at hq; subst hq; simp))) (vec_rowM hvf hw (fun q hq => by first | (simp [hq]; done) | (simp at hq; simp [hq]; done) | (simp at hq; subst hq; simp))) (by omega) (by omega); simpa using h)) ?_)
        (first | refine J.pickT rfl rfl rfl ?_ | refine J.pickF rfl rfl rfl ?_)
        refine J.assign rfl rfl ?_
        refine J.nil ?_
        refine JX.thenN (hK27 _ _ ?_)
        refine JC.ret ?_
        refine JX.ret1 rfl rfl (fun w hw => ?_)
        exact ⟨rfl, (hw.drop (List.nil_sublist _)).below⟩
      · skip
        obtain ⟨pp, lp, hpp⟩ : ∃ p l, (spP (ownL L4) (wnI (ownL L4) me half)) = p :: l := by
          cases hs : (spP (ownL L4) (wnI (ownL L4) me half)) with
          | nil => rw [hs] at h5; simp at h5
          | cons p l => exact ⟨p, l, rfl⟩
        obtain ⟨x0, hx0, rfl⟩ := sp_head hpp
        have hpos : 0 < (spP (ownL L4) (wnI (ownL L4) me half)).length := by rw [hpp]; exact Nat.succ_pos _
        obtain ⟨q16, rfl⟩ : ∃ q, a16 = some ⟨q, 0, none⟩ := by
          obtain ⟨q, sp, h9, _⟩ := vec_pos hv16 hpos
          exact ⟨q, h9⟩
        have hxo0 : okE x0 := hT4.ok x0 (own_mem.1 hx0).1
        refine JC.skip ?_
        refine JX.thenN (hK24 _ _ ?_)
        refine JC.region ?_
        refine J.move rfl rfl ?_
        refine J.move rfl rfl ?_
        refine J.indexAddrS Ty.el43 Ty.s31 rfl rfl (by omega) (by omega) rfl ?_
        refine J.loadA (vs := cP x0.p) Ty.a31 Ty.s31 rfl rfl (fun w1 hw => rowP_at (i := 0) (vec_rowM hv16 hw (fun q hq => by first | (simp [hq]; done) | (simp at hq; simp [hq]; done) | (simp at hq; subst hq; simp))) (by rw [hpp]; rfl) (by simp)) rfl ?_
        refine J.perm ([(t1, tabO 128 m1), (m1, .map es4 ck)] ++ (l16 ++ ((b4, cb (cI me) 24) :: (lo ++ (lt ++ ((rt, rtabO vr 128) :: lr)))))) (by (refine perm_cnt (fun _ => ?_)); simp only [cntB_append, cntB_cons, cntB_nil, Nat.add_zero, Nat.zero_add]; try ac_rfl) ?_
        refine J.callS (α := TS × Array MapEntry) (V := fun y => .agg [y.1.vo, y.1.vl].toArray) (Pr := fun y => (endT L4 x0.p).1.is y.1 ∧ Tab (endT L4 x0.p).2 y.2 ck) (L := fun y => (y.1.lo ++ y.1.ll) ++ [(t1, tabO 128 m1), (m1, .map y.2 ck)]) (l1 := [(t1, tabO 128 m1), (m1, .map es4 ck)]) Ty.bd19 rfl rfl (fun w1 hw => (tend_spec t1 m1 128 L4 es4 ck w1 hw.owns hT4 x0.p hxo0.1)) (fun y hy => ?_)
        obtain ⟨y, es5⟩ := y
        obtain ⟨hy, hT5⟩ := hy
        simp only [List.cons_append, List.nil_append] at hy hT5 ⊢
        rw [(TInv.start hinv4.good hinv4.dist).ends hinv4.dist hx0] at hT5
        refine J.nil ?_
        refine JX.blockN ?_
        refine JX.thenN (hK22 _ _ ?_)
        refine JC.region ?_
        (first | refine J.addN rfl rfl (by omega) (by omega) rfl ?_ | refine J.bin rfl rfl rfl rfl ?_)
        refine J.move rfl rfl ?_
        refine J.nil ?_
        refine JX.thenN ?_
        refine JX.again ((r + 1, delL L4 x0.p, es5) : Nat × List EV × Array MapEntry) ?_ ?_ ?_
        · simp only; omega
        · exact ⟨rfl, rfl, rfl, rfl, trivial⟩
        · exact fun w1 hw => ⟨⟨by have := round_less hinv4.dist hx0; simp only; omega, hT5, hinv4.del _⟩, (hw.perm (l' := (l16 ++ (y.lo ++ y.ll)) ++ ((b4, cb (cI me) 24) :: (t1, tabO 128 m1) :: (m1, .map es5 ck) :: (lo ++ (lt ++ ((rt, rtabO vr 128) :: lr))))) (by (refine perm_cnt (fun _ => ?_)); simp only [cntB_append, cntB_cons, cntB_nil, Nat.add_zero, Nat.zero_add]; try ac_rfl)).drop (List.sublist_append_right _ _)⟩

theorem tearTidy_walk (w : World) (o : Sl EV) (ho : RSl 51 72 REnt w [o.v] o) (c : List Value) (x : IDV) (hx : RId w c x) (half : Int) (hh : (Lit.int .i64 half).wf = true) :
    Calls Tryz.prog 4 [o.v, .agg c.toArray, .int .i64 half].toArray w fun r w' => r = .returned (.bool true) ∧ Bel w w' := by
  have h1 : c = cI x := hx
  subst h1
  exact tearTidy_spec o.v o.xs x half w (rslE ho) (rslE_ok ho) (rslE_len ho)
end Go.Proofs.YtohldionclgljaaGreat
