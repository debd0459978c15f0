/-
  TearSweeps: the walk.
-/
import Derived.Test.YtohldionclgljaaPf
namespace Go.Proofs.Ytohldionclgljaa
open Go.J Go.RowKit
set_option linter.unusedVariables false
set_option linter.unusedSimpArgs false
set_option maxRecDepth 8000

set_option maxHeartbeats 2000000 in
theorem tearSweeps_spec (v : Value) (xs : List EV) (w : World) (hrv : Row w v xs.length (fE xs)) (hok : ∀ x, x ∈ xs → okE x) (hxl : xs.length ≤ 1954687338213) (n : Int) :
    Calls Try.prog 12 [v, .int .i64 n].toArray w fun r w' => r = .returned (.bool true) ∧ Bel w w' := by
  obtain ⟨av, cv, rfl, hcv, _⟩ := id hrv
  refine calls_of_J (args := [.slice av xs.length cv, .int .i64 n]) (e := [(0, .slice av xs.length cv), (1, .int .i64 n)]) Try.func12 rfl rfl ⟨rfl, rfl, trivial⟩ (St.start w) ?_
  refine JC.seq (fun K0 hK0 => ?_)
  refine JC.region ?_
  refine J.assign rfl rfl ?_
  refine J.nil ?_
  refine JX.thenN (hK0 _ _ ?_)
  refine JC.seq (fun K1 hK1 => ?_)
  refine JC.region ?_
  refine J.move rfl rfl ?_
  refine J.perm ([] ++ ([])) (.refl _) ?_
  refine J.callS (α := LaidS) (V := fun x => .tuple #[.pointer (some ⟨x.t1, 0, none⟩), .pointer (some ⟨x.rt, 0, none⟩)]) (Pr := fun x => Tab (laidL 128 (xs)) x.es x.ck ∧ Vec 55 51 x.vr (ordE (laidL 128 (xs))).length (fE (ordE (laidL 128 (xs)))) x.lr) (L := fun x => x.blk 128) (l1 := []) Ty.bd33 rfl rfl (fun w1 hw => laid15_spec _ (xs) w1 (hrv.below (hw.drop (List.nil_sublist _)).below) hok hxl) (fun x hx9 => ?_)
  obtain ⟨t1, m1, rt, es, ck, vr, lr⟩ := x
  obtain ⟨hT, hvr⟩ := hx9
  simp only [LaidS.blk, List.cons_append] at hT hvr ⊢
  have hgood := laidL_good 128 xs
  have hl128 : (laidL 128 xs).length ≤ 128 := by have := hgood.len; omega
  have hol := (ordE_perm (laidL 128 xs)).length_eq
  have hdl : (deadT (laidL 128 xs) n).2.length ≤ (laidL 128 xs).length := fold_sublen _ _
  have hsum := dead_sum (laidL 128 xs) n
  have hvl9 := List.length_filter_le (viaB n) (ordE (laidL 128 xs))
  obtain ⟨ar, cr, rfl, hcr⟩ := hvr.form
  refine J.perm ((t1, tabO 128 m1) :: (m1, .map es ck) :: (rt, rtabO (.slice ar (ordE (laidL 128 xs)).length cr) 128) :: (lr ++ [])) (by (refine perm_cnt (fun _ => ?_)); simp only [cntB_append, cntB_cons, cntB_nil, Nat.add_zero, Nat.zero_add]; try ac_rfl) ?_
  refine J.move rfl rfl ?_
  refine J.extract rfl rfl rfl ?_
  refine J.extract rfl rfl rfl ?_
  refine J.assign rfl rfl ?_
  refine J.assign rfl rfl ?_
  refine J.nil ?_
  refine JX.thenN (hK1 _ _ ?_)
  refine JC.seq (fun K2 hK2 => ?_)
  refine JC.seq (fun K3 hK3 => ?_)
  refine JC.region ?_
  refine J.move rfl rfl ?_
  refine J.eqNil Ty.u28 rfl rfl rfl ?_
  refine J.move rfl rfl ?_
  first | refine J.skip rfl rfl rfl rfl rfl ?_ | refine J.skipU rfl rfl rfl rfl ?_ | (refine J.unguard rfl rfl rfl ?_; refine J.callB (v := .bool true) (fun w1 w2 hw hb => hw.step hb) Ty.bd29 rfl rfl (fun w1 hw => fixed15_spec w1) ?_)
  first | refine J.skip rfl rfl rfl rfl rfl ?_ | refine J.skipU rfl rfl rfl rfl ?_ | (refine J.unguard rfl rfl rfl ?_; refine J.not rfl rfl ?_)
  (first | refine J.pickT rfl rfl rfl ?_ | refine J.pickF rfl rfl rfl ?_)
  refine J.nil ?_
  refine JX.thenN (hK3 _ _ ?_)
  first | refine JC.condF rfl ?_ | refine JC.cond rfl (fun h => by first | (exfalso; simp at h; omega) | (simp at h)) (fun _ => ?_)
  refine JC.skip ?_
  refine JX.thenN (hK2 _ _ ?_)
  refine JC.seq (fun K4 hK4 => ?_)
  refine JC.region ?_
  refine J.move rfl rfl ?_
  refine J.perm ([] ++ ((t1, tabO 128 m1) :: (m1, .map es ck) :: (rt, rtabO (.slice ar (ordE (laidL 128 xs)).length cr) 128) :: (lr ++ []))) (.refl _) ?_
  refine J.callS (α := Value × List (Nat × Obj)) (V := (·.1)) (Pr := fun x => Vec 55 51 x.1 ((ordE (laidL 128 xs))).length (fE ((ordE (laidL 128 xs)))) x.2) (L := (·.2)) (l1 := []) Ty.bd37 rfl rfl (fun w1 hw => all_spec t1 m1 128 ((laidL 128 xs)) es ck w1 (hw.own _ (.head _)) (hw.own _ (.tail _ (.head _))) hT (by omega)) (fun x hvw => ?_)
  obtain ⟨vw, lw⟩ := x
  simp only at hvw ⊢
  obtain ⟨aw, cw, rfl, hcw⟩ := hvw.form
  refine J.assign rfl rfl ?_
  refine J.nil ?_
  refine JX.thenN (hK4 _ _ ?_)
  refine JC.seq (fun K5 hK5 => ?_)
  refine JC.region ?_
  refine J.move rfl rfl ?_
  refine J.move rfl rfl ?_
  refine J.perm ([(t1, tabO 128 m1), (m1, .map es ck)] ++ (lw ++ ((rt, rtabO (.slice ar (ordE (laidL 128 xs)).length cr) 128) :: lr))) (by (refine perm_cnt (fun _ => ?_)); simp only [cntB_append, cntB_cons, cntB_nil, Nat.add_zero, Nat.zero_add]; try ac_rfl) ?_
  refine J.callS (α := TS × Array MapEntry) (V := fun y => .agg [y.1.vo, y.1.vl].toArray) (Pr := fun y => (deadT (laidL 128 xs) n).1.is y.1 ∧ Tab (deadT (laidL 128 xs) n).2 y.2 ck) (L := fun y => (y.1.lo ++ y.1.ll) ++ [(t1, tabO 128 m1), (m1, .map y.2 ck)]) (l1 := [(t1, tabO 128 m1), (m1, .map es ck)]) Ty.bd30 rfl rfl (fun w1 hw => (tdead_spec t1 m1 128 (laidL 128 xs) es ck w1 hw.owns hT hl128 n)) (fun y hy => ?_)
  obtain ⟨y, es2⟩ := y
  obtain ⟨hy, hT2⟩ := hy
  simp only [List.cons_append, List.nil_append] at hy hT2 ⊢
  refine J.alloc zTo rfl rfl (fun b8 => ?_)
  refine J.storeW (cs := [nilV, nilV]) (vs := [y.vo, y.vl]) Ty.s67 rfl rfl rfl rfl rfl (two_one hy) .here ?_
  obtain ⟨vo, lo, vl, ll⟩ := y
  obtain ⟨hvo, hvl⟩ := hy
  simp only at hvo hvl ⊢
  obtain ⟨ao, co, rfl, hco⟩ := hvo.form
  obtain ⟨al, cl, rfl, hcl⟩ := hvl.form
  refine J.perm ((b8, cb [.slice ao (deadT (laidL 128 xs) n).1.out.length co, .slice al (deadT (laidL 128 xs) n).1.lost.length cl] 67) :: (t1, tabO 128 m1) :: (m1, .map es2 ck) :: (lo ++ (ll ++ (lw ++ ((rt, rtabO (.slice ar (ordE (laidL 128 xs)).length cr) 128) :: lr))))) (by (refine perm_cnt (fun _ => ?_)); simp only [cntB_append, cntB_cons, cntB_nil, Nat.add_zero, Nat.zero_add]; try ac_rfl) ?_
  refine J.nil ?_
  refine JX.thenN (hK5 _ _ ?_)
  refine JC.seq (fun K6 hK6 => ?_)
  refine JC.region ?_
  refine J.assign rfl rfl ?_
  refine J.nil ?_
  refine JX.thenN (hK6 _ _ ?_)
  refine JC.seq (fun K7 hK7 => ?_)
  refine JC.seq (fun K8 hK8 => ?_)
  refine JC.region ?_
  refine J.move rfl rfl ?_
  refine J.lenS rfl Ty.u25 rfl rfl ?_
  refine J.move rfl rfl ?_
  refine J.nil ?_
  refine JX.thenN (hK8 _ _ ?_)
  refine JC.block ?_
  refine JC.conseq (JC.cov (f := (fun st => [(1, .int .i64 n), (5, .pointer (some ⟨t1, 0, none⟩)), (8, .pointer (some ⟨b8, 0, none⟩)), (9, .int .i64 ((st.2 : Nat) : Int)), (37, .slice aw (ordE (laidL 128 xs)).length cw), (38, .int .i64 (((ordE (laidL 128 xs)).length : Nat) : Int)), (39, .int .i64 ((st.1 : Nat) : Int))]) ((0, 0) : Nat × Nat)) ⟨rfl, rfl, rfl, rfl, rfl, rfl, rfl, trivial⟩ (JC.loop (α := Nat × Nat) (fun st => [(1, .int .i64 n), (5, .pointer (some ⟨t1, 0, none⟩)), (8, .pointer (some ⟨b8, 0, none⟩)), (9, .int .i64 ((st.2 : Nat) : Int)), (37, .slice aw (ordE (laidL 128 xs)).length cw), (38, .int .i64 (((ordE (laidL 128 xs)).length : Nat) : Int)), (39, .int .i64 ((st.1 : Nat) : Int))]) (fun st w' => (st.1 ≤ (ordE (laidL 128 xs)).length ∧ st.2 = (((ordE (laidL 128 xs)).take st.1).filter (viaB n)).length) ∧ St w [] ((b8, cb [.slice ao (deadT (laidL 128 xs) n).1.out.length co, .slice al (deadT (laidL 128 xs) n).1.lost.length cl] 67) :: (t1, tabO 128 m1) :: (m1, .map es2 ck) :: (lo ++ (ll ++ (lw ++ ((rt, rtabO (.slice ar (ordE (laidL 128 xs)).length cr) 128) :: lr))))) w') (fun st => (ordE (laidL 128 xs)).length - st.1) ((0, 0) : Nat × Nat) (fun st => ?_))) (fun w hw => ⟨⟨Nat.zero_le _, rfl⟩, hw⟩)
  obtain ⟨i, k⟩ := st
  refine JC.pr (fun hx1 => ?_)
  obtain ⟨hi, hk⟩ := hx1
  simp only at hi hk ⊢
  have hki : k ≤ i := by rw [hk]; exact Nat.le_trans (List.length_filter_le _ _) (by rw [List.length_take]; omega)
  refine JC.seq (fun K9 hK9 => ?_)
  refine JC.region ?_
  refine J.bin rfl rfl rfl rfl ?_
  refine J.nil ?_
  refine JX.thenN (hK9 _ _ ?_)
  refine JC.seq (fun K10 hK10 => ?_)
  refine JC.cond rfl (fun h1 => ?_) (fun h1 => ?_)
  · skip
    have hlt : i < (ordE (laidL 128 xs)).length := by simp at h1; omega
    obtain ⟨qw, rfl⟩ : ∃ q, aw = some ⟨q, 0, none⟩ := by
      obtain ⟨q, sp, h9, _⟩ := vec_pos hvw (by omega)
      exact ⟨q, h9⟩
    obtain ⟨xe, hxe⟩ : ∃ x, (ordE (laidL 128 xs))[i]? = some x := ⟨_, List.getElem?_eq_getElem hlt⟩
    have hxL := (ordE_perm _).mem_iff.1 (List.mem_of_getElem? hxe)
    have hxo : okE xe := hT.ok xe hxL
    have hrg := hgood.right xe hxL
    obtain ⟨hna1, hna2⟩ := hrg.2.1
    obtain ⟨hnb1, hnb2⟩ := hrg.2.2.1
    refine JC.skip ?_
    refine JX.thenN (hK10 _ _ ?_)
    refine JC.seq (fun K11 hK11 => ?_)
    refine JC.block ?_
    refine JC.seq (fun K12 hK12 => ?_)
    refine JC.region ?_
    refine J.indexAddrS Ty.el25 Ty.s55 rfl rfl (by omega) (by omega) rfl ?_
    refine J.loadA (vs := cE xe) Ty.a55 Ty.s55 rfl rfl (fun w1 hw => rowE_at (o := 0) (vec_rowM hvw hw (fun q hq => by first | (simp [hq]; done) | (simp at hq; simp [hq]; done) | (simp at hq; subst hq; simp))) hxe (by omega)) rfl ?_
    refine J.alloc Ty.zE_ rfl rfl (fun b11 => ?_)
    refine J.storeW (cs := cE zE) (vs := cE xe) Ty.s55 rfl rfl rfl rfl rfl (one_cE _) .here ?_
    refine J.nil ?_
    refine JX.thenN (hK12 _ _ ?_)
    refine JC.seq (fun K13 hK13 => ?_)
    cases hov : viaB n xe with
    | true =>
      refine JC.region ?_
      refine J.move rfl rfl ?_
      refine J.fieldAddr Ty.fd55_0 rfl rfl ?_
      refine J.loadOA (vs := cP xe.p) Ty.a38 Ty.s38 rfl (by repeat first | exact .head _ | apply List.Mem.tail | apply List.mem_append_right) (by exact rfl) rfl rfl ?_
      refine J.callB (v := .tuple #[.agg (cE ((tget (deadT (laidL 128 xs) n).2 xe.p).getD zE)).toArray, .bool (tget (deadT (laidL 128 xs) n).2 xe.p).isSome]) (fun w1 w2 hw hb => hw.step hb) Ty.bd31 rfl rfl (fun w1 hw => get_spec t1 m1 128 (deadT (laidL 128 xs) n).2 es2 ck w1 (St.owns (l1 := [(t1, tabO 128 m1), (m1, .map es2 ck)]) (l := (b11, cb (cE xe) 55) :: (b8, cb [.slice ao (deadT (laidL 128 xs) n).1.out.length co, .slice al (deadT (laidL 128 xs) n).1.lost.length cl] 67) :: (lo ++ (ll ++ (lw ++ ((rt, rtabO (.slice ar (ordE (laidL 128 xs)).length cr) 128) :: lr))))) (hw.perm (by (refine perm_cnt (fun _ => ?_)); simp only [cntB_append, cntB_cons, cntB_nil, Nat.add_zero, Nat.zero_add]; try ac_rfl))) hT2 xe.p hxo.1) ?_
      refine J.name 47 rfl (show _ = Value.tuple #[.agg (cE zE).toArray, .bool false] by rw [dead_over hT.dist hxL hov]; rfl) ?_
      refine J.move rfl rfl ?_
      refine J.extract rfl rfl rfl ?_
      refine J.extract rfl rfl rfl ?_
      refine J.alloc Ty.zE_ rfl rfl (fun b12 => ?_)
      refine J.storeW (cs := cE zE) (vs := cE zE) Ty.s55 rfl rfl rfl rfl rfl (one_cE _) .here ?_
      refine J.assign rfl rfl ?_
      refine J.nil ?_
      refine JX.thenN (hK13 _ _ ?_)
      refine JC.seq (fun K14 hK14 => ?_)
      have hvb : 0 ≤ n ∧ (xe.na = n ∨ xe.nb = n) := by simpa [viaB] using hov
      obtain ⟨hn0, hvb⟩ := hvb
      by_cases hna : xe.na = n
      · skip
        refine JC.region ?_
        refine J.move rfl rfl ?_
        refine J.bin rfl rfl rfl rfl ?_
        refine J.name 51 rfl (show _ = Value.bool true by simp; omega) ?_
        refine J.move rfl rfl ?_
        first | refine J.skip rfl rfl rfl rfl rfl ?_ | refine J.skipU rfl rfl rfl rfl ?_ | (refine J.unguard rfl rfl rfl ?_; refine J.fieldAddr Ty.fd55_3 rfl rfl ?_)
        first | refine J.skip rfl rfl rfl rfl rfl ?_ | refine J.skipU rfl rfl rfl rfl ?_ | (refine J.unguard rfl rfl rfl ?_; refine J.load1 (v := .int .i64 xe.na) Ty.a3 rfl (fun w1 hw => (cell_of (hw.own ((b11, cb (cE xe) 55)) (by repeat first | exact .head _ | apply List.Mem.tail | apply List.mem_append_right))).trans rfl) rfl ?_)
        first | refine J.skip rfl rfl rfl rfl rfl ?_ | refine J.skipU rfl rfl rfl rfl ?_ | (refine J.unguard rfl rfl rfl ?_; refine J.move rfl rfl ?_)
        first | refine J.skip rfl rfl rfl rfl rfl ?_ | refine J.skipU rfl rfl rfl rfl ?_ | (refine J.unguard rfl rfl rfl ?_; refine J.bin rfl rfl rfl rfl ?_; refine J.name 56 rfl (show _ = Value.bool true by simp [hna]) ?_)
        first | refine J.skip rfl rfl rfl rfl rfl ?_ | refine J.skipU rfl rfl rfl rfl ?_ | (refine J.unguard rfl rfl rfl ?_; refine J.move rfl rfl ?_)
        first | refine J.skip rfl rfl rfl rfl rfl ?_ | refine J.skipU rfl rfl rfl rfl ?_ | (refine J.unguard rfl rfl rfl ?_; refine J.fieldAddr Ty.fd55_4 rfl rfl ?_)
        first | refine J.skip rfl rfl rfl rfl rfl ?_ | refine J.skipU rfl rfl rfl rfl ?_ | (refine J.unguard rfl rfl rfl ?_; refine J.load1 (v := .int .i64 xe.nb) Ty.a3 rfl (fun w1 hw => (cell_of (hw.own ((b11, cb (cE xe) 55)) (by repeat first | exact .head _ | apply List.Mem.tail | apply List.mem_append_right))).trans rfl) rfl ?_)
        first | refine J.skip rfl rfl rfl rfl rfl ?_ | refine J.skipU rfl rfl rfl rfl ?_ | (refine J.unguard rfl rfl rfl ?_; refine J.move rfl rfl ?_)
        first | refine J.skip rfl rfl rfl rfl rfl ?_ | refine J.skipU rfl rfl rfl rfl ?_ | (refine J.unguard rfl rfl rfl ?_; skip)
        first | refine J.skip rfl rfl rfl rfl rfl ?_ | refine J.skipU rfl rfl rfl rfl ?_ | (refine J.unguard rfl rfl rfl ?_; (first | refine J.pickT rfl rfl rfl ?_ | refine J.pickF rfl rfl rfl ?_))
        (first | refine J.pickT rfl rfl rfl ?_ | refine J.pickF rfl rfl rfl ?_)
        refine J.assign rfl rfl ?_
        refine J.nil ?_
        refine JX.thenN (hK14 _ _ ?_)
        refine JC.seq (fun K15 hK15 => ?_)
        refine JC.seq (fun K16 hK16 => ?_)
        refine JC.region ?_
        refine J.move rfl rfl ?_
        refine J.move rfl rfl ?_
        refine J.eqBool (.inl rfl) Ty.u4 rfl rfl rfl ?_
        refine J.move rfl rfl ?_
        first | refine J.skip rfl rfl rfl rfl rfl ?_ | refine J.skipU rfl rfl rfl rfl ?_ | (refine J.unguard rfl rfl rfl ?_; refine J.move rfl rfl ?_)
        first | refine J.skip rfl rfl rfl rfl rfl ?_ | refine J.skipU rfl rfl rfl rfl ?_ | (refine J.unguard rfl rfl rfl ?_; refine J.move rfl rfl ?_)
        first | refine J.skip rfl rfl rfl rfl rfl ?_ | refine J.skipU rfl rfl rfl rfl ?_ | (refine J.unguard rfl rfl rfl ?_; refine J.loadOA (vs := cE xe) Ty.a55 Ty.s55 rfl (.head _) rfl rfl rfl ?_)
        first | refine J.skip rfl rfl rfl rfl rfl ?_ | refine J.skipU rfl rfl rfl rfl ?_ | (refine J.unguard rfl rfl rfl ?_; refine J.loadOA (vs := cE xe) Ty.a55 Ty.s55 rfl (.tail _ (.head _)) rfl rfl rfl ?_)
        first | refine J.skip rfl rfl rfl rfl rfl ?_ | refine J.skipU rfl rfl rfl rfl ?_ | (refine J.unguard rfl rfl rfl ?_; refine J.neE Ty.QE Ty.keyE rfl rfl hxo hxo rfl ?_; refine J.name 72 rfl (show _ = Value.bool false by simp) ?_)
        first | refine J.skip rfl rfl rfl rfl rfl ?_ | refine J.skipU rfl rfl rfl rfl ?_ | (refine J.unguard rfl rfl rfl ?_; (first | refine J.pickT rfl rfl rfl ?_ | refine J.pickF rfl rfl rfl ?_))
        (first | refine J.pickT rfl rfl rfl ?_ | refine J.pickF rfl rfl rfl ?_)
        refine J.nil ?_
        refine JX.thenN (hK16 _ _ ?_)
        first | refine JC.condF rfl ?_ | refine JC.cond rfl (fun h => by first | (exfalso; simp at h; omega) | (simp at h)) (fun _ => ?_)
        refine JC.skip ?_
        refine JX.thenN (hK15 _ _ ?_)
        refine JC.seq (fun K17 hK17 => ?_)
        refine JC.seq (fun K18 hK18 => ?_)
        refine JC.region ?_
        refine J.move rfl rfl ?_
        refine J.not rfl rfl ?_
        refine J.nil ?_
        refine JX.thenN (hK18 _ _ ?_)
        first | refine JC.condF rfl ?_ | refine JC.cond rfl (fun h => by first | (exfalso; simp at h; omega) | (simp at h)) (fun _ => ?_)
        refine JC.skip ?_
        refine JX.thenN (hK17 _ _ ?_)
        refine JC.seq (fun K19 hK19 => ?_)
        refine JC.region ?_
        refine J.move rfl rfl ?_
        refine J.addN rfl rfl (by omega) (by omega) rfl ?_
        refine J.name 78 rfl (show _ = .int .i64 ((k + 1 : Nat) : Int) by first | (congr 1; omega) | congr 1 | rfl) ?_
        refine J.assign rfl rfl ?_
        refine J.nil ?_
        refine JX.thenN (hK19 _ _ ?_)
        refine JC.seq (fun K20 hK20 => ?_)
        refine JC.region ?_
        refine J.fieldAddr Ty.fd55_3 rfl rfl ?_
        refine J.load1 (v := .int .i64 xe.na) Ty.a3 rfl (fun w1 hw => (cell_of (hw.own ((b11, cb (cE xe) 55)) (by repeat first | exact .head _ | apply List.Mem.tail | apply List.mem_append_right))).trans rfl) rfl ?_
        refine J.fieldAddr Ty.fd55_4 rfl rfl ?_
        refine J.load1 (v := .int .i64 xe.nb) Ty.a3 rfl (fun w1 hw => (cell_of (hw.own ((b11, cb (cE xe) 55)) (by repeat first | exact .head _ | apply List.Mem.tail | apply List.mem_append_right))).trans rfl) rfl ?_
        (first | refine J.addN rfl rfl (by omega) (by omega) rfl ?_ | refine J.bin rfl rfl rfl rfl ?_)
        refine J.move rfl rfl ?_
        refine J.subN rfl rfl (by rcases hvb with h | h <;> omega) (by rcases hvb with h | h <;> omega) rfl ?_
        refine J.name 85 rfl (show _ = Value.int .i64 (sdE n xe) by congr 1; unfold sdE; split <;> omega) ?_
        refine J.assign rfl rfl ?_
        refine J.nil ?_
        refine JX.thenN (hK20 _ _ ?_)
        refine JC.seq (fun K21 hK21 => ?_)
        refine JC.region ?_
        refine J.assign rfl rfl ?_
        refine J.nil ?_
        refine JX.thenN (hK21 _ _ ?_)
        refine JC.seq (fun K22 hK22 => ?_)
        refine JC.seq (fun K23 hK23 => ?_)
        refine JC.region ?_
        refine J.fieldAddr Ty.fd67_0 rfl rfl ?_
        refine J.load1 (v := .slice ao (deadT (laidL 128 xs) n).1.out.length co) Ty.a64 rfl (fun w1 hw => (cell_of (hw.own ((b8, cb [.slice ao (deadT (laidL 128 xs) n).1.out.length co, .slice al (deadT (laidL 128 xs) n).1.lost.length cl] 67)) (by repeat first | exact .head _ | apply List.Mem.tail | apply List.mem_append_right))).trans rfl) rfl ?_
        refine J.lenS rfl Ty.u64 rfl rfl ?_
        refine J.move rfl rfl ?_
        refine J.nil ?_
        refine JX.thenN (hK23 _ _ ?_)
        refine JC.block ?_
        refine JC.conseq (JC.cov (f := (fun st => [(1, .int .i64 n), (5, .pointer (some ⟨t1, 0, none⟩)), (8, .pointer (some ⟨b8, 0, none⟩)), (9, .int .i64 ((k + 1 : Nat) : Int)), (37, .slice (some ⟨qw, 0, none⟩) (ordE (laidL 128 xs)).length cw), (38, .int .i64 (((ordE (laidL 128 xs)).length : Nat) : Int)), (39, .int .i64 ((i : Nat) : Int)), (11, .pointer (some ⟨b11, 0, none⟩)), (15, .int .i64 (sdE n xe)), (16, .int .i64 ((st.2 : Nat) : Int)), (87, .slice ao (deadT (laidL 128 xs) n).1.out.length co), (88, .int .i64 (((deadT (laidL 128 xs) n).1.out.length : Nat) : Int)), (89, .int .i64 ((st.1 : Nat) : Int))]) ((0, 0) : Nat × Nat)) ⟨rfl, rfl, rfl, rfl, rfl, rfl, rfl, rfl, rfl, rfl, rfl, rfl, rfl, trivial⟩ (JC.loop (α := Nat × Nat) (fun st => [(1, .int .i64 n), (5, .pointer (some ⟨t1, 0, none⟩)), (8, .pointer (some ⟨b8, 0, none⟩)), (9, .int .i64 ((k + 1 : Nat) : Int)), (37, .slice (some ⟨qw, 0, none⟩) (ordE (laidL 128 xs)).length cw), (38, .int .i64 (((ordE (laidL 128 xs)).length : Nat) : Int)), (39, .int .i64 ((i : Nat) : Int)), (11, .pointer (some ⟨b11, 0, none⟩)), (15, .int .i64 (sdE n xe)), (16, .int .i64 ((st.2 : Nat) : Int)), (87, .slice ao (deadT (laidL 128 xs) n).1.out.length co), (88, .int .i64 (((deadT (laidL 128 xs) n).1.out.length : Nat) : Int)), (89, .int .i64 ((st.1 : Nat) : Int))]) (fun st w' => (st.1 ≤ (deadT (laidL 128 xs) n).1.out.length ∧ st.2 = cntO xe.p (sdE n xe) ((deadT (laidL 128 xs) n).1.out.take st.1)) ∧ St w [] ((b12, cb (cE zE) 55) :: (b11, cb (cE xe) 55) :: (b8, cb [.slice ao (deadT (laidL 128 xs) n).1.out.length co, .slice al (deadT (laidL 128 xs) n).1.lost.length cl] 67) :: (t1, tabO 128 m1) :: (m1, .map es2 ck) :: (lo ++ (ll ++ (lw ++ ((rt, rtabO (.slice ar (ordE (laidL 128 xs)).length cr) 128) :: lr))))) w') (fun st => (deadT (laidL 128 xs) n).1.out.length - st.1) ((0, 0) : Nat × Nat) (fun st => ?_))) (fun w hw => ⟨⟨Nat.zero_le _, rfl⟩, hw⟩)
        obtain ⟨j, td⟩ := st
        refine JC.pr (fun hx2 => ?_)
        obtain ⟨hj, htd⟩ := hx2
        simp only at hj htd ⊢
        have htj : td ≤ j := by rw [htd]; exact Nat.le_trans (cntO_le _ _ _) (by rw [List.length_take]; omega)
        refine JC.seq (fun K24 hK24 => ?_)
        refine JC.region ?_
        refine J.bin rfl rfl rfl rfl ?_
        refine J.nil ?_
        refine JX.thenN (hK24 _ _ ?_)
        refine JC.seq (fun K25 hK25 => ?_)
        refine JC.cond rfl (fun h4 => ?_) (fun h4 => ?_)
        · skip
          have hltj : j < (deadT (laidL 128 xs) n).1.out.length := by simp at h4; omega
          obtain ⟨qo, rfl⟩ : ∃ q, ao = some ⟨q, 0, none⟩ := by
            obtain ⟨q, sp, h9, _⟩ := vec_pos hvo (by omega)
            exact ⟨q, h9⟩
          obtain ⟨qa, hqa⟩ : ∃ x, (deadT (laidL 128 xs) n).1.out[j]? = some x := ⟨_, List.getElem?_eq_getElem hltj⟩
          have hokd : okT (deadT (laidL 128 xs) n).1 := ok_dead hT.ok
          have hqo := hokd.1 qa (List.mem_of_getElem? hqa)
          refine JC.skip ?_
          refine JX.thenN (hK25 _ _ ?_)
          refine JC.seq (fun K26 hK26 => ?_)
          refine JC.block ?_
          refine JC.seq (fun K27 hK27 => ?_)
          refine JC.region ?_
          refine J.indexAddrS Ty.el64 Ty.s82 rfl rfl (by omega) (by omega) rfl ?_
          refine J.loadA (vs := cHp qa) Ty.a82 Ty.s82 rfl rfl (fun w1 hw => rowH_at (i := j) (vec_rowM hvo hw (fun q hq => by first | (simp [hq]; done) | (simp at hq; simp [hq]; done) | (simp at hq; subst hq; simp))) hqa (by simp)) rfl ?_
          refine J.alloc zHp rfl rfl (fun b18 => ?_)
          refine J.storeW (cs := iV 0 :: cF 0 zP zI zI nilV) (vs := cHp qa) Ty.s82 rfl rfl rfl rfl rfl (one_cHp _) .here ?_
          refine J.nil ?_
          refine JX.thenN (hK27 _ _ ?_)
          refine JC.seq (fun K28 hK28 => ?_)
          by_cases hqp : qa.2 = xe.p
          · skip
            by_cases hqn : qa.1 = (sdE n xe)
            · skip
              refine JC.region ?_
              refine J.fieldAddr Ty.fd82_1 rfl rfl ?_
              refine J.fieldAddr Ty.fd80_1 rfl rfl ?_
              refine J.loadA (vs := cP qa.2) Ty.a38 Ty.s38 rfl rfl (fun w1 hw => (cells_in (Cells.of_block (hw.own _ (.head _)) rfl)).1) rfl ?_
              refine J.fieldAddr Ty.fd55_0 rfl rfl ?_
              refine J.loadOA (vs := cP xe.p) Ty.a38 Ty.s38 rfl (.tail _ (.tail _ (.head _))) rfl rfl rfl ?_
              refine J.eqP Ty.QP Ty.keyP rfl rfl hqo hxo.1 rfl ?_
              refine J.name 98 rfl (show _ = Value.bool true by simp [hqp]) ?_
              refine J.move rfl rfl ?_
              first | refine J.skip rfl rfl rfl rfl rfl ?_ | refine J.skipU rfl rfl rfl rfl ?_ | (refine J.unguard rfl rfl rfl ?_; refine J.fieldAddr Ty.fd82_0 rfl rfl ?_)
              first | refine J.skip rfl rfl rfl rfl rfl ?_ | refine J.skipU rfl rfl rfl rfl ?_ | (refine J.unguard rfl rfl rfl ?_; refine J.load1 (v := iV qa.1) Ty.a3 rfl (fun w1 hw => (cell_of (hw.own ((b18, cb (cHp qa) 82)) (by repeat first | exact .head _ | apply List.Mem.tail | apply List.mem_append_right))).trans rfl) rfl ?_)
              first | refine J.skip rfl rfl rfl rfl rfl ?_ | refine J.skipU rfl rfl rfl rfl ?_ | (refine J.unguard rfl rfl rfl ?_; refine J.move rfl rfl ?_)
              first | refine J.skip rfl rfl rfl rfl rfl ?_ | refine J.skipU rfl rfl rfl rfl ?_ | (refine J.unguard rfl rfl rfl ?_; refine J.bin rfl rfl rfl rfl ?_; refine J.name 103 rfl (show _ = Value.bool true by simp [hqn]) ?_)
              (first | refine J.pickT rfl rfl rfl ?_ | refine J.pickF rfl rfl rfl ?_)
              refine J.move rfl rfl ?_
              first | refine J.skip rfl rfl rfl rfl rfl ?_ | refine J.skipU rfl rfl rfl rfl ?_ | (refine J.unguard rfl rfl rfl ?_; refine J.fieldAddr Ty.fd82_1 rfl rfl ?_)
              first | refine J.skip rfl rfl rfl rfl rfl ?_ | refine J.skipU rfl rfl rfl rfl ?_ | (refine J.unguard rfl rfl rfl ?_; refine J.fieldAddr Ty.fd80_0 rfl rfl ?_)
              first | refine J.skip rfl rfl rfl rfl rfl ?_ | refine J.skipU rfl rfl rfl rfl ?_ | (refine J.unguard rfl rfl rfl ?_; refine J.load1 (v := iV 5) Ty.a3 rfl (fun w1 hw => (cell_of (hw.own ((b18, cb (cHp qa) 82)) (by repeat first | exact .head _ | apply List.Mem.tail | apply List.mem_append_right))).trans rfl) rfl ?_)
              first | refine J.skip rfl rfl rfl rfl rfl ?_ | refine J.skipU rfl rfl rfl rfl ?_ | (refine J.unguard rfl rfl rfl ?_; refine J.bin rfl rfl rfl rfl ?_; refine J.name 109 rfl (show _ = Value.bool true by rfl) ?_)
              (first | refine J.pickT rfl rfl rfl ?_ | refine J.pickF rfl rfl rfl ?_)
              refine J.nil ?_
              refine JX.thenN (hK28 _ _ ?_)
              first | refine JC.condT rfl ?_ | refine JC.cond rfl (fun _ => ?_) (fun h => by first | (exfalso; simp at h; omega) | (simp at h))
              refine JC.region ?_
              refine J.move rfl rfl ?_
              refine J.addN rfl rfl (by omega) (by omega) rfl ?_
              refine J.name 112 rfl (show _ = .int .i64 ((td + 1 : Nat) : Int) by first | (congr 1; omega) | congr 1 | rfl) ?_
              refine J.assign rfl rfl ?_
              refine J.nil ?_
              refine JX.blockN ?_
              refine JX.thenN (hK26 _ _ ?_)
              refine JC.region ?_
              (first | refine J.addN rfl rfl (by omega) (by omega) rfl ?_ | refine J.bin rfl rfl rfl rfl ?_)
              refine J.move rfl rfl ?_
              refine J.nil ?_
              refine JX.thenN ?_
              refine JX.again ((j + 1, td + 1) : Nat × Nat) ?_ ?_ ?_
              · simp only; omega
              · exact ⟨rfl, rfl, rfl, rfl, rfl, rfl, rfl, rfl, rfl, rfl, rfl, rfl, rfl, trivial⟩
              · exact fun w1 hw => ⟨⟨hltj, by rw [cntO_step hqa, ← htd]; simp [hqp, hqn]⟩, hw.drop (List.sublist_cons_self _ _)⟩
            · skip
              refine JC.region ?_
              refine J.fieldAddr Ty.fd82_1 rfl rfl ?_
              refine J.fieldAddr Ty.fd80_1 rfl rfl ?_
              refine J.loadA (vs := cP qa.2) Ty.a38 Ty.s38 rfl rfl (fun w1 hw => (cells_in (Cells.of_block (hw.own _ (.head _)) rfl)).1) rfl ?_
              refine J.fieldAddr Ty.fd55_0 rfl rfl ?_
              refine J.loadOA (vs := cP xe.p) Ty.a38 Ty.s38 rfl (.tail _ (.tail _ (.head _))) rfl rfl rfl ?_
              refine J.eqP Ty.QP Ty.keyP rfl rfl hqo hxo.1 rfl ?_
              refine J.name 98 rfl (show _ = Value.bool true by simp [hqp]) ?_
              refine J.move rfl rfl ?_
              first | refine J.skip rfl rfl rfl rfl rfl ?_ | refine J.skipU rfl rfl rfl rfl ?_ | (refine J.unguard rfl rfl rfl ?_; refine J.fieldAddr Ty.fd82_0 rfl rfl ?_)
              first | refine J.skip rfl rfl rfl rfl rfl ?_ | refine J.skipU rfl rfl rfl rfl ?_ | (refine J.unguard rfl rfl rfl ?_; refine J.load1 (v := iV qa.1) Ty.a3 rfl (fun w1 hw => (cell_of (hw.own ((b18, cb (cHp qa) 82)) (by repeat first | exact .head _ | apply List.Mem.tail | apply List.mem_append_right))).trans rfl) rfl ?_)
              first | refine J.skip rfl rfl rfl rfl rfl ?_ | refine J.skipU rfl rfl rfl rfl ?_ | (refine J.unguard rfl rfl rfl ?_; refine J.move rfl rfl ?_)
              first | refine J.skip rfl rfl rfl rfl rfl ?_ | refine J.skipU rfl rfl rfl rfl ?_ | (refine J.unguard rfl rfl rfl ?_; refine J.bin rfl rfl rfl rfl ?_; refine J.name 103 rfl (show _ = Value.bool false by simp [hqn]) ?_)
              (first | refine J.pickT rfl rfl rfl ?_ | refine J.pickF rfl rfl rfl ?_)
              refine J.move rfl rfl ?_
              first | refine J.skip rfl rfl rfl rfl rfl ?_ | refine J.skipU rfl rfl rfl rfl ?_ | (refine J.unguard rfl rfl rfl ?_; refine J.fieldAddr Ty.fd82_1 rfl rfl ?_)
              first | refine J.skip rfl rfl rfl rfl rfl ?_ | refine J.skipU rfl rfl rfl rfl ?_ | (refine J.unguard rfl rfl rfl ?_; refine J.fieldAddr Ty.fd80_0 rfl rfl ?_)
              first | refine J.skip rfl rfl rfl rfl rfl ?_ | refine J.skipU rfl rfl rfl rfl ?_ | (refine J.unguard rfl rfl rfl ?_; refine J.load1 (v := iV 5) Ty.a3 rfl (fun w1 hw => (cell_of (hw.own ((b18, cb (cHp qa) 82)) (by repeat first | exact .head _ | apply List.Mem.tail | apply List.mem_append_right))).trans rfl) rfl ?_)
              first | refine J.skip rfl rfl rfl rfl rfl ?_ | refine J.skipU rfl rfl rfl rfl ?_ | (refine J.unguard rfl rfl rfl ?_; skip)
              (first | refine J.pickT rfl rfl rfl ?_ | refine J.pickF rfl rfl rfl ?_)
              refine J.nil ?_
              refine JX.thenN (hK28 _ _ ?_)
              first | refine JC.condF rfl ?_ | refine JC.cond rfl (fun h => by first | (exfalso; simp at h; omega) | (simp at h)) (fun _ => ?_)
              refine JC.skip ?_
              refine JX.blockN ?_
              refine JX.thenN (hK26 _ _ ?_)
              refine JC.region ?_
              (first | refine J.addN rfl rfl (by omega) (by omega) rfl ?_ | refine J.bin rfl rfl rfl rfl ?_)
              refine J.move rfl rfl ?_
              refine J.nil ?_
              refine JX.thenN ?_
              refine JX.again ((j + 1, td) : Nat × Nat) ?_ ?_ ?_
              · simp only; omega
              · exact ⟨rfl, rfl, rfl, rfl, rfl, rfl, rfl, rfl, rfl, rfl, rfl, rfl, rfl, trivial⟩
              · exact fun w1 hw => ⟨⟨hltj, by rw [cntO_step hqa, ← htd]; simp [hqp, hqn]⟩, hw.drop (List.sublist_cons_self _ _)⟩
          · skip
            refine JC.region ?_
            refine J.fieldAddr Ty.fd82_1 rfl rfl ?_
            refine J.fieldAddr Ty.fd80_1 rfl rfl ?_
            refine J.loadA (vs := cP qa.2) Ty.a38 Ty.s38 rfl rfl (fun w1 hw => (cells_in (Cells.of_block (hw.own _ (.head _)) rfl)).1) rfl ?_
            refine J.fieldAddr Ty.fd55_0 rfl rfl ?_
            refine J.loadOA (vs := cP xe.p) Ty.a38 Ty.s38 rfl (.tail _ (.tail _ (.head _))) rfl rfl rfl ?_
            refine J.eqP Ty.QP Ty.keyP rfl rfl hqo hxo.1 rfl ?_
            refine J.name 98 rfl (show _ = Value.bool false by simp [hqp]) ?_
            refine J.move rfl rfl ?_
            first | refine J.skip rfl rfl rfl rfl rfl ?_ | refine J.skipU rfl rfl rfl rfl ?_ | (refine J.unguard rfl rfl rfl ?_; refine J.fieldAddr Ty.fd82_0 rfl rfl ?_)
            first | refine J.skip rfl rfl rfl rfl rfl ?_ | refine J.skipU rfl rfl rfl rfl ?_ | (refine J.unguard rfl rfl rfl ?_; refine J.load1 (v := iV qa.1) Ty.a3 rfl (fun w1 hw => (cell_of (hw.own ((b18, cb (cHp qa) 82)) (by repeat first | exact .head _ | apply List.Mem.tail | apply List.mem_append_right))).trans rfl) rfl ?_)
            first | refine J.skip rfl rfl rfl rfl rfl ?_ | refine J.skipU rfl rfl rfl rfl ?_ | (refine J.unguard rfl rfl rfl ?_; refine J.move rfl rfl ?_)
            first | refine J.skip rfl rfl rfl rfl rfl ?_ | refine J.skipU rfl rfl rfl rfl ?_ | (refine J.unguard rfl rfl rfl ?_; skip)
            (first | refine J.pickT rfl rfl rfl ?_ | refine J.pickF rfl rfl rfl ?_)
            refine J.move rfl rfl ?_
            first | refine J.skip rfl rfl rfl rfl rfl ?_ | refine J.skipU rfl rfl rfl rfl ?_ | (refine J.unguard rfl rfl rfl ?_; refine J.fieldAddr Ty.fd82_1 rfl rfl ?_)
            first | refine J.skip rfl rfl rfl rfl rfl ?_ | refine J.skipU rfl rfl rfl rfl ?_ | (refine J.unguard rfl rfl rfl ?_; refine J.fieldAddr Ty.fd80_0 rfl rfl ?_)
            first | refine J.skip rfl rfl rfl rfl rfl ?_ | refine J.skipU rfl rfl rfl rfl ?_ | (refine J.unguard rfl rfl rfl ?_; refine J.load1 (v := iV 5) Ty.a3 rfl (fun w1 hw => (cell_of (hw.own ((b18, cb (cHp qa) 82)) (by repeat first | exact .head _ | apply List.Mem.tail | apply List.mem_append_right))).trans rfl) rfl ?_)
            first | refine J.skip rfl rfl rfl rfl rfl ?_ | refine J.skipU rfl rfl rfl rfl ?_ | (refine J.unguard rfl rfl rfl ?_; skip)
            (first | refine J.pickT rfl rfl rfl ?_ | refine J.pickF rfl rfl rfl ?_)
            refine J.nil ?_
            refine JX.thenN (hK28 _ _ ?_)
            first | refine JC.condF rfl ?_ | refine JC.cond rfl (fun h => by first | (exfalso; simp at h; omega) | (simp at h)) (fun _ => ?_)
            refine JC.skip ?_
            refine JX.blockN ?_
            refine JX.thenN (hK26 _ _ ?_)
            refine JC.region ?_
            (first | refine J.addN rfl rfl (by omega) (by omega) rfl ?_ | refine J.bin rfl rfl rfl rfl ?_)
            refine J.move rfl rfl ?_
            refine J.nil ?_
            refine JX.thenN ?_
            refine JX.again ((j + 1, td) : Nat × Nat) ?_ ?_ ?_
            · simp only; omega
            · exact ⟨rfl, rfl, rfl, rfl, rfl, rfl, rfl, rfl, rfl, rfl, rfl, rfl, rfl, trivial⟩
            · exact fun w1 hw => ⟨⟨hltj, by rw [cntO_step hqa, ← htd]; simp [hqp]⟩, hw.drop (List.sublist_cons_self _ _)⟩
        · skip
          have hge2 : j = (deadT (laidL 128 xs) n).1.out.length := by simp at h4; omega
          subst hge2
          rw [List.take_length] at htd
          refine JC.exit ?_
          refine JX.thenE ?_
          refine JX.thenE ?_
          refine JX.blockE ?_
          refine JX.thenN (hK22 _ _ ?_)
          refine JC.seq (fun K29 hK29 => ?_)
          refine JC.seq (fun K30 hK30 => ?_)
          refine JC.region ?_
          refine J.fieldAddr Ty.fd67_1 rfl rfl ?_
          refine J.load1 (v := .slice al (deadT (laidL 128 xs) n).1.lost.length cl) Ty.a65 rfl (fun w1 hw => (cell_of (hw.own ((b8, cb [.slice ao (deadT (laidL 128 xs) n).1.out.length co, .slice al (deadT (laidL 128 xs) n).1.lost.length cl] 67)) (by repeat first | exact .head _ | apply List.Mem.tail | apply List.mem_append_right))).trans rfl) rfl ?_
          refine J.lenS rfl Ty.u65 rfl rfl ?_
          refine J.move rfl rfl ?_
          refine J.nil ?_
          refine JX.thenN (hK30 _ _ ?_)
          refine JC.block ?_
          refine JC.conseq (JC.cov (f := (fun st => [(1, .int .i64 n), (5, .pointer (some ⟨t1, 0, none⟩)), (8, .pointer (some ⟨b8, 0, none⟩)), (9, .int .i64 ((k + 1 : Nat) : Int)), (37, .slice (some ⟨qw, 0, none⟩) (ordE (laidL 128 xs)).length cw), (38, .int .i64 (((ordE (laidL 128 xs)).length : Nat) : Int)), (39, .int .i64 ((i : Nat) : Int)), (11, .pointer (some ⟨b11, 0, none⟩)), (15, .int .i64 (sdE n xe)), (16, .int .i64 ((st.2 : Nat) : Int)), (115, .slice al (deadT (laidL 128 xs) n).1.lost.length cl), (116, .int .i64 (((deadT (laidL 128 xs) n).1.lost.length : Nat) : Int)), (117, .int .i64 ((st.1 : Nat) : Int))]) ((0, td) : Nat × Nat)) ⟨rfl, rfl, rfl, rfl, rfl, rfl, rfl, rfl, rfl, rfl, rfl, rfl, rfl, trivial⟩ (JC.loop (α := Nat × Nat) (fun st => [(1, .int .i64 n), (5, .pointer (some ⟨t1, 0, none⟩)), (8, .pointer (some ⟨b8, 0, none⟩)), (9, .int .i64 ((k + 1 : Nat) : Int)), (37, .slice (some ⟨qw, 0, none⟩) (ordE (laidL 128 xs)).length cw), (38, .int .i64 (((ordE (laidL 128 xs)).length : Nat) : Int)), (39, .int .i64 ((i : Nat) : Int)), (11, .pointer (some ⟨b11, 0, none⟩)), (15, .int .i64 (sdE n xe)), (16, .int .i64 ((st.2 : Nat) : Int)), (115, .slice al (deadT (laidL 128 xs) n).1.lost.length cl), (116, .int .i64 (((deadT (laidL 128 xs) n).1.lost.length : Nat) : Int)), (117, .int .i64 ((st.1 : Nat) : Int))]) (fun st w' => (st.1 ≤ (deadT (laidL 128 xs) n).1.lost.length ∧ st.2 = td + cntL xe.p (sdE n xe) ((deadT (laidL 128 xs) n).1.lost.take st.1)) ∧ St w [] ((b12, cb (cE zE) 55) :: (b11, cb (cE xe) 55) :: (b8, cb [.slice ao (deadT (laidL 128 xs) n).1.out.length co, .slice al (deadT (laidL 128 xs) n).1.lost.length cl] 67) :: (t1, tabO 128 m1) :: (m1, .map es2 ck) :: (lo ++ (ll ++ (lw ++ ((rt, rtabO (.slice ar (ordE (laidL 128 xs)).length cr) 128) :: lr))))) w') (fun st => (deadT (laidL 128 xs) n).1.lost.length - st.1) ((0, td) : Nat × Nat) (fun st => ?_))) (fun w hw => ⟨⟨Nat.zero_le _, rfl⟩, hw⟩)
          obtain ⟨j, tt⟩ := st
          refine JC.pr (fun hx2 => ?_)
          obtain ⟨hj, htt⟩ := hx2
          simp only at hj htt ⊢
          have htj : tt ≤ td + j := by rw [htt]; exact Nat.add_le_add_left (Nat.le_trans (cntL_le _ _ _) (by rw [List.length_take]; omega)) _
          refine JC.seq (fun K31 hK31 => ?_)
          refine JC.region ?_
          refine J.bin rfl rfl rfl rfl ?_
          refine J.nil ?_
          refine JX.thenN (hK31 _ _ ?_)
          refine JC.seq (fun K32 hK32 => ?_)
          refine JC.cond rfl (fun h6 => ?_) (fun h6 => ?_)
          · skip
            have hltj : j < (deadT (laidL 128 xs) n).1.lost.length := by simp at h6; omega
            obtain ⟨qo, rfl⟩ : ∃ q, al = some ⟨q, 0, none⟩ := by
              obtain ⟨q, sp, h9, _⟩ := vec_pos hvl (by omega)
              exact ⟨q, h9⟩
            obtain ⟨pa, hpa⟩ : ∃ x, (deadT (laidL 128 xs) n).1.lost[j]? = some x := ⟨_, List.getElem?_eq_getElem hltj⟩
            have hokd : okT (deadT (laidL 128 xs) n).1 := ok_dead hT.ok
            have hpo := hokd.2 pa (List.mem_of_getElem? hpa)
            refine JC.skip ?_
            refine JX.thenN (hK32 _ _ ?_)
            refine JC.seq (fun K33 hK33 => ?_)
            refine JC.block ?_
            refine JC.seq (fun K34 hK34 => ?_)
            refine JC.region ?_
            refine J.indexAddrS Ty.el65 Ty.s38 rfl rfl (by omega) (by omega) rfl ?_
            refine J.loadA (vs := cP pa) Ty.a38 Ty.s38 rfl rfl (fun w1 hw => rowP_at (vec_rowM hvl hw (fun q hq => by first | (simp [hq]; done) | (simp at hq; simp [hq]; done) | (simp at hq; subst hq; simp))) hpa (by simp)) rfl ?_
            refine J.alloc zPa rfl rfl (fun b20 => ?_)
            refine J.storeW (cs := cP zP) (vs := cP pa) Ty.s38 rfl rfl rfl rfl rfl (one_cP _) .here ?_
            refine J.nil ?_
            refine JX.thenN (hK34 _ _ ?_)
            refine JC.seq (fun K35 hK35 => ?_)
            by_cases hqp : pa = xe.p
            · skip
              by_cases hqn : (sdE n xe) = -1
              · skip
                refine JC.region ?_
                refine J.loadOA (vs := cP pa) Ty.a38 Ty.s38 rfl (.head _) rfl rfl rfl ?_
                refine J.fieldAddr Ty.fd55_0 rfl rfl ?_
                refine J.loadOA (vs := cP xe.p) Ty.a38 Ty.s38 rfl (.tail _ (.tail _ (.head _))) rfl rfl rfl ?_
                refine J.eqP Ty.QP Ty.keyP rfl rfl hpo hxo.1 rfl ?_
                refine J.name 124 rfl (show _ = Value.bool true by simp [hqp]) ?_
                refine J.move rfl rfl ?_
                first | refine J.skip rfl rfl rfl rfl rfl ?_ | refine J.skipU rfl rfl rfl rfl ?_ | (refine J.unguard rfl rfl rfl ?_; refine J.move rfl rfl ?_)
                first | refine J.skip rfl rfl rfl rfl rfl ?_ | refine J.skipU rfl rfl rfl rfl ?_ | (refine J.unguard rfl rfl rfl ?_; refine J.bin rfl rfl rfl rfl ?_; refine J.name 127 rfl (show _ = Value.bool true by simp [hqn]) ?_)
                (first | refine J.pickT rfl rfl rfl ?_ | refine J.pickF rfl rfl rfl ?_)
                refine J.nil ?_
                refine JX.thenN (hK35 _ _ ?_)
                first | refine JC.condT rfl ?_ | refine JC.cond rfl (fun _ => ?_) (fun h => by first | (exfalso; simp at h; omega) | (simp at h))
                refine JC.region ?_
                refine J.move rfl rfl ?_
                refine J.addN rfl rfl (by omega) (by omega) rfl ?_
                refine J.name 130 rfl (show _ = .int .i64 ((tt + 1 : Nat) : Int) by first | (congr 1; omega) | congr 1 | rfl) ?_
                refine J.assign rfl rfl ?_
                refine J.nil ?_
                refine JX.blockN ?_
                refine JX.thenN (hK33 _ _ ?_)
                refine JC.region ?_
                (first | refine J.addN rfl rfl (by omega) (by omega) rfl ?_ | refine J.bin rfl rfl rfl rfl ?_)
                refine J.move rfl rfl ?_
                refine J.nil ?_
                refine JX.thenN ?_
                refine JX.again ((j + 1, tt + 1) : Nat × Nat) ?_ ?_ ?_
                · simp only; omega
                · exact ⟨rfl, rfl, rfl, rfl, rfl, rfl, rfl, rfl, rfl, rfl, rfl, rfl, rfl, trivial⟩
                · exact fun w1 hw => ⟨⟨hltj, by rw [cntL_step hpa, ← Nat.add_assoc, ← htt]; simp [hqp, hqn]⟩, hw.drop (List.sublist_cons_self _ _)⟩
              · skip
                refine JC.region ?_
                refine J.loadOA (vs := cP pa) Ty.a38 Ty.s38 rfl (.head _) rfl rfl rfl ?_
                refine J.fieldAddr Ty.fd55_0 rfl rfl ?_
                refine J.loadOA (vs := cP xe.p) Ty.a38 Ty.s38 rfl (.tail _ (.tail _ (.head _))) rfl rfl rfl ?_
                refine J.eqP Ty.QP Ty.keyP rfl rfl hpo hxo.1 rfl ?_
                refine J.name 124 rfl (show _ = Value.bool true by simp [hqp]) ?_
                refine J.move rfl rfl ?_
                first | refine J.skip rfl rfl rfl rfl rfl ?_ | refine J.skipU rfl rfl rfl rfl ?_ | (refine J.unguard rfl rfl rfl ?_; refine J.move rfl rfl ?_)
                first | refine J.skip rfl rfl rfl rfl rfl ?_ | refine J.skipU rfl rfl rfl rfl ?_ | (refine J.unguard rfl rfl rfl ?_; refine J.bin rfl rfl rfl rfl ?_; refine J.name 127 rfl (show _ = Value.bool false by simp [hqn]) ?_)
                (first | refine J.pickT rfl rfl rfl ?_ | refine J.pickF rfl rfl rfl ?_)
                refine J.nil ?_
                refine JX.thenN (hK35 _ _ ?_)
                first | refine JC.condF rfl ?_ | refine JC.cond rfl (fun h => by first | (exfalso; simp at h; omega) | (simp at h)) (fun _ => ?_)
                refine JC.skip ?_
                refine JX.blockN ?_
                refine JX.thenN (hK33 _ _ ?_)
                refine JC.region ?_
                (first | refine J.addN rfl rfl (by omega) (by omega) rfl ?_ | refine J.bin rfl rfl rfl rfl ?_)
                refine J.move rfl rfl ?_
                refine J.nil ?_
                refine JX.thenN ?_
                refine JX.again ((j + 1, tt) : Nat × Nat) ?_ ?_ ?_
                · simp only; omega
                · exact ⟨rfl, rfl, rfl, rfl, rfl, rfl, rfl, rfl, rfl, rfl, rfl, rfl, rfl, trivial⟩
                · exact fun w1 hw => ⟨⟨hltj, by rw [cntL_step hpa, ← Nat.add_assoc, ← htt]; simp [hqp, hqn]⟩, hw.drop (List.sublist_cons_self _ _)⟩
            · skip
              refine JC.region ?_
              refine J.loadOA (vs := cP pa) Ty.a38 Ty.s38 rfl (.head _) rfl rfl rfl ?_
              refine J.fieldAddr Ty.fd55_0 rfl rfl ?_
              refine J.loadOA (vs := cP xe.p) Ty.a38 Ty.s38 rfl (.tail _ (.tail _ (.head _))) rfl rfl rfl ?_
              refine J.eqP Ty.QP Ty.keyP rfl rfl hpo hxo.1 rfl ?_
              refine J.name 124 rfl (show _ = Value.bool false by simp [hqp]) ?_
              refine J.move rfl rfl ?_
              first | refine J.skip rfl rfl rfl rfl rfl ?_ | refine J.skipU rfl rfl rfl rfl ?_ | (refine J.unguard rfl rfl rfl ?_; refine J.move rfl rfl ?_)
              first | refine J.skip rfl rfl rfl rfl rfl ?_ | refine J.skipU rfl rfl rfl rfl ?_ | (refine J.unguard rfl rfl rfl ?_; skip)
              (first | refine J.pickT rfl rfl rfl ?_ | refine J.pickF rfl rfl rfl ?_)
              refine J.nil ?_
              refine JX.thenN (hK35 _ _ ?_)
              first | refine JC.condF rfl ?_ | refine JC.cond rfl (fun h => by first | (exfalso; simp at h; omega) | (simp at h)) (fun _ => ?_)
              refine JC.skip ?_
              refine JX.blockN ?_
              refine JX.thenN (hK33 _ _ ?_)
              refine JC.region ?_
              (first | refine J.addN rfl rfl (by omega) (by omega) rfl ?_ | refine J.bin rfl rfl rfl rfl ?_)
              refine J.move rfl rfl ?_
              refine J.nil ?_
              refine JX.thenN ?_
              refine JX.again ((j + 1, tt) : Nat × Nat) ?_ ?_ ?_
              · simp only; omega
              · exact ⟨rfl, rfl, rfl, rfl, rfl, rfl, rfl, rfl, rfl, rfl, rfl, rfl, rfl, trivial⟩
              · exact fun w1 hw => ⟨⟨hltj, by rw [cntL_step hpa, ← Nat.add_assoc, ← htt]; simp [hqp]⟩, hw.drop (List.sublist_cons_self _ _)⟩
          · skip
            have hge3 : j = (deadT (laidL 128 xs) n).1.lost.length := by simp at h6; omega
            subst hge3
            rw [List.take_length] at htt
            have hone := dead_tell hT.dist hgood.right hxL hov
            unfold tell at hone
            refine JC.exit ?_
            refine JX.thenE ?_
            refine JX.thenE ?_
            refine JX.blockE ?_
            refine JX.thenN (hK29 _ _ ?_)
            refine JC.seq (fun K36 hK36 => ?_)
            refine JC.region ?_
            refine J.move rfl rfl ?_
            refine J.bin rfl rfl rfl rfl ?_
            refine J.name 133 rfl (show _ = Value.bool false by simp; omega) ?_
            refine J.nil ?_
            refine JX.thenN (hK36 _ _ ?_)
            first | refine JC.condF rfl ?_ | refine JC.cond rfl (fun h => by first | (exfalso; simp at h; omega) | (simp at h)) (fun _ => ?_)
            refine JC.skip ?_
            refine JX.blockN ?_
            refine JX.thenN (hK11 _ _ ?_)
            refine JC.region ?_
            (first | refine J.addN rfl rfl (by omega) (by omega) rfl ?_ | refine J.bin rfl rfl rfl rfl ?_)
            refine J.move rfl rfl ?_
            refine J.nil ?_
            refine JX.thenN ?_
            refine JX.again ((i + 1, k + 1) : Nat × Nat) ?_ ?_ ?_
            · simp only; omega
            · exact ⟨rfl, rfl, rfl, rfl, rfl, rfl, rfl, trivial⟩
            · exact fun w1 hw => ⟨⟨hlt, by show k + 1 = _; rw [viaS_step hxe, ← hk, if_pos hov]⟩, hw.drop (.cons _ (.cons _ (List.Sublist.refl _)))⟩
      · skip
        have hnb : xe.nb = n := hvb.resolve_left hna
        refine JC.region ?_
        refine J.move rfl rfl ?_
        refine J.bin rfl rfl rfl rfl ?_
        refine J.name 51 rfl (show _ = Value.bool true by simp; omega) ?_
        refine J.move rfl rfl ?_
        first | refine J.skip rfl rfl rfl rfl rfl ?_ | refine J.skipU rfl rfl rfl rfl ?_ | (refine J.unguard rfl rfl rfl ?_; refine J.fieldAddr Ty.fd55_3 rfl rfl ?_)
        first | refine J.skip rfl rfl rfl rfl rfl ?_ | refine J.skipU rfl rfl rfl rfl ?_ | (refine J.unguard rfl rfl rfl ?_; refine J.load1 (v := .int .i64 xe.na) Ty.a3 rfl (fun w1 hw => (cell_of (hw.own ((b11, cb (cE xe) 55)) (by repeat first | exact .head _ | apply List.Mem.tail | apply List.mem_append_right))).trans rfl) rfl ?_)
        first | refine J.skip rfl rfl rfl rfl rfl ?_ | refine J.skipU rfl rfl rfl rfl ?_ | (refine J.unguard rfl rfl rfl ?_; refine J.move rfl rfl ?_)
        first | refine J.skip rfl rfl rfl rfl rfl ?_ | refine J.skipU rfl rfl rfl rfl ?_ | (refine J.unguard rfl rfl rfl ?_; refine J.bin rfl rfl rfl rfl ?_; refine J.name 56 rfl (show _ = Value.bool false by simp [hna]) ?_)
        first | refine J.skip rfl rfl rfl rfl rfl ?_ | refine J.skipU rfl rfl rfl rfl ?_ | (refine J.unguard rfl rfl rfl ?_; refine J.move rfl rfl ?_)
        first | refine J.skip rfl rfl rfl rfl rfl ?_ | refine J.skipU rfl rfl rfl rfl ?_ | (refine J.unguard rfl rfl rfl ?_; refine J.fieldAddr Ty.fd55_4 rfl rfl ?_)
        first | refine J.skip rfl rfl rfl rfl rfl ?_ | refine J.skipU rfl rfl rfl rfl ?_ | (refine J.unguard rfl rfl rfl ?_; refine J.load1 (v := .int .i64 xe.nb) Ty.a3 rfl (fun w1 hw => (cell_of (hw.own ((b11, cb (cE xe) 55)) (by repeat first | exact .head _ | apply List.Mem.tail | apply List.mem_append_right))).trans rfl) rfl ?_)
        first | refine J.skip rfl rfl rfl rfl rfl ?_ | refine J.skipU rfl rfl rfl rfl ?_ | (refine J.unguard rfl rfl rfl ?_; refine J.move rfl rfl ?_)
        first | refine J.skip rfl rfl rfl rfl rfl ?_ | refine J.skipU rfl rfl rfl rfl ?_ | (refine J.unguard rfl rfl rfl ?_; refine J.bin rfl rfl rfl rfl ?_; refine J.name 61 rfl (show _ = Value.bool true by simp [hnb]) ?_)
        first | refine J.skip rfl rfl rfl rfl rfl ?_ | refine J.skipU rfl rfl rfl rfl ?_ | (refine J.unguard rfl rfl rfl ?_; (first | refine J.pickT rfl rfl rfl ?_ | refine J.pickF rfl rfl rfl ?_))
        (first | refine J.pickT rfl rfl rfl ?_ | refine J.pickF rfl rfl rfl ?_)
        refine J.assign rfl rfl ?_
        refine J.nil ?_
        refine JX.thenN (hK14 _ _ ?_)
        refine JC.seq (fun K37 hK37 => ?_)
        refine JC.seq (fun K38 hK38 => ?_)
        refine JC.region ?_
        refine J.move rfl rfl ?_
        refine J.move rfl rfl ?_
        refine J.eqBool (.inl rfl) Ty.u4 rfl rfl rfl ?_
        refine J.move rfl rfl ?_
        first | refine J.skip rfl rfl rfl rfl rfl ?_ | refine J.skipU rfl rfl rfl rfl ?_ | (refine J.unguard rfl rfl rfl ?_; refine J.move rfl rfl ?_)
        first | refine J.skip rfl rfl rfl rfl rfl ?_ | refine J.skipU rfl rfl rfl rfl ?_ | (refine J.unguard rfl rfl rfl ?_; refine J.move rfl rfl ?_)
        first | refine J.skip rfl rfl rfl rfl rfl ?_ | refine J.skipU rfl rfl rfl rfl ?_ | (refine J.unguard rfl rfl rfl ?_; refine J.loadOA (vs := cE xe) Ty.a55 Ty.s55 rfl (.head _) rfl rfl rfl ?_)
        first | refine J.skip rfl rfl rfl rfl rfl ?_ | refine J.skipU rfl rfl rfl rfl ?_ | (refine J.unguard rfl rfl rfl ?_; refine J.loadOA (vs := cE xe) Ty.a55 Ty.s55 rfl (.tail _ (.head _)) rfl rfl rfl ?_)
        first | refine J.skip rfl rfl rfl rfl rfl ?_ | refine J.skipU rfl rfl rfl rfl ?_ | (refine J.unguard rfl rfl rfl ?_; refine J.neE Ty.QE Ty.keyE rfl rfl hxo hxo rfl ?_; refine J.name 72 rfl (show _ = Value.bool false by simp) ?_)
        first | refine J.skip rfl rfl rfl rfl rfl ?_ | refine J.skipU rfl rfl rfl rfl ?_ | (refine J.unguard rfl rfl rfl ?_; (first | refine J.pickT rfl rfl rfl ?_ | refine J.pickF rfl rfl rfl ?_))
        (first | refine J.pickT rfl rfl rfl ?_ | refine J.pickF rfl rfl rfl ?_)
        refine J.nil ?_
        refine JX.thenN (hK38 _ _ ?_)
        first | refine JC.condF rfl ?_ | refine JC.cond rfl (fun h => by first | (exfalso; simp at h; omega) | (simp at h)) (fun _ => ?_)
        refine JC.skip ?_
        refine JX.thenN (hK37 _ _ ?_)
        refine JC.seq (fun K39 hK39 => ?_)
        refine JC.seq (fun K40 hK40 => ?_)
        refine JC.region ?_
        refine J.move rfl rfl ?_
        refine J.not rfl rfl ?_
        refine J.nil ?_
        refine JX.thenN (hK40 _ _ ?_)
        first | refine JC.condF rfl ?_ | refine JC.cond rfl (fun h => by first | (exfalso; simp at h; omega) | (simp at h)) (fun _ => ?_)
        refine JC.skip ?_
        refine JX.thenN (hK39 _ _ ?_)
        refine JC.seq (fun K41 hK41 => ?_)
        refine JC.region ?_
        refine J.move rfl rfl ?_
        refine J.addN rfl rfl (by omega) (by omega) rfl ?_
        refine J.name 78 rfl (show _ = .int .i64 ((k + 1 : Nat) : Int) by first | (congr 1; omega) | congr 1 | rfl) ?_
        refine J.assign rfl rfl ?_
        refine J.nil ?_
        refine JX.thenN (hK41 _ _ ?_)
        refine JC.seq (fun K42 hK42 => ?_)
        refine JC.region ?_
        refine J.fieldAddr Ty.fd55_3 rfl rfl ?_
        refine J.load1 (v := .int .i64 xe.na) Ty.a3 rfl (fun w1 hw => (cell_of (hw.own ((b11, cb (cE xe) 55)) (by repeat first | exact .head _ | apply List.Mem.tail | apply List.mem_append_right))).trans rfl) rfl ?_
        refine J.fieldAddr Ty.fd55_4 rfl rfl ?_
        refine J.load1 (v := .int .i64 xe.nb) Ty.a3 rfl (fun w1 hw => (cell_of (hw.own ((b11, cb (cE xe) 55)) (by repeat first | exact .head _ | apply List.Mem.tail | apply List.mem_append_right))).trans rfl) rfl ?_
        (first | refine J.addN rfl rfl (by omega) (by omega) rfl ?_ | refine J.bin rfl rfl rfl rfl ?_)
        refine J.move rfl rfl ?_
        refine J.subN rfl rfl (by rcases hvb with h | h <;> omega) (by rcases hvb with h | h <;> omega) rfl ?_
        refine J.name 85 rfl (show _ = Value.int .i64 (sdE n xe) by congr 1; unfold sdE; split <;> omega) ?_
        refine J.assign rfl rfl ?_
        refine J.nil ?_
        refine JX.thenN (hK42 _ _ ?_)
        refine JC.seq (fun K43 hK43 => ?_)
        refine JC.region ?_
        refine J.assign rfl rfl ?_
        refine J.nil ?_
        refine JX.thenN (hK43 _ _ ?_)
        refine JC.seq (fun K44 hK44 => ?_)
        refine JC.seq (fun K45 hK45 => ?_)
        refine JC.region ?_
        refine J.fieldAddr Ty.fd67_0 rfl rfl ?_
        refine J.load1 (v := .slice ao (deadT (laidL 128 xs) n).1.out.length co) Ty.a64 rfl (fun w1 hw => (cell_of (hw.own ((b8, cb [.slice ao (deadT (laidL 128 xs) n).1.out.length co, .slice al (deadT (laidL 128 xs) n).1.lost.length cl] 67)) (by repeat first | exact .head _ | apply List.Mem.tail | apply List.mem_append_right))).trans rfl) rfl ?_
        refine J.lenS rfl Ty.u64 rfl rfl ?_
        refine J.move rfl rfl ?_
        refine J.nil ?_
        refine JX.thenN (hK45 _ _ ?_)
        refine JC.block ?_
        refine JC.conseq (JC.cov (f := (fun st => [(1, .int .i64 n), (5, .pointer (some ⟨t1, 0, none⟩)), (8, .pointer (some ⟨b8, 0, none⟩)), (9, .int .i64 ((k + 1 : Nat) : Int)), (37, .slice (some ⟨qw, 0, none⟩) (ordE (laidL 128 xs)).length cw), (38, .int .i64 (((ordE (laidL 128 xs)).length : Nat) : Int)), (39, .int .i64 ((i : Nat) : Int)), (11, .pointer (some ⟨b11, 0, none⟩)), (15, .int .i64 (sdE n xe)), (16, .int .i64 ((st.2 : Nat) : Int)), (87, .slice ao (deadT (laidL 128 xs) n).1.out.length co), (88, .int .i64 (((deadT (laidL 128 xs) n).1.out.length : Nat) : Int)), (89, .int .i64 ((st.1 : Nat) : Int))]) ((0, 0) : Nat × Nat)) ⟨rfl, rfl, rfl, rfl, rfl, rfl, rfl, rfl, rfl, rfl, rfl, rfl, rfl, trivial⟩ (JC.loop (α := Nat × Nat) (fun st => [(1, .int .i64 n), (5, .pointer (some ⟨t1, 0, none⟩)), (8, .pointer (some ⟨b8, 0, none⟩)), (9, .int .i64 ((k + 1 : Nat) : Int)), (37, .slice (some ⟨qw, 0, none⟩) (ordE (laidL 128 xs)).length cw), (38, .int .i64 (((ordE (laidL 128 xs)).length : Nat) : Int)), (39, .int .i64 ((i : Nat) : Int)), (11, .pointer (some ⟨b11, 0, none⟩)), (15, .int .i64 (sdE n xe)), (16, .int .i64 ((st.2 : Nat) : Int)), (87, .slice ao (deadT (laidL 128 xs) n).1.out.length co), (88, .int .i64 (((deadT (laidL 128 xs) n).1.out.length : Nat) : Int)), (89, .int .i64 ((st.1 : Nat) : Int))]) (fun st w' => (st.1 ≤ (deadT (laidL 128 xs) n).1.out.length ∧ st.2 = cntO xe.p (sdE n xe) ((deadT (laidL 128 xs) n).1.out.take st.1)) ∧ St w [] ((b12, cb (cE zE) 55) :: (b11, cb (cE xe) 55) :: (b8, cb [.slice ao (deadT (laidL 128 xs) n).1.out.length co, .slice al (deadT (laidL 128 xs) n).1.lost.length cl] 67) :: (t1, tabO 128 m1) :: (m1, .map es2 ck) :: (lo ++ (ll ++ (lw ++ ((rt, rtabO (.slice ar (ordE (laidL 128 xs)).length cr) 128) :: lr))))) w') (fun st => (deadT (laidL 128 xs) n).1.out.length - st.1) ((0, 0) : Nat × Nat) (fun st => ?_))) (fun w hw => ⟨⟨Nat.zero_le _, rfl⟩, hw⟩)
        obtain ⟨j, td⟩ := st
        refine JC.pr (fun hx2 => ?_)
        obtain ⟨hj, htd⟩ := hx2
        simp only at hj htd ⊢
        have htj : td ≤ j := by rw [htd]; exact Nat.le_trans (cntO_le _ _ _) (by rw [List.length_take]; omega)
        refine JC.seq (fun K46 hK46 => ?_)
        refine JC.region ?_
        refine J.bin rfl rfl rfl rfl ?_
        refine J.nil ?_
        refine JX.thenN (hK46 _ _ ?_)
        refine JC.seq (fun K47 hK47 => ?_)
        refine JC.cond rfl (fun h4 => ?_) (fun h4 => ?_)
        · skip
          have hltj : j < (deadT (laidL 128 xs) n).1.out.length := by simp at h4; omega
          obtain ⟨qo, rfl⟩ : ∃ q, ao = some ⟨q, 0, none⟩ := by
            obtain ⟨q, sp, h9, _⟩ := vec_pos hvo (by omega)
            exact ⟨q, h9⟩
          obtain ⟨qa, hqa⟩ : ∃ x, (deadT (laidL 128 xs) n).1.out[j]? = some x := ⟨_, List.getElem?_eq_getElem hltj⟩
          have hokd : okT (deadT (laidL 128 xs) n).1 := ok_dead hT.ok
          have hqo := hokd.1 qa (List.mem_of_getElem? hqa)
          refine JC.skip ?_
          refine JX.thenN (hK47 _ _ ?_)
          refine JC.seq (fun K48 hK48 => ?_)
          refine JC.block ?_
          refine JC.seq (fun K49 hK49 => ?_)
          refine JC.region ?_
          refine J.indexAddrS Ty.el64 Ty.s82 rfl rfl (by omega) (by omega) rfl ?_
          refine J.loadA (vs := cHp qa) Ty.a82 Ty.s82 rfl rfl (fun w1 hw => rowH_at (i := j) (vec_rowM hvo hw (fun q hq => by first | (simp [hq]; done) | (simp at hq; simp [hq]; done) | (simp at hq; subst hq; simp))) hqa (by simp)) rfl ?_
          refine J.alloc zHp rfl rfl (fun b18 => ?_)
          refine J.storeW (cs := iV 0 :: cF 0 zP zI zI nilV) (vs := cHp qa) Ty.s82 rfl rfl rfl rfl rfl (one_cHp _) .here ?_
          refine J.nil ?_
          refine JX.thenN (hK49 _ _ ?_)
          refine JC.seq (fun K50 hK50 => ?_)
          by_cases hqp : qa.2 = xe.p
          · skip
            by_cases hqn : qa.1 = (sdE n xe)
            · skip
              refine JC.region ?_
              refine J.fieldAddr Ty.fd82_1 rfl rfl ?_
              refine J.fieldAddr Ty.fd80_1 rfl rfl ?_
              refine J.loadA (vs := cP qa.2) Ty.a38 Ty.s38 rfl rfl (fun w1 hw => (cells_in (Cells.of_block (hw.own _ (.head _)) rfl)).1) rfl ?_
              refine J.fieldAddr Ty.fd55_0 rfl rfl ?_
              refine J.loadOA (vs := cP xe.p) Ty.a38 Ty.s38 rfl (.tail _ (.tail _ (.head _))) rfl rfl rfl ?_
              refine J.eqP Ty.QP Ty.keyP rfl rfl hqo hxo.1 rfl ?_
              refine J.name 98 rfl (show _ = Value.bool true by simp [hqp]) ?_
              refine J.move rfl rfl ?_
              first | refine J.skip rfl rfl rfl rfl rfl ?_ | refine J.skipU rfl rfl rfl rfl ?_ | (refine J.unguard rfl rfl rfl ?_; refine J.fieldAddr Ty.fd82_0 rfl rfl ?_)
              first | refine J.skip rfl rfl rfl rfl rfl ?_ | refine J.skipU rfl rfl rfl rfl ?_ | (refine J.unguard rfl rfl rfl ?_; refine J.load1 (v := iV qa.1) Ty.a3 rfl (fun w1 hw => (cell_of (hw.own ((b18, cb (cHp qa) 82)) (by repeat first | exact .head _ | apply List.Mem.tail | apply List.mem_append_right))).trans rfl) rfl ?_)
              first | refine J.skip rfl rfl rfl rfl rfl ?_ | refine J.skipU rfl rfl rfl rfl ?_ | (refine J.unguard rfl rfl rfl ?_; refine J.move rfl rfl ?_)
              first | refine J.skip rfl rfl rfl rfl rfl ?_ | refine J.skipU rfl rfl rfl rfl ?_ | (refine J.unguard rfl rfl rfl ?_; refine J.bin rfl rfl rfl rfl ?_; refine J.name 103 rfl (show _ = Value.bool true by simp [hqn]) ?_)
              (first | refine J.pickT rfl rfl rfl ?_ | refine J.pickF rfl rfl rfl ?_)
              refine J.move rfl rfl ?_
              first | refine J.skip rfl rfl rfl rfl rfl ?_ | refine J.skipU rfl rfl rfl rfl ?_ | (refine J.unguard rfl rfl rfl ?_; refine J.fieldAddr Ty.fd82_1 rfl rfl ?_)
              first | refine J.skip rfl rfl rfl rfl rfl ?_ | refine J.skipU rfl rfl rfl rfl ?_ | (refine J.unguard rfl rfl rfl ?_; refine J.fieldAddr Ty.fd80_0 rfl rfl ?_)
              first | refine J.skip rfl rfl rfl rfl rfl ?_ | refine J.skipU rfl rfl rfl rfl ?_ | (refine J.unguard rfl rfl rfl ?_; refine J.load1 (v := iV 5) Ty.a3 rfl (fun w1 hw => (cell_of (hw.own ((b18, cb (cHp qa) 82)) (by repeat first | exact .head _ | apply List.Mem.tail | apply List.mem_append_right))).trans rfl) rfl ?_)
              first | refine J.skip rfl rfl rfl rfl rfl ?_ | refine J.skipU rfl rfl rfl rfl ?_ | (refine J.unguard rfl rfl rfl ?_; refine J.bin rfl rfl rfl rfl ?_; refine J.name 109 rfl (show _ = Value.bool true by rfl) ?_)
              (first | refine J.pickT rfl rfl rfl ?_ | refine J.pickF rfl rfl rfl ?_)
              refine J.nil ?_
              refine JX.thenN (hK50 _ _ ?_)
              first | refine JC.condT rfl ?_ | refine JC.cond rfl (fun _ => ?_) (fun h => by first | (exfalso; simp at h; omega) | (simp at h))
              refine JC.region ?_
              refine J.move rfl rfl ?_
              refine J.addN rfl rfl (by omega) (by omega) rfl ?_
              refine J.name 112 rfl (show _ = .int .i64 ((td + 1 : Nat) : Int) by first | (congr 1; omega) | congr 1 | rfl) ?_
              refine J.assign rfl rfl ?_
              refine J.nil ?_
              refine JX.blockN ?_
              refine JX.thenN (hK48 _ _ ?_)
              refine JC.region ?_
              (first | refine J.addN rfl rfl (by omega) (by omega) rfl ?_ | refine J.bin rfl rfl rfl rfl ?_)
              refine J.move rfl rfl ?_
              refine J.nil ?_
              refine JX.thenN ?_
              refine JX.again ((j + 1, td + 1) : Nat × Nat) ?_ ?_ ?_
              · simp only; omega
              · exact ⟨rfl, rfl, rfl, rfl, rfl, rfl, rfl, rfl, rfl, rfl, rfl, rfl, rfl, trivial⟩
              · exact fun w1 hw => ⟨⟨hltj, by rw [cntO_step hqa, ← htd]; simp [hqp, hqn]⟩, hw.drop (List.sublist_cons_self _ _)⟩
            · skip
              refine JC.region ?_
              refine J.fieldAddr Ty.fd82_1 rfl rfl ?_
              refine J.fieldAddr Ty.fd80_1 rfl rfl ?_
              refine J.loadA (vs := cP qa.2) Ty.a38 Ty.s38 rfl rfl (fun w1 hw => (cells_in (Cells.of_block (hw.own _ (.head _)) rfl)).1) rfl ?_
              refine J.fieldAddr Ty.fd55_0 rfl rfl ?_
              refine J.loadOA (vs := cP xe.p) Ty.a38 Ty.s38 rfl (.tail _ (.tail _ (.head _))) rfl rfl rfl ?_
              refine J.eqP Ty.QP Ty.keyP rfl rfl hqo hxo.1 rfl ?_
              refine J.name 98 rfl (show _ = Value.bool true by simp [hqp]) ?_
              refine J.move rfl rfl ?_
              first | refine J.skip rfl rfl rfl rfl rfl ?_ | refine J.skipU rfl rfl rfl rfl ?_ | (refine J.unguard rfl rfl rfl ?_; refine J.fieldAddr Ty.fd82_0 rfl rfl ?_)
              first | refine J.skip rfl rfl rfl rfl rfl ?_ | refine J.skipU rfl rfl rfl rfl ?_ | (refine J.unguard rfl rfl rfl ?_; refine J.load1 (v := iV qa.1) Ty.a3 rfl (fun w1 hw => (cell_of (hw.own ((b18, cb (cHp qa) 82)) (by repeat first | exact .head _ | apply List.Mem.tail | apply List.mem_append_right))).trans rfl) rfl ?_)
              first | refine J.skip rfl rfl rfl rfl rfl ?_ | refine J.skipU rfl rfl rfl rfl ?_ | (refine J.unguard rfl rfl rfl ?_; refine J.move rfl rfl ?_)
              first | refine J.skip rfl rfl rfl rfl rfl ?_ | refine J.skipU rfl rfl rfl rfl ?_ | (refine J.unguard rfl rfl rfl ?_; refine J.bin rfl rfl rfl rfl ?_; refine J.name 103 rfl (show _ = Value.bool false by simp [hqn]) ?_)
              (first | refine J.pickT rfl rfl rfl ?_ | refine J.pickF rfl rfl rfl ?_)
              refine J.move rfl rfl ?_
              first | refine J.skip rfl rfl rfl rfl rfl ?_ | refine J.skipU rfl rfl rfl rfl ?_ | (refine J.unguard rfl rfl rfl ?_; refine J.fieldAddr Ty.fd82_1 rfl rfl ?_)
              first | refine J.skip rfl rfl rfl rfl rfl ?_ | refine J.skipU rfl rfl rfl rfl ?_ | (refine J.unguard rfl rfl rfl ?_; refine J.fieldAddr Ty.fd80_0 rfl rfl ?_)
              first | refine J.skip rfl rfl rfl rfl rfl ?_ | refine J.skipU rfl rfl rfl rfl ?_ | (refine J.unguard rfl rfl rfl ?_; refine J.load1 (v := iV 5) Ty.a3 rfl (fun w1 hw => (cell_of (hw.own ((b18, cb (cHp qa) 82)) (by repeat first | exact .head _ | apply List.Mem.tail | apply List.mem_append_right))).trans rfl) rfl ?_)
              first | refine J.skip rfl rfl rfl rfl rfl ?_ | refine J.skipU rfl rfl rfl rfl ?_ | (refine J.unguard rfl rfl rfl ?_; skip)
              (first | refine J.pickT rfl rfl rfl ?_ | refine J.pickF rfl rfl rfl ?_)
              refine J.nil ?_
              refine JX.thenN (hK50 _ _ ?_)
              first | refine JC.condF rfl ?_ | refine JC.cond rfl (fun h => by first | (exfalso; simp at h; omega) | (simp at h)) (fun _ => ?_)
              refine JC.skip ?_
              refine JX.blockN ?_
              refine JX.thenN (hK48 _ _ ?_)
              refine JC.region ?_
              (first | refine J.addN rfl rfl (by omega) (by omega) rfl ?_ | refine J.bin rfl rfl rfl rfl ?_)
              refine J.move rfl rfl ?_
              refine J.nil ?_
              refine JX.thenN ?_
              refine JX.again ((j + 1, td) : Nat × Nat) ?_ ?_ ?_
              · simp only; omega
              · exact ⟨rfl, rfl, rfl, rfl, rfl, rfl, rfl, rfl, rfl, rfl, rfl, rfl, rfl, trivial⟩
              · exact fun w1 hw => ⟨⟨hltj, by rw [cntO_step hqa, ← htd]; simp [hqp, hqn]⟩, hw.drop (List.sublist_cons_self _ _)⟩
          · skip
            refine JC.region ?_
            refine J.fieldAddr Ty.fd82_1 rfl rfl ?_
            refine J.fieldAddr Ty.fd80_1 rfl rfl ?_
            refine J.loadA (vs := cP qa.2) Ty.a38 Ty.s38 rfl rfl (fun w1 hw => (cells_in (Cells.of_block (hw.own _ (.head _)) rfl)).1) rfl ?_
            refine J.fieldAddr Ty.fd55_0 rfl rfl ?_
            refine J.loadOA (vs := cP xe.p) Ty.a38 Ty.s38 rfl (.tail _ (.tail _ (.head _))) rfl rfl rfl ?_
            refine J.eqP Ty.QP Ty.keyP rfl rfl hqo hxo.1 rfl ?_
            refine J.name 98 rfl (show _ = Value.bool false by simp [hqp]) ?_
            refine J.move rfl rfl ?_
            first | refine J.skip rfl rfl rfl rfl rfl ?_ | refine J.skipU rfl rfl rfl rfl ?_ | (refine J.unguard rfl rfl rfl ?_; refine J.fieldAddr Ty.fd82_0 rfl rfl ?_)
            first | refine J.skip rfl rfl rfl rfl rfl ?_ | refine J.skipU rfl rfl rfl rfl ?_ | (refine J.unguard rfl rfl rfl ?_; refine J.load1 (v := iV qa.1) Ty.a3 rfl (fun w1 hw => (cell_of (hw.own ((b18, cb (cHp qa) 82)) (by repeat first | exact .head _ | apply List.Mem.tail | apply List.mem_append_right))).trans rfl) rfl ?_)
            first | refine J.skip rfl rfl rfl rfl rfl ?_ | refine J.skipU rfl rfl rfl rfl ?_ | (refine J.unguard rfl rfl rfl ?_; refine J.move rfl rfl ?_)
            first | refine J.skip rfl rfl rfl rfl rfl ?_ | refine J.skipU rfl rfl rfl rfl ?_ | (refine J.unguard rfl rfl rfl ?_; skip)
            (first | refine J.pickT rfl rfl rfl ?_ | refine J.pickF rfl rfl rfl ?_)
            refine J.move rfl rfl ?_
            first | refine J.skip rfl rfl rfl rfl rfl ?_ | refine J.skipU rfl rfl rfl rfl ?_ | (refine J.unguard rfl rfl rfl ?_; refine J.fieldAddr Ty.fd82_1 rfl rfl ?_)
            first | refine J.skip rfl rfl rfl rfl rfl ?_ | refine J.skipU rfl rfl rfl rfl ?_ | (refine J.unguard rfl rfl rfl ?_; refine J.fieldAddr Ty.fd80_0 rfl rfl ?_)
            first | refine J.skip rfl rfl rfl rfl rfl ?_ | refine J.skipU rfl rfl rfl rfl ?_ | (refine J.unguard rfl rfl rfl ?_; refine J.load1 (v := iV 5) Ty.a3 rfl (fun w1 hw => (cell_of (hw.own ((b18, cb (cHp qa) 82)) (by repeat first | exact .head _ | apply List.Mem.tail | apply List.mem_append_right))).trans rfl) rfl ?_)
            first | refine J.skip rfl rfl rfl rfl rfl ?_ | refine J.skipU rfl rfl rfl rfl ?_ | (refine J.unguard rfl rfl rfl ?_; skip)
            (first | refine J.pickT rfl rfl rfl ?_ | refine J.pickF rfl rfl rfl ?_)
            refine J.nil ?_
            refine JX.thenN (hK50 _ _ ?_)
            first | refine JC.condF rfl ?_ | refine JC.cond rfl (fun h => by first | (exfalso; simp at h; omega) | (simp at h)) (fun _ => ?_)
            refine JC.skip ?_
            refine JX.blockN ?_
            refine JX.thenN (hK48 _ _ ?_)
            refine JC.region ?_
            (first | refine J.addN rfl rfl (by omega) (by omega) rfl ?_ | refine J.bin rfl rfl rfl rfl ?_)
            refine J.move rfl rfl ?_
            refine J.nil ?_
            refine JX.thenN ?_
            refine JX.again ((j + 1, td) : Nat × Nat) ?_ ?_ ?_
            · simp only; omega
            · exact ⟨rfl, rfl, rfl, rfl, rfl, rfl, rfl, rfl, rfl, rfl, rfl, rfl, rfl, trivial⟩
            · exact fun w1 hw => ⟨⟨hltj, by rw [cntO_step hqa, ← htd]; simp [hqp]⟩, hw.drop (List.sublist_cons_self _ _)⟩
        · skip
          have hge2 : j = (deadT (laidL 128 xs) n).1.out.length := by simp at h4; omega
          subst hge2
          rw [List.take_length] at htd
          refine JC.exit ?_
          refine JX.thenE ?_
          refine JX.thenE ?_
          refine JX.blockE ?_
          refine JX.thenN (hK44 _ _ ?_)
          refine JC.seq (fun K51 hK51 => ?_)
          refine JC.seq (fun K52 hK52 => ?_)
          refine JC.region ?_
          refine J.fieldAddr Ty.fd67_1 rfl rfl ?_
          refine J.load1 (v := .slice al (deadT (laidL 128 xs) n).1.lost.length cl) Ty.a65 rfl (fun w1 hw => (cell_of (hw.own ((b8, cb [.slice ao (deadT (laidL 128 xs) n).1.out.length co, .slice al (deadT (laidL 128 xs) n).1.lost.length cl] 67)) (by repeat first | exact .head _ | apply List.Mem.tail | apply List.mem_append_right))).trans rfl) rfl ?_
          refine J.lenS rfl Ty.u65 rfl rfl ?_
          refine J.move rfl rfl ?_
          refine J.nil ?_
          refine JX.thenN (hK52 _ _ ?_)
          refine JC.block ?_
          refine JC.conseq (JC.cov (f := (fun st => [(1, .int .i64 n), (5, .pointer (some ⟨t1, 0, none⟩)), (8, .pointer (some ⟨b8, 0, none⟩)), (9, .int .i64 ((k + 1 : Nat) : Int)), (37, .slice (some ⟨qw, 0, none⟩) (ordE (laidL 128 xs)).length cw), (38, .int .i64 (((ordE (laidL 128 xs)).length : Nat) : Int)), (39, .int .i64 ((i : Nat) : Int)), (11, .pointer (some ⟨b11, 0, none⟩)), (15, .int .i64 (sdE n xe)), (16, .int .i64 ((st.2 : Nat) : Int)), (115, .slice al (deadT (laidL 128 xs) n).1.lost.length cl), (116, .int .i64 (((deadT (laidL 128 xs) n).1.lost.length : Nat) : Int)), (117, .int .i64 ((st.1 : Nat) : Int))]) ((0, td) : Nat × Nat)) ⟨rfl, rfl, rfl, rfl, rfl, rfl, rfl, rfl, rfl, rfl, rfl, rfl, rfl, trivial⟩ (JC.loop (α := Nat × Nat) (fun st => [(1, .int .i64 n), (5, .pointer (some ⟨t1, 0, none⟩)), (8, .pointer (some ⟨b8, 0, none⟩)), (9, .int .i64 ((k + 1 : Nat) : Int)), (37, .slice (some ⟨qw, 0, none⟩) (ordE (laidL 128 xs)).length cw), (38, .int .i64 (((ordE (laidL 128 xs)).length : Nat) : Int)), (39, .int .i64 ((i : Nat) : Int)), (11, .pointer (some ⟨b11, 0, none⟩)), (15, .int .i64 (sdE n xe)), (16, .int .i64 ((st.2 : Nat) : Int)), (115, .slice al (deadT (laidL 128 xs) n).1.lost.length cl), (116, .int .i64 (((deadT (laidL 128 xs) n).1.lost.length : Nat) : Int)), (117, .int .i64 ((st.1 : Nat) : Int))]) (fun st w' => (st.1 ≤ (deadT (laidL 128 xs) n).1.lost.length ∧ st.2 = td + cntL xe.p (sdE n xe) ((deadT (laidL 128 xs) n).1.lost.take st.1)) ∧ St w [] ((b12, cb (cE zE) 55) :: (b11, cb (cE xe) 55) :: (b8, cb [.slice ao (deadT (laidL 128 xs) n).1.out.length co, .slice al (deadT (laidL 128 xs) n).1.lost.length cl] 67) :: (t1, tabO 128 m1) :: (m1, .map es2 ck) :: (lo ++ (ll ++ (lw ++ ((rt, rtabO (.slice ar (ordE (laidL 128 xs)).length cr) 128) :: lr))))) w') (fun st => (deadT (laidL 128 xs) n).1.lost.length - st.1) ((0, td) : Nat × Nat) (fun st => ?_))) (fun w hw => ⟨⟨Nat.zero_le _, rfl⟩, hw⟩)
          obtain ⟨j, tt⟩ := st
          refine JC.pr (fun hx2 => ?_)
          obtain ⟨hj, htt⟩ := hx2
          simp only at hj htt ⊢
          have htj : tt ≤ td + j := by rw [htt]; exact Nat.add_le_add_left (Nat.le_trans (cntL_le _ _ _) (by rw [List.length_take]; omega)) _
          refine JC.seq (fun K53 hK53 => ?_)
          refine JC.region ?_
          refine J.bin rfl rfl rfl rfl ?_
          refine J.nil ?_
          refine JX.thenN (hK53 _ _ ?_)
          refine JC.seq (fun K54 hK54 => ?_)
          refine JC.cond rfl (fun h6 => ?_) (fun h6 => ?_)
          · skip
            have hltj : j < (deadT (laidL 128 xs) n).1.lost.length := by simp at h6; omega
            obtain ⟨qo, rfl⟩ : ∃ q, al = some ⟨q, 0, none⟩ := by
              obtain ⟨q, sp, h9, _⟩ := vec_pos hvl (by omega)
              exact ⟨q, h9⟩
            obtain ⟨pa, hpa⟩ : ∃ x, (deadT (laidL 128 xs) n).1.lost[j]? = some x := ⟨_, List.getElem?_eq_getElem hltj⟩
            have hokd : okT (deadT (laidL 128 xs) n).1 := ok_dead hT.ok
            have hpo := hokd.2 pa (List.mem_of_getElem? hpa)
            refine JC.skip ?_
            refine JX.thenN (hK54 _ _ ?_)
            refine JC.seq (fun K55 hK55 => ?_)
            refine JC.block ?_
            refine JC.seq (fun K56 hK56 => ?_)
            refine JC.region ?_
            refine J.indexAddrS Ty.el65 Ty.s38 rfl rfl (by omega) (by omega) rfl ?_
            refine J.loadA (vs := cP pa) Ty.a38 Ty.s38 rfl rfl (fun w1 hw => rowP_at (vec_rowM hvl hw (fun q hq => by first | (simp [hq]; done) | (simp at hq; simp [hq]; done) | (simp at hq; subst hq; simp))) hpa (by simp)) rfl ?_
            refine J.alloc zPa rfl rfl (fun b20 => ?_)
            refine J.storeW (cs := cP zP) (vs := cP pa) Ty.s38 rfl rfl rfl rfl rfl (one_cP _) .here ?_
            refine J.nil ?_
            refine JX.thenN (hK56 _ _ ?_)
            refine JC.seq (fun K57 hK57 => ?_)
            by_cases hqp : pa = xe.p
            · skip
              by_cases hqn : (sdE n xe) = -1
              · skip
                refine JC.region ?_
                refine J.loadOA (vs := cP pa) Ty.a38 Ty.s38 rfl (.head _) rfl rfl rfl ?_
                refine J.fieldAddr Ty.fd55_0 rfl rfl ?_
                refine J.loadOA (vs := cP xe.p) Ty.a38 Ty.s38 rfl (.tail _ (.tail _ (.head _))) rfl rfl rfl ?_
                refine J.eqP Ty.QP Ty.keyP rfl rfl hpo hxo.1 rfl ?_
                refine J.name 124 rfl (show _ = Value.bool true by simp [hqp]) ?_
                refine J.move rfl rfl ?_
                first | refine J.skip rfl rfl rfl rfl rfl ?_ | refine J.skipU rfl rfl rfl rfl ?_ | (refine J.unguard rfl rfl rfl ?_; refine J.move rfl rfl ?_)
                first | refine J.skip rfl rfl rfl rfl rfl ?_ | refine J.skipU rfl rfl rfl rfl ?_ | (refine J.unguard rfl rfl rfl ?_; refine J.bin rfl rfl rfl rfl ?_; refine J.name 127 rfl (show _ = Value.bool true by simp [hqn]) ?_)
                (first | refine J.pickT rfl rfl rfl ?_ | refine J.pickF rfl rfl rfl ?_)
                refine J.nil ?_
                refine JX.thenN (hK57 _ _ ?_)
                first | refine JC.condT rfl ?_ | refine JC.cond rfl (fun _ => ?_) (fun h => by first | (exfalso; simp at h; omega) | (simp at h))
                refine JC.region ?_
                refine J.move rfl rfl ?_
                refine J.addN rfl rfl (by omega) (by omega) rfl ?_
                refine J.name 130 rfl (show _ = .int .i64 ((tt + 1 : Nat) : Int) by first | (congr 1; omega) | congr 1 | rfl) ?_
                refine J.assign rfl rfl ?_
                refine J.nil ?_
                refine JX.blockN ?_
                refine JX.thenN (hK55 _ _ ?_)
                refine JC.region ?_
                (first | refine J.addN rfl rfl (by omega) (by omega) rfl ?_ | refine J.bin rfl rfl rfl rfl ?_)
                refine J.move rfl rfl ?_
                refine J.nil ?_
                refine JX.thenN ?_
                refine JX.again ((j + 1, tt + 1) : Nat × Nat) ?_ ?_ ?_
                · simp only; omega
                · exact ⟨rfl, rfl, rfl, rfl, rfl, rfl, rfl, rfl, rfl, rfl, rfl, rfl, rfl, trivial⟩
                · exact fun w1 hw => ⟨⟨hltj, by rw [cntL_step hpa, ← Nat.add_assoc, ← htt]; simp [hqp, hqn]⟩, hw.drop (List.sublist_cons_self _ _)⟩
              · skip
                refine JC.region ?_
                refine J.loadOA (vs := cP pa) Ty.a38 Ty.s38 rfl (.head _) rfl rfl rfl ?_
                refine J.fieldAddr Ty.fd55_0 rfl rfl ?_
                refine J.loadOA (vs := cP xe.p) Ty.a38 Ty.s38 rfl (.tail _ (.tail _ (.head _))) rfl rfl rfl ?_
                refine J.eqP Ty.QP Ty.keyP rfl rfl hpo hxo.1 rfl ?_
                refine J.name 124 rfl (show _ = Value.bool true by simp [hqp]) ?_
                refine J.move rfl rfl ?_
                first | refine J.skip rfl rfl rfl rfl rfl ?_ | refine J.skipU rfl rfl rfl rfl ?_ | (refine J.unguard rfl rfl rfl ?_; refine J.move rfl rfl ?_)
                first | refine J.skip rfl rfl rfl rfl rfl ?_ | refine J.skipU rfl rfl rfl rfl ?_ | (refine J.unguard rfl rfl rfl ?_; refine J.bin rfl rfl rfl rfl ?_; refine J.name 127 rfl (show _ = Value.bool false by simp [hqn]) ?_)
                (first | refine J.pickT rfl rfl rfl ?_ | refine J.pickF rfl rfl rfl ?_)
                refine J.nil ?_
                refine JX.thenN (hK57 _ _ ?_)
                first | refine JC.condF rfl ?_ | refine JC.cond rfl (fun h => by first | (exfalso; simp at h; omega) | (simp at h)) (fun _ => ?_)
                refine JC.skip ?_
                refine JX.blockN ?_
                refine JX.thenN (hK55 _ _ ?_)
                refine JC.region ?_
                (first | refine J.addN rfl rfl (by omega) (by omega) rfl ?_ | refine J.bin rfl rfl rfl rfl ?_)
                refine J.move rfl rfl ?_
                refine J.nil ?_
                refine JX.thenN ?_
                refine JX.again ((j + 1, tt) : Nat × Nat) ?_ ?_ ?_
                · simp only; omega
                · exact ⟨rfl, rfl, rfl, rfl, rfl, rfl, rfl, rfl, rfl, rfl, rfl, rfl, rfl, trivial⟩
                · exact fun w1 hw => ⟨⟨hltj, by rw [cntL_step hpa, ← Nat.add_assoc, ← htt]; simp [hqp, hqn]⟩, hw.drop (List.sublist_cons_self _ _)⟩
            · skip
              refine JC.region ?_
              refine J.loadOA (vs := cP pa) Ty.a38 Ty.s38 rfl (.head _) rfl rfl rfl ?_
              refine J.fieldAddr Ty.fd55_0 rfl rfl ?_
              refine J.loadOA (vs := cP xe.p) Ty.a38 Ty.s38 rfl (.tail _ (.tail _ (.head _))) rfl rfl rfl ?_
              refine J.eqP Ty.QP Ty.keyP rfl rfl hpo hxo.1 rfl ?_
              refine J.name 124 rfl (show _ = Value.bool false by simp [hqp]) ?_
              refine J.move rfl rfl ?_
              first | refine J.skip rfl rfl rfl rfl rfl ?_ | refine J.skipU rfl rfl rfl rfl ?_ | (refine J.unguard rfl rfl rfl ?_; refine J.move rfl rfl ?_)
              first | refine J.skip rfl rfl rfl rfl rfl ?_ | refine J.skipU rfl rfl rfl rfl ?_ | (refine J.unguard rfl rfl rfl ?_; skip)
              (first | refine J.pickT rfl rfl rfl ?_ | refine J.pickF rfl rfl rfl ?_)
              refine J.nil ?_
              refine JX.thenN (hK57 _ _ ?_)
              first | refine JC.condF rfl ?_ | refine JC.cond rfl (fun h => by first | (exfalso; simp at h; omega) | (simp at h)) (fun _ => ?_)
              refine JC.skip ?_
              refine JX.blockN ?_
              refine JX.thenN (hK55 _ _ ?_)
              refine JC.region ?_
              (first | refine J.addN rfl rfl (by omega) (by omega) rfl ?_ | refine J.bin rfl rfl rfl rfl ?_)
              refine J.move rfl rfl ?_
              refine J.nil ?_
              refine JX.thenN ?_
              refine JX.again ((j + 1, tt) : Nat × Nat) ?_ ?_ ?_
              · simp only; omega
              · exact ⟨rfl, rfl, rfl, rfl, rfl, rfl, rfl, rfl, rfl, rfl, rfl, rfl, rfl, trivial⟩
              · exact fun w1 hw => ⟨⟨hltj, by rw [cntL_step hpa, ← Nat.add_assoc, ← htt]; simp [hqp]⟩, hw.drop (List.sublist_cons_self _ _)⟩
          · skip
            have hge3 : j = (deadT (laidL 128 xs) n).1.lost.length := by simp at h6; omega
            subst hge3
            rw [List.take_length] at htt
            have hone := dead_tell hT.dist hgood.right hxL hov
            unfold tell at hone
            refine JC.exit ?_
            refine JX.thenE ?_
            refine JX.thenE ?_
            refine JX.blockE ?_
            refine JX.thenN (hK51 _ _ ?_)
            refine JC.seq (fun K58 hK58 => ?_)
            refine JC.region ?_
            refine J.move rfl rfl ?_
            refine J.bin rfl rfl rfl rfl ?_
            refine J.name 133 rfl (show _ = Value.bool false by simp; omega) ?_
            refine J.nil ?_
            refine JX.thenN (hK58 _ _ ?_)
            first | refine JC.condF rfl ?_ | refine JC.cond rfl (fun h => by first | (exfalso; simp at h; omega) | (simp at h)) (fun _ => ?_)
            refine JC.skip ?_
            refine JX.blockN ?_
            refine JX.thenN (hK11 _ _ ?_)
            refine JC.region ?_
            (first | refine J.addN rfl rfl (by omega) (by omega) rfl ?_ | refine J.bin rfl rfl rfl rfl ?_)
            refine J.move rfl rfl ?_
            refine J.nil ?_
            refine JX.thenN ?_
            refine JX.again ((i + 1, k + 1) : Nat × Nat) ?_ ?_ ?_
            · simp only; omega
            · exact ⟨rfl, rfl, rfl, rfl, rfl, rfl, rfl, trivial⟩
            · exact fun w1 hw => ⟨⟨hlt, by show k + 1 = _; rw [viaS_step hxe, ← hk, if_pos hov]⟩, hw.drop (.cons _ (.cons _ (List.Sublist.refl _)))⟩
    | false =>
      refine JC.region ?_
      refine J.move rfl rfl ?_
      refine J.fieldAddr Ty.fd55_0 rfl rfl ?_
      refine J.loadOA (vs := cP xe.p) Ty.a38 Ty.s38 rfl (by repeat first | exact .head _ | apply List.Mem.tail | apply List.mem_append_right) (by exact rfl) rfl rfl ?_
      refine J.callB (v := .tuple #[.agg (cE ((tget (deadT (laidL 128 xs) n).2 xe.p).getD zE)).toArray, .bool (tget (deadT (laidL 128 xs) n).2 xe.p).isSome]) (fun w1 w2 hw hb => hw.step hb) Ty.bd31 rfl rfl (fun w1 hw => get_spec t1 m1 128 (deadT (laidL 128 xs) n).2 es2 ck w1 (St.owns (l1 := [(t1, tabO 128 m1), (m1, .map es2 ck)]) (l := (b11, cb (cE xe) 55) :: (b8, cb [.slice ao (deadT (laidL 128 xs) n).1.out.length co, .slice al (deadT (laidL 128 xs) n).1.lost.length cl] 67) :: (lo ++ (ll ++ (lw ++ ((rt, rtabO (.slice ar (ordE (laidL 128 xs)).length cr) 128) :: lr))))) (hw.perm (by (refine perm_cnt (fun _ => ?_)); simp only [cntB_append, cntB_cons, cntB_nil, Nat.add_zero, Nat.zero_add]; try ac_rfl))) hT2 xe.p hxo.1) ?_
      refine J.name 47 rfl (show _ = Value.tuple #[.agg (cE xe).toArray, .bool true] by rw [dead_kept hT.dist hxL hov]; rfl) ?_
      refine J.move rfl rfl ?_
      refine J.extract rfl rfl rfl ?_
      refine J.extract rfl rfl rfl ?_
      refine J.alloc Ty.zE_ rfl rfl (fun b12 => ?_)
      refine J.storeW (cs := cE zE) (vs := cE xe) Ty.s55 rfl rfl rfl rfl rfl (one_cE _) .here ?_
      refine J.assign rfl rfl ?_
      refine J.nil ?_
      refine JX.thenN (hK13 _ _ ?_)
      refine JC.seq (fun K59 hK59 => ?_)
      by_cases hn0 : 0 ≤ n
      · skip
        have hvb : ¬ xe.na = n ∧ ¬ xe.nb = n := by simpa [viaB, hn0] using hov
        obtain ⟨hna, hnb⟩ := hvb
        refine JC.region ?_
        refine J.move rfl rfl ?_
        refine J.bin rfl rfl rfl rfl ?_
        refine J.name 51 rfl (show _ = Value.bool true by simp; omega) ?_
        refine J.move rfl rfl ?_
        first | refine J.skip rfl rfl rfl rfl rfl ?_ | refine J.skipU rfl rfl rfl rfl ?_ | (refine J.unguard rfl rfl rfl ?_; refine J.fieldAddr Ty.fd55_3 rfl rfl ?_)
        first | refine J.skip rfl rfl rfl rfl rfl ?_ | refine J.skipU rfl rfl rfl rfl ?_ | (refine J.unguard rfl rfl rfl ?_; refine J.load1 (v := .int .i64 xe.na) Ty.a3 rfl (fun w1 hw => (cell_of (hw.own ((b11, cb (cE xe) 55)) (by repeat first | exact .head _ | apply List.Mem.tail | apply List.mem_append_right))).trans rfl) rfl ?_)
        first | refine J.skip rfl rfl rfl rfl rfl ?_ | refine J.skipU rfl rfl rfl rfl ?_ | (refine J.unguard rfl rfl rfl ?_; refine J.move rfl rfl ?_)
        first | refine J.skip rfl rfl rfl rfl rfl ?_ | refine J.skipU rfl rfl rfl rfl ?_ | (refine J.unguard rfl rfl rfl ?_; refine J.bin rfl rfl rfl rfl ?_; refine J.name 56 rfl (show _ = Value.bool false by simp [hna]) ?_)
        first | refine J.skip rfl rfl rfl rfl rfl ?_ | refine J.skipU rfl rfl rfl rfl ?_ | (refine J.unguard rfl rfl rfl ?_; refine J.move rfl rfl ?_)
        first | refine J.skip rfl rfl rfl rfl rfl ?_ | refine J.skipU rfl rfl rfl rfl ?_ | (refine J.unguard rfl rfl rfl ?_; refine J.fieldAddr Ty.fd55_4 rfl rfl ?_)
        first | refine J.skip rfl rfl rfl rfl rfl ?_ | refine J.skipU rfl rfl rfl rfl ?_ | (refine J.unguard rfl rfl rfl ?_; refine J.load1 (v := .int .i64 xe.nb) Ty.a3 rfl (fun w1 hw => (cell_of (hw.own ((b11, cb (cE xe) 55)) (by repeat first | exact .head _ | apply List.Mem.tail | apply List.mem_append_right))).trans rfl) rfl ?_)
        first | refine J.skip rfl rfl rfl rfl rfl ?_ | refine J.skipU rfl rfl rfl rfl ?_ | (refine J.unguard rfl rfl rfl ?_; refine J.move rfl rfl ?_)
        first | refine J.skip rfl rfl rfl rfl rfl ?_ | refine J.skipU rfl rfl rfl rfl ?_ | (refine J.unguard rfl rfl rfl ?_; refine J.bin rfl rfl rfl rfl ?_; refine J.name 61 rfl (show _ = Value.bool false by simp [hnb]) ?_)
        first | refine J.skip rfl rfl rfl rfl rfl ?_ | refine J.skipU rfl rfl rfl rfl ?_ | (refine J.unguard rfl rfl rfl ?_; (first | refine J.pickT rfl rfl rfl ?_ | refine J.pickF rfl rfl rfl ?_))
        (first | refine J.pickT rfl rfl rfl ?_ | refine J.pickF rfl rfl rfl ?_)
        refine J.assign rfl rfl ?_
        refine J.nil ?_
        refine JX.thenN (hK59 _ _ ?_)
        refine JC.seq (fun K60 hK60 => ?_)
        refine JC.seq (fun K61 hK61 => ?_)
        refine JC.region ?_
        refine J.move rfl rfl ?_
        refine J.move rfl rfl ?_
        refine J.eqBool (.inl rfl) Ty.u4 rfl rfl rfl ?_
        refine J.move rfl rfl ?_
        first | refine J.skip rfl rfl rfl rfl rfl ?_ | refine J.skipU rfl rfl rfl rfl ?_ | (refine J.unguard rfl rfl rfl ?_; refine J.move rfl rfl ?_)
        first | refine J.skip rfl rfl rfl rfl rfl ?_ | refine J.skipU rfl rfl rfl rfl ?_ | (refine J.unguard rfl rfl rfl ?_; refine J.move rfl rfl ?_)
        first | refine J.skip rfl rfl rfl rfl rfl ?_ | refine J.skipU rfl rfl rfl rfl ?_ | (refine J.unguard rfl rfl rfl ?_; refine J.loadOA (vs := cE xe) Ty.a55 Ty.s55 rfl (.head _) rfl rfl rfl ?_)
        first | refine J.skip rfl rfl rfl rfl rfl ?_ | refine J.skipU rfl rfl rfl rfl ?_ | (refine J.unguard rfl rfl rfl ?_; refine J.loadOA (vs := cE xe) Ty.a55 Ty.s55 rfl (.tail _ (.head _)) rfl rfl rfl ?_)
        first | refine J.skip rfl rfl rfl rfl rfl ?_ | refine J.skipU rfl rfl rfl rfl ?_ | (refine J.unguard rfl rfl rfl ?_; refine J.neE Ty.QE Ty.keyE rfl rfl hxo hxo rfl ?_; refine J.name 72 rfl (show _ = Value.bool false by simp) ?_)
        first | refine J.skip rfl rfl rfl rfl rfl ?_ | refine J.skipU rfl rfl rfl rfl ?_ | (refine J.unguard rfl rfl rfl ?_; (first | refine J.pickT rfl rfl rfl ?_ | refine J.pickF rfl rfl rfl ?_))
        (first | refine J.pickT rfl rfl rfl ?_ | refine J.pickF rfl rfl rfl ?_)
        refine J.nil ?_
        refine JX.thenN (hK61 _ _ ?_)
        first | refine JC.condF rfl ?_ | refine JC.cond rfl (fun h => by first | (exfalso; simp at h; omega) | (simp at h)) (fun _ => ?_)
        refine JC.skip ?_
        refine JX.thenN (hK60 _ _ ?_)
        refine JC.seq (fun K62 hK62 => ?_)
        refine JC.seq (fun K63 hK63 => ?_)
        refine JC.region ?_
        refine J.move rfl rfl ?_
        refine J.not rfl rfl ?_
        refine J.nil ?_
        refine JX.thenN (hK63 _ _ ?_)
        first | refine JC.condT rfl ?_ | refine JC.cond rfl (fun _ => ?_) (fun h => by first | (exfalso; simp at h; omega) | (simp at h))
        refine JC.exit ?_
        refine JX.thenE ?_
        refine JX.blockE ?_
        refine JX.thenN (hK11 _ _ ?_)
        refine JC.region ?_
        (first | refine J.addN rfl rfl (by omega) (by omega) rfl ?_ | refine J.bin rfl rfl rfl rfl ?_)
        refine J.move rfl rfl ?_
        refine J.nil ?_
        refine JX.thenN ?_
        refine JX.again ((i + 1, k) : Nat × Nat) ?_ ?_ ?_
        · simp only; omega
        · exact ⟨rfl, rfl, rfl, rfl, rfl, rfl, rfl, trivial⟩
        · exact fun w1 hw => ⟨⟨hlt, by show k = _; rw [viaS_step hxe, ← hk, if_neg (by rw [hov]; decide)]; rfl⟩, hw.drop (.cons _ (.cons _ (List.Sublist.refl _)))⟩
      · skip
        refine JC.region ?_
        refine J.move rfl rfl ?_
        refine J.bin rfl rfl rfl rfl ?_
        refine J.name 51 rfl (show _ = Value.bool false by simp; omega) ?_
        refine J.move rfl rfl ?_
        first | refine J.skip rfl rfl rfl rfl rfl ?_ | refine J.skipU rfl rfl rfl rfl ?_ | (refine J.unguard rfl rfl rfl ?_; refine J.fieldAddr Ty.fd55_3 rfl rfl ?_)
        first | refine J.skip rfl rfl rfl rfl rfl ?_ | refine J.skipU rfl rfl rfl rfl ?_ | (refine J.unguard rfl rfl rfl ?_; refine J.load1 (v := .int .i64 xe.na) Ty.a3 rfl (fun w1 hw => (cell_of (hw.own ((b11, cb (cE xe) 55)) (by repeat first | exact .head _ | apply List.Mem.tail | apply List.mem_append_right))).trans rfl) rfl ?_)
        first | refine J.skip rfl rfl rfl rfl rfl ?_ | refine J.skipU rfl rfl rfl rfl ?_ | (refine J.unguard rfl rfl rfl ?_; refine J.move rfl rfl ?_)
        first | refine J.skip rfl rfl rfl rfl rfl ?_ | refine J.skipU rfl rfl rfl rfl ?_ | (refine J.unguard rfl rfl rfl ?_; skip)
        first | refine J.skip rfl rfl rfl rfl rfl ?_ | refine J.skipU rfl rfl rfl rfl ?_ | (refine J.unguard rfl rfl rfl ?_; refine J.move rfl rfl ?_)
        first | refine J.skip rfl rfl rfl rfl rfl ?_ | refine J.skipU rfl rfl rfl rfl ?_ | (refine J.unguard rfl rfl rfl ?_; refine J.fieldAddr Ty.fd55_4 rfl rfl ?_)
        first | refine J.skip rfl rfl rfl rfl rfl ?_ | refine J.skipU rfl rfl rfl rfl ?_ | (refine J.unguard rfl rfl rfl ?_; refine J.load1 (v := .int .i64 xe.nb) Ty.a3 rfl (fun w1 hw => (cell_of (hw.own ((b11, cb (cE xe) 55)) (by repeat first | exact .head _ | apply List.Mem.tail | apply List.mem_append_right))).trans rfl) rfl ?_)
        first | refine J.skip rfl rfl rfl rfl rfl ?_ | refine J.skipU rfl rfl rfl rfl ?_ | (refine J.unguard rfl rfl rfl ?_; refine J.move rfl rfl ?_)
        first | refine J.skip rfl rfl rfl rfl rfl ?_ | refine J.skipU rfl rfl rfl rfl ?_ | (refine J.unguard rfl rfl rfl ?_; skip)
        first | refine J.skip rfl rfl rfl rfl rfl ?_ | refine J.skipU rfl rfl rfl rfl ?_ | (refine J.unguard rfl rfl rfl ?_; (first | refine J.pickT rfl rfl rfl ?_ | refine J.pickF rfl rfl rfl ?_))
        (first | refine J.pickT rfl rfl rfl ?_ | refine J.pickF rfl rfl rfl ?_)
        refine J.assign rfl rfl ?_
        refine J.nil ?_
        refine JX.thenN (hK59 _ _ ?_)
        refine JC.seq (fun K64 hK64 => ?_)
        refine JC.seq (fun K65 hK65 => ?_)
        refine JC.region ?_
        refine J.move rfl rfl ?_
        refine J.move rfl rfl ?_
        refine J.eqBool (.inl rfl) Ty.u4 rfl rfl rfl ?_
        refine J.move rfl rfl ?_
        first | refine J.skip rfl rfl rfl rfl rfl ?_ | refine J.skipU rfl rfl rfl rfl ?_ | (refine J.unguard rfl rfl rfl ?_; refine J.move rfl rfl ?_)
        first | refine J.skip rfl rfl rfl rfl rfl ?_ | refine J.skipU rfl rfl rfl rfl ?_ | (refine J.unguard rfl rfl rfl ?_; refine J.move rfl rfl ?_)
        first | refine J.skip rfl rfl rfl rfl rfl ?_ | refine J.skipU rfl rfl rfl rfl ?_ | (refine J.unguard rfl rfl rfl ?_; refine J.loadOA (vs := cE xe) Ty.a55 Ty.s55 rfl (.head _) rfl rfl rfl ?_)
        first | refine J.skip rfl rfl rfl rfl rfl ?_ | refine J.skipU rfl rfl rfl rfl ?_ | (refine J.unguard rfl rfl rfl ?_; refine J.loadOA (vs := cE xe) Ty.a55 Ty.s55 rfl (.tail _ (.head _)) rfl rfl rfl ?_)
        first | refine J.skip rfl rfl rfl rfl rfl ?_ | refine J.skipU rfl rfl rfl rfl ?_ | (refine J.unguard rfl rfl rfl ?_; refine J.neE Ty.QE Ty.keyE rfl rfl hxo hxo rfl ?_; refine J.name 72 rfl (show _ = Value.bool false by simp) ?_)
        first | refine J.skip rfl rfl rfl rfl rfl ?_ | refine J.skipU rfl rfl rfl rfl ?_ | (refine J.unguard rfl rfl rfl ?_; (first | refine J.pickT rfl rfl rfl ?_ | refine J.pickF rfl rfl rfl ?_))
        (first | refine J.pickT rfl rfl rfl ?_ | refine J.pickF rfl rfl rfl ?_)
        refine J.nil ?_
        refine JX.thenN (hK65 _ _ ?_)
        first | refine JC.condF rfl ?_ | refine JC.cond rfl (fun h => by first | (exfalso; simp at h; omega) | (simp at h)) (fun _ => ?_)
        refine JC.skip ?_
        refine JX.thenN (hK64 _ _ ?_)
        refine JC.seq (fun K66 hK66 => ?_)
        refine JC.seq (fun K67 hK67 => ?_)
        refine JC.region ?_
        refine J.move rfl rfl ?_
        refine J.not rfl rfl ?_
        refine J.nil ?_
        refine JX.thenN (hK67 _ _ ?_)
        first | refine JC.condT rfl ?_ | refine JC.cond rfl (fun _ => ?_) (fun h => by first | (exfalso; simp at h; omega) | (simp at h))
        refine JC.exit ?_
        refine JX.thenE ?_
        refine JX.blockE ?_
        refine JX.thenN (hK11 _ _ ?_)
        refine JC.region ?_
        (first | refine J.addN rfl rfl (by omega) (by omega) rfl ?_ | refine J.bin rfl rfl rfl rfl ?_)
        refine J.move rfl rfl ?_
        refine J.nil ?_
        refine JX.thenN ?_
        refine JX.again ((i + 1, k) : Nat × Nat) ?_ ?_ ?_
        · simp only; omega
        · exact ⟨rfl, rfl, rfl, rfl, rfl, rfl, rfl, trivial⟩
        · exact fun w1 hw => ⟨⟨hlt, by show k = _; rw [viaS_step hxe, ← hk, if_neg (by rw [hov]; decide)]; rfl⟩, hw.drop (.cons _ (.cons _ (List.Sublist.refl _)))⟩
  · skip
    have hge : i = (ordE (laidL 128 xs)).length := by simp at h1; omega
    subst hge
    rw [List.take_length] at hk
    refine JC.exit ?_
    refine JX.thenE ?_
    refine JX.thenE ?_
    refine JX.blockE ?_
    refine JX.thenN (hK7 _ _ ?_)
    refine JC.seq (fun K68 hK68 => ?_)
    refine JC.region ?_
    refine J.fieldAddr Ty.fd67_0 rfl rfl ?_
    refine J.load1 (v := .slice ao (deadT (laidL 128 xs) n).1.out.length co) Ty.a64 rfl (fun w1 hw => (cell_of (hw.own ((b8, cb [.slice ao (deadT (laidL 128 xs) n).1.out.length co, .slice al (deadT (laidL 128 xs) n).1.lost.length cl] 67)) (by repeat first | exact .head _ | apply List.Mem.tail | apply List.mem_append_right))).trans rfl) rfl ?_
    refine J.lenS rfl Ty.u64 rfl rfl ?_
    refine J.fieldAddr Ty.fd67_1 rfl rfl ?_
    refine J.load1 (v := .slice al (deadT (laidL 128 xs) n).1.lost.length cl) Ty.a65 rfl (fun w1 hw => (cell_of (hw.own ((b8, cb [.slice ao (deadT (laidL 128 xs) n).1.out.length co, .slice al (deadT (laidL 128 xs) n).1.lost.length cl] 67)) (by repeat first | exact .head _ | apply List.Mem.tail | apply List.mem_append_right))).trans rfl) rfl ?_
    refine J.lenS rfl Ty.u65 rfl rfl ?_
    (first | refine J.addN rfl rfl (by omega) (by omega) rfl ?_ | refine J.bin rfl rfl rfl rfl ?_)
    refine J.move rfl rfl ?_
    refine J.bin rfl rfl rfl rfl ?_
    refine J.name 143 rfl (show _ = Value.bool true by simp; omega) ?_
    refine J.move rfl rfl ?_
    first | refine J.skip rfl rfl rfl rfl rfl ?_ | refine J.skipU rfl rfl rfl rfl ?_ | (refine J.unguard rfl rfl rfl ?_; refine J.move rfl rfl ?_)
    first | refine J.skip rfl rfl rfl rfl rfl ?_ | refine J.skipU rfl rfl rfl rfl ?_ | (refine J.unguard rfl rfl rfl ?_; refine J.move rfl rfl ?_)
    first | refine J.skip rfl rfl rfl rfl rfl ?_ | refine J.skipU rfl rfl rfl rfl ?_ | (refine J.unguard rfl rfl rfl ?_; refine J.perm ([] ++ ((b8, cb [.slice ao (deadT (laidL 128 xs) n).1.out.length co, .slice al (deadT (laidL 128 xs) n).1.lost.length cl] 67) :: (t1, tabO 128 m1) :: (m1, .map es2 ck) :: (lo ++ (ll ++ (lw ++ ((rt, rtabO (.slice ar (ordE (laidL 128 xs)).length cr) 128) :: lr)))))) (.refl _) ?_; refine J.callS (α := Value × List (Nat × Obj)) (V := (·.1)) (Pr := fun x => Vec 55 51 x.1 ((ordE (deadT (laidL 128 xs) n).2).filter (viaB n)).length (fE ((ordE (deadT (laidL 128 xs) n).2).filter (viaB n))) x.2) (L := (·.2)) (l1 := []) Ty.bd39 rfl rfl (fun w1 hw => via_spec t1 m1 128 ((deadT (laidL 128 xs) n).2) es2 ck w1 (hw.own _ (.tail _ (.head _))) (hw.own _ (.tail _ (.tail _ (.head _)))) hT2 (by omega) n) (fun x hvz => ?_); obtain ⟨vz, lz⟩ := x; simp only at hvz ⊢; obtain ⟨az, cz, rfl, hcz⟩ := hvz.form)
    first | refine J.skip rfl rfl rfl rfl rfl ?_ | refine J.skipU rfl rfl rfl rfl ?_ | (refine J.unguard rfl rfl rfl ?_; refine J.lenS rfl Ty.u25 rfl rfl ?_)
    first | refine J.skip rfl rfl rfl rfl rfl ?_ | refine J.skipU rfl rfl rfl rfl ?_ | (refine J.unguard rfl rfl rfl ?_; refine J.bin rfl rfl rfl rfl ?_; refine J.name 149 rfl (show _ = Value.bool true by rw [dead_via hT.dist]; rfl) ?_)
    (first | refine J.pickT rfl rfl rfl ?_ | refine J.pickF rfl rfl rfl ?_)
    refine J.assign rfl rfl ?_
    refine J.nil ?_
    refine JX.thenN (hK68 _ _ ?_)
    refine JC.ret ?_
    refine JX.ret1 rfl rfl (fun w hw => ?_)
    exact ⟨rfl, (hw.drop (List.nil_sublist _)).below⟩

theorem tearSweeps_walk (w : World) (o : Sl EV) (ho : RSl 51 72 REnt w [o.v] o) (n : Int) (hf : (Lit.int .i64 n).wf = true) :
    Calls Try.prog 12 [o.v, .int .i64 n].toArray w fun r w' => r = .returned (.bool true) ∧ Bel w w' := tearSweeps_spec o.v o.xs w (rslE ho) (rslE_ok ho) (rslE_len ho) n
end Go.Proofs.Ytohldionclgljaa
