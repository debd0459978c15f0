/-
  The laws of layer 6 (slate): walks, second part.
-/
import Derived.Test.YtlmbpfgiadbjaaaSh
import Derived.Test.YtlmbpfgiadbjaaaSp
namespace Go.Proofs.Ytlmbpfgiadbjaaa
open Go.J Go.RowKit
set_option linter.unusedVariables false
set_option linter.unusedSimpArgs false
set_option maxRecDepth 8000
theorem LogI.bounds {n : Nat} {q : LogP} {σ : DS} (h : LogI n q σ) (hn : n ≤ 4096) : 3 ≤ n ∧ q.gen < 9223372036854775808 ∧ q.used ≤ n - 2 ∧ q.cnt ≤ q.used ∧ q.recs.length = q.cnt := openP_len h.open_ hn
structure KSt where
  i : Nat
  q : LogP
  down : Bool
  σ : DS
  vs : List Value
  v9 : Value
  lv : List (Nat × Obj)
  lps : List (Nat × Obj)
/-- a log is opened, of a disk of which it is known what stands there -/
theorem open_good (d s n : Nat) (q : LogP) (σ : DS) (w : World) (hw0 : Own w [(d, dkO s n σ.p σ.k), (s, dkS σ.B)]) (h : LogI n q σ) (hn : n ≤ 4096) :
    Calls Try.prog 26 [.pointer (some ⟨d, 0, none⟩)].toArray w fun r w' => ∃ x : Nat × Value × List Value × List (Nat × Obj) × List (Nat × Obj), r = .returned (.tuple #[.pointer (some ⟨x.1, 0, none⟩), x.2.1, .int .i64 0]) ∧ (Vec 28 1 x.2.1 q.recs.length x.2.2.1 x.2.2.2.1 ∧ Recs 5 x.2.2.1 q.recs x.2.2.2.2) ∧ St w [] ((x.1, lgO d q false) :: (x.2.2.2.1 ++ x.2.2.2.2)) w' := by
  have h1 := open_spec d s n σ.B σ.p σ.k w hw0 h.len hn
  rw [h.open_] at h1
  exact h1.mono fun _ _ ⟨b, v, vs, lv, lps, e1, e2, e3, e4⟩ => ⟨(b, v, vs, lv, lps), e1, ⟨e2, e3⟩, e4⟩

theorem slateKeeps_walk (w : World) (o : Sl (Sl UInt8)) (ho : RSl 1 24 (RSl 1 1 RU8) w [o.v] o) (pw : Int) (w1 : (Lit.int .i64 pw).wf = true) :
    Calls Try.prog 10 [o.v, .int .i64 pw].toArray w fun r w' => r = .returned (.bool true) ∧ Below w.heap.size w w' := by
  have hol0 := reach_len6 ho
  refine calls_of_J (args := [o.v, .int .i64 pw]) (e := [(0, o.v), (1, .int .i64 pw)]) Try.func10 rfl rfl ⟨rfl, rfl, trivial⟩ (St.start w) ?_
  refine JC.seq (fun K0 hK0 => ?_)
  refine JC.region ?_
  refine J.assign rfl rfl ?_
  refine J.nil ?_
  refine JX.thenN (hK0 _ _ ?_)
  refine JC.seq (fun K1 hK1 => ?_)
  refine JC.region ?_
  refine J.callS (l1 := []) Ty.bd14 rfl rfl (fun w1 hw => new_spec _ w1) (fun x _ => ?_)
  obtain ⟨d, s⟩ := x
  simp only [List.append_nil, show (min (max (400 : Int) 0) 4096).toNat = 400 from rfl]
  obtain ⟨σ0, hσ0⟩ : ∃ σ0 : DS, σ0 = (⟨List.replicate 25600 0, -1, 0⟩ : DS) := ⟨_, rfl⟩
  have hI0 : LogI 400 ⟨0, 0, 0, []⟩ σ0 := by subst hσ0; exact ⟨List.length_replicate, openP_zero (n := 400) (by omega) (by omega), by simp only; omega⟩
  have hk00 : σ0.k = 0 := by rw [hσ0]
  refine J.perm ((d, dkO s 400 σ0.p σ0.k) :: (s, dkS σ0.B) :: []) (by subst hσ0; exact .refl _) ?_
  refine J.assign rfl rfl ?_
  refine J.nil ?_
  refine JX.thenN (hK1 _ _ ?_)
  refine JC.seq (fun K2 hK2 => ?_)
  refine JC.region ?_
  refine J.move rfl rfl ?_
  refine J.perm ([] ++ ((d, dkO s 400 σ0.p σ0.k) :: (s, dkS σ0.B) :: [])) (by (refine perm_cnt (fun _ => ?_)); simp only [cntB_append, cntB_cons, cntB_nil, Nat.add_zero, Nat.zero_add]; try ac_rfl) ?_
  refine J.callS (l1 := []) Ty.bd26 rfl rfl (fun w1 hw => open_good d s 400 ⟨0, 0, 0, []⟩ σ0 w1 (St.owns (l1 := [(d, dkO s 400 σ0.p σ0.k), (s, dkS σ0.B)]) (l := []) (hw.perm (by (refine perm_cnt (fun _ => ?_)); simp only [cntB_append, cntB_cons, cntB_nil, Nat.add_zero, Nat.zero_add]; try ac_rfl))) hI0 (by omega)) (fun x hx1 => ?_)
  obtain ⟨lb, v0, vs0, lv0, lps0⟩ := x
  obtain ⟨hvlb, hrlb⟩ := hx1
  simp only at hvlb hrlb ⊢
  refine J.perm ((lb, lgO d ⟨0, 0, 0, []⟩ false) :: (d, dkO s 400 σ0.p σ0.k) :: (s, dkS σ0.B) :: (lv0 ++ lps0)) (by (refine perm_cnt (fun _ => ?_)); simp only [cntB_append, cntB_cons, cntB_nil, Nat.add_zero, Nat.zero_add]; try ac_rfl) ?_
  obtain ⟨a00, c00, rfl, _⟩ := hvlb.form
  refine J.move rfl rfl ?_
  refine J.extract rfl rfl rfl ?_
  refine J.extract rfl rfl rfl ?_
  refine J.extract rfl rfl rfl ?_
  refine J.assign rfl rfl ?_
  refine J.assign rfl rfl ?_
  refine J.assign rfl rfl ?_
  refine J.nil ?_
  refine JX.thenN (hK2 _ _ ?_)
  refine JC.seq (fun K3 hK3 => ?_)
  refine JC.seq (fun K4 hK4 => ?_)
  refine JC.region ?_
  refine J.move rfl rfl ?_
  refine J.eqNil Ty.u23 rfl rfl rfl ?_
  refine J.move rfl rfl ?_
  first
    | (refine J.skip rfl rfl rfl rfl rfl ?_)
    | (refine J.skipU rfl rfl rfl rfl ?_)
    | (refine J.unguard rfl rfl rfl ?_; refine J.move rfl rfl ?_)
  first
    | (refine J.skip rfl rfl rfl rfl rfl ?_)
    | (refine J.skipU rfl rfl rfl rfl ?_)
    | (refine J.unguard rfl rfl rfl ?_; refine J.eqNil Ty.u48 rfl rfl rfl ?_)
  (first | refine J.pickT rfl rfl rfl ?_ | refine J.pickF rfl rfl rfl ?_)
  refine J.move rfl rfl ?_
  first
    | (refine J.skip rfl rfl rfl rfl rfl ?_)
    | (refine J.skipU rfl rfl rfl rfl ?_)
    | (refine J.unguard rfl rfl rfl ?_; refine J.move rfl rfl ?_)
  first
    | (refine J.skip rfl rfl rfl rfl rfl ?_)
    | (refine J.skipU rfl rfl rfl rfl ?_)
    | (refine J.unguard rfl rfl rfl ?_; refine J.bin rfl rfl rfl rfl ?_)
  (first | refine J.pickT rfl rfl rfl ?_ | refine J.pickF rfl rfl rfl ?_)
  refine J.move rfl rfl ?_
  first
    | (refine J.skip rfl rfl rfl rfl rfl ?_)
    | (refine J.skipU rfl rfl rfl rfl ?_)
    | (refine J.unguard rfl rfl rfl ?_; refine J.callB (fun w1 w2 hw hb => hw.step hb) Ty.bd27 rfl rfl (fun w1 hw => fixed6 w1) ?_)
  first
    | (refine J.skip rfl rfl rfl rfl rfl ?_)
    | (refine J.skipU rfl rfl rfl rfl ?_)
    | (refine J.unguard rfl rfl rfl ?_; refine J.not rfl rfl ?_)
  (first | refine J.pickT rfl rfl rfl ?_ | refine J.pickF rfl rfl rfl ?_)
  refine J.nil ?_
  refine JX.thenN (hK4 _ _ ?_)
  first | refine JC.condF rfl ?_ | refine JC.cond rfl (fun h => by first | (exfalso; simp at h; omega) | (simp at h)) (fun _ => ?_)
  refine JC.skip ?_
  refine JX.thenN (hK3 _ _ ?_)
  refine JC.seq (fun K5 hK5 => ?_)
  refine JC.region ?_
  refine J.move rfl rfl ?_
  refine J.move rfl rfl ?_
  refine J.convInt Ty.u3 Ty.u54 rfl rfl ?_
  refine J.bin rfl rfl rfl rfl ?_
  refine J.convInt Ty.u54 Ty.u3 rfl rfl ?_
  refine J.name 40 rfl (umod pw 200 (by omega) (by omega)) ?_
  obtain ⟨V, hV⟩ : ∃ V : Nat, (pw % 18446744073709551616 % ((200 : Nat) : Int)).toNat = V := ⟨_, rfl⟩
  have hV2 := umod_lt pw 200 (by omega)
  rw [hV] at hV2 ⊢
  refine J.perm ([(d, dkO s 400 σ0.p σ0.k)] ++ ((lb, lgO d ⟨0, 0, 0, []⟩ false) :: (s, dkS σ0.B) :: (lv0 ++ lps0))) (by (refine perm_cnt (fun _ => ?_)); simp only [cntB_append, cntB_cons, cntB_nil, Nat.add_zero, Nat.zero_add]; try ac_rfl) ?_
  refine J.callT (l1 := [(d, dkO s 400 σ0.p σ0.k)]) (L := [(d, dkO s 400 (max ((V : Nat) : Int) (-1)) σ0.k)]) Ty.bd19 rfl rfl (fun w1 hw => power_spec d s 400 σ0.p σ0.k ((V : Nat) : Int) w1 hw.owns) ?_
  obtain ⟨σ1, hσ1⟩ : ∃ σ1 : DS, σ1 = ⟨σ0.B, max ((V : Nat) : Int) (-1), σ0.k⟩ := ⟨_, rfl⟩
  have hI1 : LogI 400 ⟨0, 0, 0, []⟩ σ1 := by subst hσ1; exact ⟨hI0.len, hI0.open_, by simp only; omega⟩
  refine J.perm ((lb, lgO d ⟨0, 0, 0, []⟩ false) :: (d, dkO s 400 σ1.p σ1.k) :: (s, dkS σ1.B) :: (lv0 ++ lps0)) (by subst hσ1; exact (by (refine perm_cnt (fun _ => ?_)); simp only [cntB_append, cntB_cons, cntB_nil, Nat.add_zero, Nat.zero_add]; try ac_rfl)) ?_
  refine J.nil ?_
  refine JX.thenN (hK5 _ _ ?_)
  refine JC.seq (fun K6 hK6 => ?_)
  refine JC.region ?_
  refine J.assign rfl rfl ?_
  refine J.nil ?_
  refine JX.thenN (hK6 _ _ ?_)
  refine JC.seq (fun K7 hK7 => ?_)
  refine JC.seq (fun K8 hK8 => ?_)
  refine JC.region ?_
  refine J.move rfl rfl ?_
  refine J.lenS rfl Ty.u47 rfl rfl ?_
  refine J.move rfl rfl ?_
  refine J.nil ?_
  refine JX.thenN (hK8 _ _ ?_)
  refine JC.block ?_
  refine JC.conseq (JC.cov (f := (fun st => [(5, .pointer (some ⟨d, 0, none⟩)), (6, .pointer (some ⟨lb, 0, none⟩)), (9, st.v9), (42, o.v), (43, .int .i64 ((o.xs.length : Nat) : Int)), (44, .int .i64 ((st.i : Nat) : Int))]) (⟨0, ⟨0, 0, 0, []⟩, false, σ1, [], .slice none 0 0, [], []⟩ : KSt)) ⟨rfl, rfl, rfl, rfl, rfl, rfl, trivial⟩ (JC.loop (α := KSt) (fun st => [(5, .pointer (some ⟨d, 0, none⟩)), (6, .pointer (some ⟨lb, 0, none⟩)), (9, st.v9), (42, o.v), (43, .int .i64 ((o.xs.length : Nat) : Int)), (44, .int .i64 ((st.i : Nat) : Int))]) (fun st w' => (st.i ≤ o.xs.length ∧ st.i ≤ 61 ∧ LogI 400 st.q st.σ ∧ st.q.gen ≤ st.i ∧ 0 ≤ st.σ.k ∧ st.σ.k ≤ 19 * ((st.i : Nat) : Int) ∧ Vec 28 1 st.v9 st.q.recs.length st.vs st.lv ∧ Recs 5 st.vs st.q.recs st.lps) ∧ St w [] ((lb, lgO d st.q st.down) :: (d, dkO s 400 st.σ.p st.σ.k) :: (s, dkS st.σ.B) :: (st.lv ++ st.lps)) w') (fun st => o.xs.length - st.i) (⟨0, ⟨0, 0, 0, []⟩, false, σ1, [], .slice none 0 0, [], []⟩ : KSt) (fun st => ?_))) (fun w hw => ⟨⟨Nat.zero_le _, by show 0 ≤ 61; omega, hI1, Nat.le_refl _, by subst hσ1; show 0 ≤ σ0.k; omega, by subst hσ1; show σ0.k ≤ 19 * ((0 : Nat) : Int); omega, Vec.nil _ _, .nil⟩, (hw.perm (l' := (lv0 ++ lps0) ++ ((lb, lgO d ⟨0, 0, 0, []⟩ false) :: (d, dkO s 400 σ1.p σ1.k) :: (s, dkS σ1.B) :: ([] ++ []))) (by (refine perm_cnt (fun _ => ?_)); simp only [cntB_append, cntB_cons, cntB_nil, Nat.add_zero, Nat.zero_add]; try ac_rfl)).drop (List.sublist_append_right _ _)⟩)
  obtain ⟨i, q, down, σ, vs, v9, lv, lps⟩ := st
  refine JC.pr (fun hx => ?_)
  obtain ⟨hi, hi2, hI, hg, hk, hk3, hvo, hro⟩ := hx
  simp only at hi hi2 hI hg hk hk3 hvo hro ⊢
  refine JC.seq (fun K9 hK9 => ?_)
  refine JC.region ?_
  refine J.bin rfl rfl rfl rfl ?_
  refine J.nil ?_
  refine JX.thenN (hK9 _ _ ?_)
  refine JC.seq (fun K10 hK10 => ?_)
  refine JC.cond rfl (fun h1 => ?_) (fun h1 => ?_)
  · skip
    have hlt : i < o.xs.length := by simp at h1; omega
    obtain ⟨ob, oo, oc, hoa, hol, hocc, hor⟩ := ho.at hlt
    generalize o.xs[i] = z at hor
    obtain rfl : oc = [z.v] := hor.1
    have hzr := hor.row
    have hzl := reach_len6 hor
    refine JC.skip ?_
    refine JX.thenN (hK10 _ _ ?_)
    refine JC.seq (fun K11 hK11 => ?_)
    refine JC.block ?_
    refine JC.seq (fun K12 hK12 => ?_)
    refine JC.region ?_
    refine J.move rfl rfl ?_
    refine J.name 42 rfl (show o.v = Value.slice (some ⟨ob, oo, none⟩) o.xs.length o.c by simp only [Sl.v, hoa]) ?_
    refine J.indexAddrS Ty.el47 Ty.s28 rfl rfl (by omega) (by omega) rfl ?_
    refine J.name 42 rfl (show Value.slice (some ⟨ob, oo, none⟩) o.xs.length o.c = o.v by simp only [Sl.v, hoa]) ?_
    refine J.loadR (v := z.v) Ty.a28 rfl (by have := hocc 0 (by simp); simpa using this) (by simp) rfl ?_
    refine J.assign rfl rfl ?_
    refine J.assign rfl rfl ?_
    refine J.nil ?_
    refine JX.thenN (hK12 _ _ ?_)
    refine JC.seq (fun K13 hK13 => ?_)
    refine JC.seq (fun K14 hK14 => ?_)
    refine JC.region ?_
    refine J.move rfl rfl ?_
    refine J.bin rfl rfl rfl rfl ?_
    refine J.nil ?_
    refine JX.thenN (hK14 _ _ ?_)
    refine JC.cond rfl (fun h2 => ?_) (fun h2 => ?_)
    · skip
      try simp only [decide_eq_true_eq, decide_eq_false_iff_not, beq_iff_eq, bne_iff_ne, bne_eq_false_iff_eq, ne_eq, beq_eq_false_iff_ne, Bool.not_eq_true, Bool.not_eq_false, Int.not_lt, Int.not_le] at h2
      refine JC.exit ?_
      refine JX.thenE ?_
      refine JX.blockO rfl ?_
      refine JX.thenE ?_
      refine JX.thenE ?_
      refine JX.blockE ?_
      refine JX.thenN (hK7 _ _ ?_)
      refine JC.seq (fun K15 hK15 => ?_)
      refine JC.region ?_
      refine J.move rfl rfl ?_
      refine J.perm ([] ++ ((d, dkO s 400 σ.p σ.k) :: (s, dkS σ.B) :: (lb, lgO d q down) :: (lv ++ lps))) (by (refine perm_cnt (fun _ => ?_)); simp only [cntB_append, cntB_cons, cntB_nil, Nat.add_zero, Nat.zero_add]; try ac_rfl) ?_
      refine J.callS (l1 := []) Ty.bd26 rfl rfl (fun w1 hw => open_good d s 400 q σ w1 (St.owns (l1 := [(d, dkO s 400 σ.p σ.k), (s, dkS σ.B)]) (l := (lb, lgO d q down) :: (lv ++ lps)) (hw.perm (by (refine perm_cnt (fun _ => ?_)); simp only [cntB_append, cntB_cons, cntB_nil, Nat.add_zero, Nat.zero_add]; try ac_rfl))) hI (by omega)) (fun x hx1 => ?_)
      obtain ⟨lg, vg, vsg, lvg, lpsg⟩ := x
      obtain ⟨hvlg, hrlg⟩ := hx1
      simp only at hvlg hrlg ⊢
      refine J.perm ((lg, lgO d q false) :: (lb, lgO d q down) :: (d, dkO s 400 σ.p σ.k) :: (s, dkS σ.B) :: (lvg ++ (lpsg ++ (lv ++ lps)))) (by (refine perm_cnt (fun _ => ?_)); simp only [cntB_append, cntB_cons, cntB_nil, Nat.add_zero, Nat.zero_add]; try ac_rfl) ?_
      refine J.move rfl rfl ?_
      refine J.extract rfl rfl rfl ?_
      refine J.extract rfl rfl rfl ?_
      refine J.extract rfl rfl rfl ?_
      refine J.assign rfl rfl ?_
      refine J.assign rfl rfl ?_
      refine J.assign rfl rfl ?_
      refine J.nil ?_
      refine JX.thenN (hK15 _ _ ?_)
      refine JC.seq (fun K16 hK16 => ?_)
      refine JC.region ?_
      refine J.move rfl rfl ?_
      refine J.bin rfl rfl rfl rfl ?_
      refine J.move rfl rfl ?_
      first
        | (refine J.skip rfl rfl rfl rfl rfl ?_)
        | (refine J.skipU rfl rfl rfl rfl ?_)
        | (refine J.unguard rfl rfl rfl ?_; refine J.move rfl rfl ?_)
      first
        | (refine J.skip rfl rfl rfl rfl rfl ?_)
        | (refine J.skipU rfl rfl rfl rfl ?_)
        | (refine J.unguard rfl rfl rfl ?_; refine J.move rfl rfl ?_)
      refine J.unguard rfl rfl rfl ?_
      refine J.callB (v := .bool true) (fun w1 w2 hw hb => hw.step hb) Ty.bd30 rfl rfl (fun w1 hw => by
        have h := sameAll_spec _ _ q.recs q.recs w1 (RowRecs.of (l := (lg, lgO d q false) :: (lb, lgO d q down) :: (d, dkO s 400 σ.p σ.k) :: (s, dkS σ.B) :: (lv ++ lps)) hvlg hrlg (hw.perm (by (refine perm_cnt (fun _ => ?_)); simp only [cntB_append, cntB_cons, cntB_nil, Nat.add_zero, Nat.zero_add]; try ac_rfl))) (RowRecs.of (l := (lg, lgO d q false) :: (lb, lgO d q down) :: (d, dkO s 400 σ.p σ.k) :: (s, dkS σ.B) :: (lvg ++ lpsg)) hvo hro (hw.perm (by (refine perm_cnt (fun _ => ?_)); simp only [cntB_append, cntB_cons, cntB_nil, Nat.add_zero, Nat.zero_add]; try ac_rfl))) (by have := hI.bounds (by omega); omega)
        rw [decide_eq_true rfl] at h
        exact h) ?_
      (first | refine J.pickT rfl rfl rfl ?_ | refine J.pickF rfl rfl rfl ?_)
      refine J.assign rfl rfl ?_
      refine J.nil ?_
      refine JX.thenN (hK16 _ _ ?_)
      refine JC.ret ?_
      refine JX.ret1 rfl rfl (fun w hw => ?_)
      exact ⟨rfl, hw.below⟩
    · skip
      have hi4 : i ≤ 60 := by simp at h2; omega
      refine JC.skip ?_
      refine JX.thenN (hK13 _ _ ?_)
      refine JC.seq (fun K17 hK17 => ?_)
      refine JC.region ?_
      refine J.move rfl rfl ?_
      refine J.move rfl rfl ?_
      obtain ⟨e, q2, down2, σ2, happ, hI2, hk1, hk2, hg2, hg3, hcase, hdn⟩ := append_law (n := 400) (down := down) (rec_ := z.xs) (by omega) hI (by omega)
      have hb := hI.bounds (by omega)
      have hb2 := hI2.bounds (by omega)
      refine J.perm ([(lb, lgO d q down), (d, dkO s 400 σ.p σ.k), (s, dkS σ.B)] ++ (lv ++ lps)) (by (refine perm_cnt (fun _ => ?_)); simp only [cntB_append, cntB_cons, cntB_nil, Nat.add_zero, Nat.zero_add]; try ac_rfl) ?_
      refine J.callT (l1 := [(lb, lgO d q down), (d, dkO s 400 σ.p σ.k), (s, dkS σ.B)]) (L := [(lb, lgO d q2 down2), (d, dkO s 400 σ2.p σ2.k), (s, dkS σ2.B)]) Ty.bd28 rfl rfl (fun w1 hw => append_all lb d s 400 q down σ.B z.xs σ.p σ.k z.a z.xs.length z.c w1 hw.owns hI.len (by omega) (by omega) (by omega) hb.2.2.1 hb.2.2.2.1 hk (by omega) hI.p rfl (by omega) (hzr.st (.inr (by simp)) hw) (hzr.offNew hw (fun p hp => List.mem_append_left _ hp)) happ) ?_
      refine J.perm ((lb, lgO d q2 down2) :: (d, dkO s 400 σ2.p σ2.k) :: (s, dkS σ2.B) :: (lv ++ lps)) (by (refine perm_cnt (fun _ => ?_)); simp only [cntB_append, cntB_cons, cntB_nil, Nat.add_zero, Nat.zero_add]; try ac_rfl) ?_
      refine J.bin rfl rfl rfl rfl ?_
      refine J.nil ?_
      refine JX.thenN (hK17 _ _ ?_)
      refine JC.cond rfl (fun h3 => ?_) (fun h3 => ?_)
      · skip
        have he : e = 0 := by simpa using h3
        have hrec : q2.recs = q.recs ++ [z.xs] := by
          rcases hcase with h | h
          · exact h.2
          · exact absurd he h.1
        refine JC.region ?_
        refine J.move rfl rfl ?_
        refine J.buildSl Ty.el28 Ty.s5 Ty.z5 rfl rfl rfl rfl rfl rfl rfl (fun b56 => ?_)
        refine J.move rfl rfl ?_
        refine J.append (lp := [(b56, cb [] 5)]) (xs := []) (ys := z.xs.map u8) (k := 0) (m := z.xs.length) Ty.el28 Ty.s5 Ty.b5 Ty.z5 rfl (.inl ⟨5, Ty.u28⟩) rfl rfl ⟨rfl, .inr ⟨b56, 0, [], rfl, rfl, rfl, Nat.le_refl _⟩⟩ (fun w1 hw => .inl (hzr.st (.inr (by simp)) hw)) (by simp) (one_u8 _) (by omega) (by omega) rfl (fun v58 lp58 hv58 => ?_)
        rw [Nat.zero_add, List.nil_append] at hv58
        obtain ⟨a58, c58, rfl, hc58⟩ := hv58.form
        refine J.buildSl Ty.el47 Ty.s28 Ty.z28 rfl rfl rfl rfl rfl rfl rfl (fun b59 => ?_)
        refine J.perm ((b59, cb [.slice a58 (z.xs.length) c58] 28) :: (lp58 ++ ((lb, lgO d q2 down2) :: (d, dkO s 400 σ2.p σ2.k) :: (s, dkS σ2.B) :: (lv ++ lps)))) (.refl _) ?_
        refine J.perm (lv ++ ([(b59, cb [.slice a58 (z.xs.length) c58] 28)] ++ (lp58 ++ ((lb, lgO d q2 down2) :: (d, dkO s 400 σ2.p σ2.k) :: (s, dkS σ2.B) :: lps)))) (by (refine perm_cnt (fun _ => ?_)); simp only [cntB_append, cntB_cons, cntB_nil, Nat.add_zero, Nat.zero_add]; try ac_rfl) ?_
        refine J.append (lp := lv) (ys := [.slice a58 (z.xs.length) c58]) (m := 1) Ty.el47 Ty.s28 Ty.b28 Ty.z28 rfl (.inl ⟨28, Ty.u47⟩) rfl rfl hvo (fun w1 hw => .inl (Row.own (cs := [.slice a58 (z.xs.length) c58]) (tb := 28) (fr := (0, 0)) hw (List.mem_append_right _ (.head _)) rfl (Nat.le_refl _))) rfl (by simp [Value.oneCell']) (by omega) (by omega) rfl (fun v60 lv60 hv60 => ?_)
        refine J.assign rfl rfl ?_
        refine J.nil ?_
        refine JX.blockN ?_
        refine JX.thenN (hK11 _ _ ?_)
        refine JC.region ?_
        (first | refine J.addN rfl rfl (by omega) (by omega) rfl ?_ | refine J.bin rfl rfl rfl rfl ?_)
        refine J.move rfl rfl ?_
        refine J.nil ?_
        refine JX.thenN ?_
        refine JX.again (⟨i + 1, q2, down2, σ2, vs ++ [.slice a58 (z.xs.length) c58], v60, lv60, lps ++ lp58⟩ : KSt) ?_ ?_ ?_
        · simp only; omega
        · exact ⟨rfl, rfl, rfl, rfl, rfl, rfl, trivial⟩
        · exact fun w1 hw => ⟨⟨hlt, by simp only; omega, hI2, by simp only; omega, by simp only; omega, by simp only; omega, by simp only; rw [hrec, List.length_append]; exact hv60, by simp only; rw [hrec]; exact .snoc hro hv58⟩, (hw.perm (l' := [(b59, cb [.slice a58 (z.xs.length) c58] 28)] ++ ((lb, lgO d q2 down2) :: (d, dkO s 400 σ2.p σ2.k) :: (s, dkS σ2.B) :: (lv60 ++ (lps ++ lp58)))) (by (refine perm_cnt (fun _ => ?_)); simp only [cntB_append, cntB_cons, cntB_nil, Nat.add_zero, Nat.zero_add]; try ac_rfl)).drop (List.sublist_append_right _ _)⟩
      · skip
        have he : e ≠ 0 := by simpa using h3
        have hq2 : q2 = q := by
          rcases hcase with h | h
          · exact absurd h.1 he
          · exact h.2
        refine JC.skip ?_
        refine JX.blockN ?_
        refine JX.thenN (hK11 _ _ ?_)
        refine JC.region ?_
        (first | refine J.addN rfl rfl (by omega) (by omega) rfl ?_ | refine J.bin rfl rfl rfl rfl ?_)
        refine J.move rfl rfl ?_
        refine J.nil ?_
        refine JX.thenN ?_
        refine JX.again (⟨i + 1, q2, down2, σ2, vs, v9, lv, lps⟩ : KSt) ?_ ?_ ?_
        · simp only; omega
        · exact ⟨rfl, rfl, rfl, rfl, rfl, rfl, trivial⟩
        · exact fun w1 hw => ⟨⟨hlt, by simp only; omega, hI2, by simp only; omega, by simp only; omega, by simp only; omega, by simp only; rw [hq2]; exact hvo, by simp only; rw [hq2]; exact hro⟩, hw⟩
  · skip
    have hge : i = o.xs.length := by simp at h1; omega
    refine JC.exit ?_
    refine JX.thenE ?_
    refine JX.thenE ?_
    refine JX.blockE ?_
    refine JX.thenN (hK7 _ _ ?_)
    refine JC.seq (fun K18 hK18 => ?_)
    refine JC.region ?_
    refine J.move rfl rfl ?_
    refine J.perm ([] ++ ((d, dkO s 400 σ.p σ.k) :: (s, dkS σ.B) :: (lb, lgO d q down) :: (lv ++ lps))) (by (refine perm_cnt (fun _ => ?_)); simp only [cntB_append, cntB_cons, cntB_nil, Nat.add_zero, Nat.zero_add]; try ac_rfl) ?_
    refine J.callS (l1 := []) Ty.bd26 rfl rfl (fun w1 hw => open_good d s 400 q σ w1 (St.owns (l1 := [(d, dkO s 400 σ.p σ.k), (s, dkS σ.B)]) (l := (lb, lgO d q down) :: (lv ++ lps)) (hw.perm (by (refine perm_cnt (fun _ => ?_)); simp only [cntB_append, cntB_cons, cntB_nil, Nat.add_zero, Nat.zero_add]; try ac_rfl))) hI (by omega)) (fun x hx1 => ?_)
    obtain ⟨lg, vg, vsg, lvg, lpsg⟩ := x
    obtain ⟨hvlg, hrlg⟩ := hx1
    simp only at hvlg hrlg ⊢
    refine J.perm ((lg, lgO d q false) :: (lb, lgO d q down) :: (d, dkO s 400 σ.p σ.k) :: (s, dkS σ.B) :: (lvg ++ (lpsg ++ (lv ++ lps)))) (by (refine perm_cnt (fun _ => ?_)); simp only [cntB_append, cntB_cons, cntB_nil, Nat.add_zero, Nat.zero_add]; try ac_rfl) ?_
    refine J.move rfl rfl ?_
    refine J.extract rfl rfl rfl ?_
    refine J.extract rfl rfl rfl ?_
    refine J.extract rfl rfl rfl ?_
    refine J.assign rfl rfl ?_
    refine J.assign rfl rfl ?_
    refine J.assign rfl rfl ?_
    refine J.nil ?_
    refine JX.thenN (hK18 _ _ ?_)
    refine JC.seq (fun K19 hK19 => ?_)
    refine JC.region ?_
    refine J.move rfl rfl ?_
    refine J.bin rfl rfl rfl rfl ?_
    refine J.move rfl rfl ?_
    first
      | (refine J.skip rfl rfl rfl rfl rfl ?_)
      | (refine J.skipU rfl rfl rfl rfl ?_)
      | (refine J.unguard rfl rfl rfl ?_; refine J.move rfl rfl ?_)
    first
      | (refine J.skip rfl rfl rfl rfl rfl ?_)
      | (refine J.skipU rfl rfl rfl rfl ?_)
      | (refine J.unguard rfl rfl rfl ?_; refine J.move rfl rfl ?_)
    refine J.unguard rfl rfl rfl ?_
    refine J.callB (v := .bool true) (fun w1 w2 hw hb => hw.step hb) Ty.bd30 rfl rfl (fun w1 hw => by
      have h := sameAll_spec _ _ q.recs q.recs w1 (RowRecs.of (l := (lg, lgO d q false) :: (lb, lgO d q down) :: (d, dkO s 400 σ.p σ.k) :: (s, dkS σ.B) :: (lv ++ lps)) hvlg hrlg (hw.perm (by (refine perm_cnt (fun _ => ?_)); simp only [cntB_append, cntB_cons, cntB_nil, Nat.add_zero, Nat.zero_add]; try ac_rfl))) (RowRecs.of (l := (lg, lgO d q false) :: (lb, lgO d q down) :: (d, dkO s 400 σ.p σ.k) :: (s, dkS σ.B) :: (lvg ++ lpsg)) hvo hro (hw.perm (by (refine perm_cnt (fun _ => ?_)); simp only [cntB_append, cntB_cons, cntB_nil, Nat.add_zero, Nat.zero_add]; try ac_rfl))) (by have := hI.bounds (by omega); omega)
      rw [decide_eq_true rfl] at h
      exact h) ?_
    (first | refine J.pickT rfl rfl rfl ?_ | refine J.pickF rfl rfl rfl ?_)
    refine J.assign rfl rfl ?_
    refine J.nil ?_
    refine JX.thenN (hK19 _ _ ?_)
    refine JC.ret ?_
    refine JX.ret1 rfl rfl (fun w hw => ?_)
    exact ⟨rfl, hw.below⟩

end Go.Proofs.Ytlmbpfgiadbjaaa
