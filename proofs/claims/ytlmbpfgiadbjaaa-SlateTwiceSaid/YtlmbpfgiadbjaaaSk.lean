/-
  The laws of layer 6 (slate): walks, fourth part.
-/
import Derived.Test.YtlmbpfgiadbjaaaSi
namespace Go.Proofs.Ytlmbpfgiadbjaaa
open Go.J Go.RowKit
set_option linter.unusedVariables false
set_option linter.unusedSimpArgs false
set_option maxRecDepth 8000
theorem vec_at {t m c j : Nat} {a : Option Addr} {xs : List Value} {lp : List (Nat × Obj)} (h : Vec t 1 (.slice a m c) m xs lp) (hj : j < m) : ∃ b sp, a = some ⟨b, 0, none⟩ ∧ lp = [(b, cb (xs ++ sp) t)] ∧ xs.length = m := by
  obtain ⟨hl, h⟩ := h
  rcases h with ⟨_, h0, _⟩ | ⟨b, c', sp, hve, rfl, hcap, hk⟩
  · omega
  · simp only [Value.slice.injEq, true_and] at hve
    obtain ⟨rfl, rfl⟩ := hve
    exact ⟨b, sp, rfl, rfl, by omega⟩
theorem at_val {xs sp : List Value} {j : Nat} (h : j < xs.length) : (xs ++ sp)[0 + (j : Int).toNat * 1]? = some xs[j] := by
  have : 0 + (j : Int).toNat * 1 = j := by simp
  rw [this, List.getElem?_append_left h, List.getElem?_eq_getElem h]
theorem recs_split {t : Nat} {vs : List Value} {rs : List (List UInt8)} {lp : List (Nat × Obj)} (h : Recs t vs rs lp) : ∀ (j : Nat) (v : Value) (r : List UInt8), vs[j]? = some v → rs[j]? = some r →
    ∃ lpa lpj lpb, lp = lpa ++ (lpj ++ lpb) ∧ Vec t 1 v r.length (r.map u8) lpj ∧ ∀ (ys : List UInt8) (l' : List (Nat × Obj)), Vec t 1 v ys.length (ys.map u8) l' → Recs t vs (rs.set j ys) (lpa ++ (l' ++ lpb)) := by
  induction h with
  | nil => intro j v r h; simp at h
  | @snoc vs rs lp l' v r hr hv ih =>
    intro j u r' h1 h2
    have hlen := hr.length
    by_cases hj : j < vs.length
    · rw [List.getElem?_append_left hj] at h1
      rw [List.getElem?_append_left (by omega)] at h2
      obtain ⟨lpa, lpj, lpb, rfl, h3, h4⟩ := ih j u r' h1 h2
      refine ⟨lpa, lpj, lpb ++ l', by simp only [List.append_assoc], h3, fun ys l2 h5 => ?_⟩
      rw [List.set_append_left _ _ (by omega)]
      have := Recs.snoc (h4 ys l2 h5) hv
      simpa only [List.append_assoc] using this
    · have hj2 : j = vs.length := by
        have := (List.getElem?_eq_some_iff.1 h1).1
        simp at this; omega
      subst hj2
      rw [List.getElem?_append_right (Nat.le_refl _), Nat.sub_self] at h1
      rw [hlen, List.getElem?_append_right (Nat.le_refl _), Nat.sub_self] at h2
      simp only [List.getElem?_cons_zero, Option.some.injEq] at h1 h2
      subst h1; subst h2
      refine ⟨lp, l', [], by simp, hv, fun ys l2 h5 => ?_⟩
      rw [hlen, List.set_append_right _ _ (Nat.le_refl _), Nat.sub_self, List.append_nil]
      exact .snoc hr h5
structure WSt where
  j : Nat
  vs : List Value
  v9 : Value
  lv : List (Nat × Obj)
  lps : List (Nat × Obj)

theorem getD_set_le {rs : List (List UInt8)} {j : Nat} {ys : List UInt8} (h : ∀ i : Nat, (rs.getD i []).length ≤ 1024) (hy : ys.length ≤ 1024) (i : Nat) : ((rs.set j ys).getD i []).length ≤ 1024 := by
  rw [List.getD_eq_getElem?_getD, List.getElem?_set]
  have h1 := h i
  rw [List.getD_eq_getElem?_getD] at h1
  split
  · split
    · exact hy
    · simp
  · exact h1
theorem parseS_size {B : List UInt8} {top : Nat} : ∀ (k at_ : Nat) (rs : List (List UInt8)), parseS B top k at_ = some rs → ∀ j : Nat, (rs.getD j []).length ≤ 1024 := by
  intro k
  induction k with
  | zero => intro at_ rs h j; unfold parseS at h; split at h <;> simp at h; subst h; simp
  | succ k ih =>
    intro at_ rs h j
    unfold parseS at h
    split at h
    · simp at h
    · split at h
      · simp at h
      · rw [Option.map_eq_some_iff] at h
        obtain ⟨rs', h1, rfl⟩ := h
        cases j with
        | zero => simp; omega
        | succ j => simpa using ih _ _ h1 j
theorem LogI.sizes {n : Nat} {q : LogP} {σ : DS} (h : LogI n q σ) : ∀ j : Nat, (q.recs.getD j []).length ≤ 1024 := by
  obtain ⟨_, _, _, _, h4⟩ := openP_cases' σ.B n h.open_
  exact parseS_size _ _ _ h4

theorem slateTwice_walk (w : World) (o : Sl (Sl UInt8)) (ho : RSl 1 24 (RSl 1 1 RU8) w [o.v] o) :
    Calls Try.prog 8 [o.v].toArray w fun r w' => r = .returned (.bool true) ∧ Below w.heap.size w w' := by
  have hol0 := reach_len6 ho
  refine calls_of_J (args := [o.v]) (e := [(0, o.v)]) Try.func8 rfl rfl ⟨rfl, trivial⟩ (St.start w) ?_
  refine JC.seq (fun K0 hK0 => ?_)
  refine JC.region ?_
  refine J.assign rfl rfl ?_
  refine J.nil ?_
  refine JX.thenN (hK0 _ _ ?_)
  refine JC.seq (fun K1 hK1 => ?_)
  refine JC.region ?_
  refine J.callS (l1 := []) Ty.bd14 rfl rfl (fun w1 hw => new_spec _ w1) (fun x _ => ?_)
  obtain ⟨d, s⟩ := x
  simp only [List.append_nil, show (min (max (400 : Int) 0) 4096).toNat = 400 from rfl]
  obtain ⟨σ0, hσ0⟩ : ∃ σ0 : DS, σ0 = (⟨List.replicate 25600 0, -1, 0⟩ : DS) := ⟨_, rfl⟩
  have hI0 : LogI 400 ⟨0, 0, 0, []⟩ σ0 := by subst hσ0; exact ⟨List.length_replicate, openP_zero (n := 400) (by omega) (by omega), by simp only; omega⟩
  have hk00 : σ0.k = 0 := by rw [hσ0]
  refine J.perm ((d, dkO s 400 σ0.p σ0.k) :: (s, dkS σ0.B) :: []) (by subst hσ0; exact .refl _) ?_
  refine J.assign rfl rfl ?_
  refine J.nil ?_
  refine JX.thenN (hK1 _ _ ?_)
  refine JC.seq (fun K2 hK2 => ?_)
  refine JC.region ?_
  refine J.move rfl rfl ?_
  refine J.perm ([] ++ ((d, dkO s 400 σ0.p σ0.k) :: (s, dkS σ0.B) :: [])) (by (refine perm_cnt (fun _ => ?_)); simp only [cntB_append, cntB_cons, cntB_nil, Nat.add_zero, Nat.zero_add]; try ac_rfl) ?_
  refine J.callS (l1 := []) Ty.bd26 rfl rfl (fun w1 hw => open_good d s 400 ⟨0, 0, 0, []⟩ σ0 w1 (St.owns (l1 := [(d, dkO s 400 σ0.p σ0.k), (s, dkS σ0.B)]) (l := []) (hw.perm (by (refine perm_cnt (fun _ => ?_)); simp only [cntB_append, cntB_cons, cntB_nil, Nat.add_zero, Nat.zero_add]; try ac_rfl))) hI0 (by omega)) (fun x hx1 => ?_)
  obtain ⟨lb, v0, vs0, lv0, lps0⟩ := x
  obtain ⟨hvlb, hrlb⟩ := hx1
  simp only at hvlb hrlb ⊢
  refine J.perm ((lb, lgO d ⟨0, 0, 0, []⟩ false) :: (d, dkO s 400 σ0.p σ0.k) :: (s, dkS σ0.B) :: (lv0 ++ lps0)) (by (refine perm_cnt (fun _ => ?_)); simp only [cntB_append, cntB_cons, cntB_nil, Nat.add_zero, Nat.zero_add]; try ac_rfl) ?_
  obtain ⟨a00, c00, rfl, _⟩ := hvlb.form
  refine J.move rfl rfl ?_
  refine J.extract rfl rfl rfl ?_
  refine J.extract rfl rfl rfl ?_
  refine J.extract rfl rfl rfl ?_
  refine J.assign rfl rfl ?_
  refine J.assign rfl rfl ?_
  refine J.assign rfl rfl ?_
  refine J.nil ?_
  refine JX.thenN (hK2 _ _ ?_)
  refine JC.seq (fun K3 hK3 => ?_)
  refine JC.seq (fun K4 hK4 => ?_)
  refine JC.region ?_
  refine J.move rfl rfl ?_
  refine J.eqNil Ty.u23 rfl rfl rfl ?_
  refine J.move rfl rfl ?_
  first
    | (refine J.skip rfl rfl rfl rfl rfl ?_)
    | (refine J.skipU rfl rfl rfl rfl ?_)
    | (refine J.unguard rfl rfl rfl ?_; refine J.move rfl rfl ?_)
  first
    | (refine J.skip rfl rfl rfl rfl rfl ?_)
    | (refine J.skipU rfl rfl rfl rfl ?_)
    | (refine J.unguard rfl rfl rfl ?_; refine J.eqNil Ty.u48 rfl rfl rfl ?_)
  (first | refine J.pickT rfl rfl rfl ?_ | refine J.pickF rfl rfl rfl ?_)
  refine J.move rfl rfl ?_
  first
    | (refine J.skip rfl rfl rfl rfl rfl ?_)
    | (refine J.skipU rfl rfl rfl rfl ?_)
    | (refine J.unguard rfl rfl rfl ?_; refine J.move rfl rfl ?_)
  first
    | (refine J.skip rfl rfl rfl rfl rfl ?_)
    | (refine J.skipU rfl rfl rfl rfl ?_)
    | (refine J.unguard rfl rfl rfl ?_; refine J.bin rfl rfl rfl rfl ?_)
  (first | refine J.pickT rfl rfl rfl ?_ | refine J.pickF rfl rfl rfl ?_)
  refine J.move rfl rfl ?_
  first
    | (refine J.skip rfl rfl rfl rfl rfl ?_)
    | (refine J.skipU rfl rfl rfl rfl ?_)
    | (refine J.unguard rfl rfl rfl ?_; refine J.callB (fun w1 w2 hw hb => hw.step hb) Ty.bd27 rfl rfl (fun w1 hw => fixed6 w1) ?_)
  first
    | (refine J.skip rfl rfl rfl rfl rfl ?_)
    | (refine J.skipU rfl rfl rfl rfl ?_)
    | (refine J.unguard rfl rfl rfl ?_; refine J.not rfl rfl ?_)
  (first | refine J.pickT rfl rfl rfl ?_ | refine J.pickF rfl rfl rfl ?_)
  refine J.nil ?_
  refine JX.thenN (hK4 _ _ ?_)
  first | refine JC.condF rfl ?_ | refine JC.cond rfl (fun h => by first | (exfalso; simp at h; omega) | (simp at h)) (fun _ => ?_)
  refine JC.skip ?_
  refine JX.thenN (hK3 _ _ ?_)
  refine JC.seq (fun K5 hK5 => ?_)
  refine JC.seq (fun K6 hK6 => ?_)
  refine JC.region ?_
  refine J.move rfl rfl ?_
  refine J.lenS rfl Ty.u47 rfl rfl ?_
  refine J.move rfl rfl ?_
  refine J.nil ?_
  refine JX.thenN (hK6 _ _ ?_)
  refine JC.block ?_
  refine JC.conseq (JC.cov (f := (fun st => [(3, .pointer (some ⟨d, 0, none⟩)), (4, .pointer (some ⟨lb, 0, none⟩)), (42, o.v), (43, .int .i64 ((o.xs.length : Nat) : Int)), (44, .int .i64 ((st.1 : Nat) : Int))]) ((0, ⟨0, 0, 0, []⟩, false, σ0) : Nat × LogP × Bool × DS)) ⟨rfl, rfl, rfl, rfl, rfl, trivial⟩ (JC.loop (α := Nat × LogP × Bool × DS) (fun st => [(3, .pointer (some ⟨d, 0, none⟩)), (4, .pointer (some ⟨lb, 0, none⟩)), (42, o.v), (43, .int .i64 ((o.xs.length : Nat) : Int)), (44, .int .i64 ((st.1 : Nat) : Int))]) (fun st w' => (st.1 ≤ o.xs.length ∧ st.1 ≤ 61 ∧ LogI 400 st.2.1 st.2.2.2 ∧ st.2.1.gen ≤ st.1 ∧ 0 ≤ st.2.2.2.k ∧ st.2.2.2.k ≤ 19 * ((st.1 : Nat) : Int)) ∧ St w [] ((lb, lgO d st.2.1 st.2.2.1) :: (d, dkO s 400 st.2.2.2.p st.2.2.2.k) :: (s, dkS st.2.2.2.B) :: []) w') (fun st => o.xs.length - st.1) ((0, ⟨0, 0, 0, []⟩, false, σ0) : Nat × LogP × Bool × DS) (fun st => ?_))) (fun w hw => ⟨⟨Nat.zero_le _, by show 0 ≤ 61; omega, hI0, Nat.le_refl _, by show 0 ≤ σ0.k; omega, by show σ0.k ≤ 19 * ((0 : Nat) : Int); omega⟩, (hw.perm (l' := (lv0 ++ lps0) ++ ((lb, lgO d ⟨0, 0, 0, []⟩ false) :: (d, dkO s 400 σ0.p σ0.k) :: (s, dkS σ0.B) :: [])) (by (refine perm_cnt (fun _ => ?_)); simp only [cntB_append, cntB_cons, cntB_nil, Nat.add_zero, Nat.zero_add]; try ac_rfl)).drop (List.sublist_append_right _ _)⟩)
  obtain ⟨i, q, down, σ⟩ := st
  refine JC.pr (fun hx => ?_)
  obtain ⟨hi, hi2, hI, hg, hk, hk3⟩ := hx
  simp only at hi hi2 hI hg hk hk3 ⊢
  refine JC.seq (fun K7 hK7 => ?_)
  refine JC.region ?_
  refine J.bin rfl rfl rfl rfl ?_
  refine J.nil ?_
  refine JX.thenN (hK7 _ _ ?_)
  refine JC.seq (fun K8 hK8 => ?_)
  refine JC.cond rfl (fun h1 => ?_) (fun h1 => ?_)
  · skip
    have hlt : i < o.xs.length := by simp at h1; omega
    obtain ⟨ob, oo, oc, hoa, hol, hocc, hor⟩ := ho.at hlt
    generalize o.xs[i] = z at hor
    obtain rfl : oc = [z.v] := hor.1
    have hzr := hor.row
    have hzl := reach_len6 hor
    refine JC.skip ?_
    refine JX.thenN (hK8 _ _ ?_)
    refine JC.seq (fun K9 hK9 => ?_)
    refine JC.block ?_
    refine JC.seq (fun K10 hK10 => ?_)
    refine JC.region ?_
    refine J.move rfl rfl ?_
    refine J.name 42 rfl (show o.v = Value.slice (some ⟨ob, oo, none⟩) o.xs.length o.c by simp only [Sl.v, hoa]) ?_
    refine J.indexAddrS Ty.el47 Ty.s28 rfl rfl (by omega) (by omega) rfl ?_
    refine J.name 42 rfl (show Value.slice (some ⟨ob, oo, none⟩) o.xs.length o.c = o.v by simp only [Sl.v, hoa]) ?_
    refine J.loadR (v := z.v) Ty.a28 rfl (by have := hocc 0 (by simp); simpa using this) (by simp) rfl ?_
    refine J.assign rfl rfl ?_
    refine J.assign rfl rfl ?_
    refine J.nil ?_
    refine JX.thenN (hK10 _ _ ?_)
    refine JC.seq (fun K11 hK11 => ?_)
    refine JC.seq (fun K12 hK12 => ?_)
    refine JC.region ?_
    refine J.move rfl rfl ?_
    refine J.bin rfl rfl rfl rfl ?_
    refine J.nil ?_
    refine JX.thenN (hK12 _ _ ?_)
    refine JC.cond rfl (fun h2 => ?_) (fun h2 => ?_)
    · skip
      try simp only [decide_eq_true_eq, decide_eq_false_iff_not, beq_iff_eq, bne_iff_ne, bne_eq_false_iff_eq, ne_eq, beq_eq_false_iff_ne, Bool.not_eq_true, Bool.not_eq_false, Int.not_lt, Int.not_le] at h2
      refine JC.exit ?_
      refine JX.thenE ?_
      refine JX.blockO rfl ?_
      refine JX.thenE ?_
      refine JX.thenE ?_
      refine JX.blockE ?_
      refine JX.thenN (hK5 _ _ ?_)
      refine JC.seq (fun K13 hK13 => ?_)
      refine JC.region ?_
      refine J.move rfl rfl ?_
      refine J.perm ([] ++ ((d, dkO s 400 σ.p σ.k) :: (s, dkS σ.B) :: (lb, lgO d q down) :: [])) (by (refine perm_cnt (fun _ => ?_)); simp only [cntB_append, cntB_cons, cntB_nil, Nat.add_zero, Nat.zero_add]; try ac_rfl) ?_
      refine J.callS (l1 := []) Ty.bd26 rfl rfl (fun w1 hw => open_good d s 400 q σ w1 (St.owns (l1 := [(d, dkO s 400 σ.p σ.k), (s, dkS σ.B)]) (l := (lb, lgO d q down) :: []) (hw.perm (by (refine perm_cnt (fun _ => ?_)); simp only [cntB_append, cntB_cons, cntB_nil, Nat.add_zero, Nat.zero_add]; try ac_rfl))) hI (by omega)) (fun x hx1 => ?_)
      obtain ⟨l1, va, vsa, lva, lpa⟩ := x
      obtain ⟨hva, hra⟩ := hx1
      simp only at hva hra ⊢
      refine J.perm ((l1, lgO d q false) :: (d, dkO s 400 σ.p σ.k) :: (s, dkS σ.B) :: (lb, lgO d q down) :: (lva ++ lpa)) (by (refine perm_cnt (fun _ => ?_)); simp only [cntB_append, cntB_cons, cntB_nil, Nat.add_zero, Nat.zero_add]; try ac_rfl) ?_
      obtain ⟨aa, ca, rfl, _⟩ := hva.form
      refine J.move rfl rfl ?_
      refine J.extract rfl rfl rfl ?_
      refine J.extract rfl rfl rfl ?_
      refine J.extract rfl rfl rfl ?_
      refine J.assign rfl rfl ?_
      refine J.assign rfl rfl ?_
      refine J.assign rfl rfl ?_
      refine J.nil ?_
      refine JX.thenN (hK13 _ _ ?_)
      refine JC.seq (fun K14 hK14 => ?_)
      refine JC.region ?_
      refine J.move rfl rfl ?_
      refine J.perm ([] ++ ((d, dkO s 400 σ.p σ.k) :: (s, dkS σ.B) :: (l1, lgO d q false) :: (lb, lgO d q down) :: (lva ++ lpa))) (by (refine perm_cnt (fun _ => ?_)); simp only [cntB_append, cntB_cons, cntB_nil, Nat.add_zero, Nat.zero_add]; try ac_rfl) ?_
      refine J.callS (l1 := []) Ty.bd26 rfl rfl (fun w1 hw => open_good d s 400 q σ w1 (St.owns (l1 := [(d, dkO s 400 σ.p σ.k), (s, dkS σ.B)]) (l := (l1, lgO d q false) :: (lb, lgO d q down) :: (lva ++ lpa)) (hw.perm (by (refine perm_cnt (fun _ => ?_)); simp only [cntB_append, cntB_cons, cntB_nil, Nat.add_zero, Nat.zero_add]; try ac_rfl))) hI (by omega)) (fun x hx1 => ?_)
      obtain ⟨l2, vb, vsb, lvb, lpb⟩ := x
      obtain ⟨hvb, hrb⟩ := hx1
      simp only at hvb hrb ⊢
      refine J.perm ((l2, lgO d q false) :: (l1, lgO d q false) :: (d, dkO s 400 σ.p σ.k) :: (s, dkS σ.B) :: (lb, lgO d q down) :: (lva ++ (lpa ++ (lvb ++ lpb)))) (by (refine perm_cnt (fun _ => ?_)); simp only [cntB_append, cntB_cons, cntB_nil, Nat.add_zero, Nat.zero_add]; try ac_rfl) ?_
      obtain ⟨ab, cb_, rfl, _⟩ := hvb.form
      have hqb := hI.bounds (by omega)
      have hla := hra.length
      have hlb := hrb.length
      refine J.move rfl rfl ?_
      refine J.extract rfl rfl rfl ?_
      refine J.extract rfl rfl rfl ?_
      refine J.extract rfl rfl rfl ?_
      refine J.assign rfl rfl ?_
      refine J.assign rfl rfl ?_
      refine J.assign rfl rfl ?_
      refine J.nil ?_
      refine JX.thenN (hK14 _ _ ?_)
      refine JC.seq (fun K15 hK15 => ?_)
      refine JC.seq (fun K16 hK16 => ?_)
      refine JC.region ?_
      refine J.move rfl rfl ?_
      refine J.lenS rfl Ty.u47 rfl rfl ?_
      refine J.move rfl rfl ?_
      refine J.callB (fun w1 w2 hw hb => hw.step hb) Ty.bd29 rfl rfl (fun w1 hw => len_spec lb d q down w1 (St.owns' (l := (lb, lgO d q down) :: (l2, lgO d q false) :: (l1, lgO d q false) :: (d, dkO s 400 σ.p σ.k) :: (s, dkS σ.B) :: (lva ++ (lpa ++ (lvb ++ lpb)))) (hw.perm (by (refine perm_cnt (fun _ => ?_)); simp only [cntB_append, cntB_cons, cntB_nil, Nat.add_zero, Nat.zero_add]; try ac_rfl)))) ?_
      refine J.bin rfl rfl rfl rfl ?_
      refine J.name 71 rfl (show Value.bool _ = .bool false by rw [hqb.2.2.2.2]; simp) ?_
      have hsz := hI.sizes
      refine J.move rfl rfl ?_
      first
        | (refine J.skip rfl rfl rfl rfl rfl ?_)
        | (refine J.skipU rfl rfl rfl rfl ?_)
        | (refine J.unguard rfl rfl rfl ?_; refine J.move rfl rfl ?_)
      first
        | (refine J.skip rfl rfl rfl rfl rfl ?_)
        | (refine J.skipU rfl rfl rfl rfl ?_)
        | (refine J.unguard rfl rfl rfl ?_; refine J.move rfl rfl ?_)
      refine J.unguard rfl rfl rfl ?_
      refine J.callB (v := .bool true) (fun w1 w2 hw hb => hw.step hb) Ty.bd30 rfl rfl (fun w1 hw => by
        have h := sameAll_spec _ _ q.recs q.recs w1 (RowRecs.of (l := (l2, lgO d q false) :: (l1, lgO d q false) :: (d, dkO s 400 σ.p σ.k) :: (s, dkS σ.B) :: (lb, lgO d q down) :: (lvb ++ lpb)) hva hra (hw.perm (by (refine perm_cnt (fun _ => ?_)); simp only [cntB_append, cntB_cons, cntB_nil, Nat.add_zero, Nat.zero_add]; try ac_rfl))) (RowRecs.of (l := (l2, lgO d q false) :: (l1, lgO d q false) :: (d, dkO s 400 σ.p σ.k) :: (s, dkS σ.B) :: (lb, lgO d q down) :: (lva ++ lpa)) hvb hrb (hw.perm (by (refine perm_cnt (fun _ => ?_)); simp only [cntB_append, cntB_cons, cntB_nil, Nat.add_zero, Nat.zero_add]; try ac_rfl))) (by omega)
        rw [decide_eq_true rfl] at h
        exact h) ?_
      first
        | (refine J.skip rfl rfl rfl rfl rfl ?_)
        | (refine J.skipU rfl rfl rfl rfl ?_)
        | (refine J.unguard rfl rfl rfl ?_; refine J.not rfl rfl ?_)
      (first | refine J.pickT rfl rfl rfl ?_ | refine J.pickF rfl rfl rfl ?_)
      refine J.nil ?_
      refine JX.thenN (hK16 _ _ ?_)
      first | refine JC.condF rfl ?_ | refine JC.cond rfl (fun h => by first | (exfalso; simp at h; omega) | (simp at h)) (fun _ => ?_)
      refine JC.skip ?_
      refine JX.thenN (hK15 _ _ ?_)
      refine JC.seq (fun K17 hK17 => ?_)
      refine JC.region ?_
      refine J.assign rfl rfl ?_
      refine J.nil ?_
      refine JX.thenN (hK17 _ _ ?_)
      refine JC.seq (fun K18 hK18 => ?_)
      refine JC.seq (fun K19 hK19 => ?_)
      refine JC.region ?_
      refine J.move rfl rfl ?_
      refine J.lenS rfl Ty.u47 rfl rfl ?_
      refine J.move rfl rfl ?_
      refine J.nil ?_
      refine JX.thenN (hK19 _ _ ?_)
      refine JC.block ?_
      refine JC.conseq (JC.cov (f := (fun st => [(10, .slice aa q.recs.length ca), (13, .slice ab q.recs.length cb_), (15, st.v9), (78, .slice ab q.recs.length cb_), (79, .int .i64 ((q.recs.length : Nat) : Int)), (80, .int .i64 ((st.j : Nat) : Int))]) (⟨0, [], .slice none 0 0, [], []⟩ : WSt)) ⟨rfl, rfl, rfl, rfl, rfl, rfl, trivial⟩ (JC.loop (α := WSt) (fun st => [(10, .slice aa q.recs.length ca), (13, .slice ab q.recs.length cb_), (15, st.v9), (78, .slice ab q.recs.length cb_), (79, .int .i64 ((q.recs.length : Nat) : Int)), (80, .int .i64 ((st.j : Nat) : Int))]) (fun st w' => (st.j ≤ q.recs.length ∧ Vec 28 1 st.v9 st.j st.vs st.lv ∧ Recs 5 st.vs (q.recs.take st.j) st.lps) ∧ St w [] (st.lv ++ (st.lps ++ (lva ++ (lpa ++ (lvb ++ lpb))))) w') (fun st => q.recs.length - st.j) (⟨0, [], .slice none 0 0, [], []⟩ : WSt) (fun st => ?_))) (fun w hw => ⟨⟨Nat.zero_le _, Vec.nil _ _, .nil⟩, hw.drop (.cons _ (.cons _ (.cons _ (.cons _ (List.sublist_cons_self _ _)))))⟩)
      obtain ⟨j, vsw, vw, lvw, lpw⟩ := st
      refine JC.pr (fun hx => ?_)
      obtain ⟨hj, hvw, hrw⟩ := hx
      simp only at hj hvw hrw ⊢
      refine JC.seq (fun K20 hK20 => ?_)
      refine JC.region ?_
      refine J.bin rfl rfl rfl rfl ?_
      refine J.nil ?_
      refine JX.thenN (hK20 _ _ ?_)
      refine JC.seq (fun K21 hK21 => ?_)
      refine JC.cond rfl (fun h4 => ?_) (fun h4 => ?_)
      · skip
        have hltj : j < q.recs.length := by simp at h4; omega
        obtain ⟨qb, spb, hqb2, rfl, hbl⟩ := vec_at hvb hltj
        subst hqb2
        have hrow := fun (w1 : World) (l : List (Nat × Obj)) (hw : St w [] (lpb ++ l) w1) => hrb.row hw j vsb[j] q.recs[j] (List.getElem?_eq_getElem (by omega)) (List.getElem?_eq_getElem hltj)
        have hmz : (q.recs[j]).length ≤ 1024 := by
          have := hsz j
          rw [List.getD_eq_getElem?_getD, List.getElem?_eq_getElem hltj, Option.getD_some] at this
          exact this
        refine JC.skip ?_
        refine JX.thenN (hK21 _ _ ?_)
        refine JC.seq (fun K22 hK22 => ?_)
        refine JC.block ?_
        refine JC.seq (fun K23 hK23 => ?_)
        refine JC.region ?_
        refine J.indexAddrS Ty.el47 Ty.s28 rfl rfl (by omega) (by omega) rfl ?_
        refine J.perm ((qb, cb (vsb ++ spb) 28) :: (lvw ++ (lpw ++ (lva ++ (lpa ++ lpb))))) (by (refine perm_cnt (fun _ => ?_)); simp only [cntB_append, cntB_cons, cntB_nil, Nat.add_zero, Nat.zero_add]; try ac_rfl) ?_
        refine J.loadO (v := vsb[j]) Ty.a28 rfl (.head _) (at_val (by omega)) rfl ?_
        refine J.assign rfl rfl ?_
        refine J.nil ?_
        refine JX.thenN (hK23 _ _ ?_)
        refine JC.region ?_
        refine J.move rfl rfl ?_
        refine J.buildSl Ty.el28 Ty.s5 Ty.z5 rfl rfl rfl rfl rfl rfl rfl (fun b85 => ?_)
        refine J.move rfl rfl ?_
        refine J.append (lp := [(b85, cb [] 5)]) (xs := []) (ys := q.recs[j].map u8) (k := 0) (m := q.recs[j].length) Ty.el28 Ty.s5 Ty.b5 Ty.z5 rfl (.inl ⟨5, Ty.u28⟩) rfl rfl ⟨rfl, .inr ⟨b85, 0, [], rfl, rfl, rfl, Nat.le_refl _⟩⟩ (fun w1 hw => .inl (hrow w1 ([(b85, cb [] 5)] ++ (lvw ++ (lpw ++ (lva ++ (lpa ++ [(qb, cb (vsb ++ spb) 28)]))))) (hw.perm (by (refine perm_cnt (fun _ => ?_)); simp only [cntB_append, cntB_cons, cntB_nil, Nat.add_zero, Nat.zero_add]; try ac_rfl)))) (by simp) (one_u8 _) (by omega) (by omega) rfl (fun v87 lp87 hv87 => ?_)
        rw [Nat.zero_add, List.nil_append] at hv87
        obtain ⟨a87, c87, rfl, hc87⟩ := hv87.form
        refine J.buildSl Ty.el47 Ty.s28 Ty.z28 rfl rfl rfl rfl rfl rfl rfl (fun b88 => ?_)
        refine J.perm ((b88, cb [.slice a87 (q.recs[j].length) c87] 28) :: (lp87 ++ ((qb, cb (vsb ++ spb) 28) :: (lvw ++ (lpw ++ (lva ++ (lpa ++ lpb))))))) (.refl _) ?_
        refine J.perm (lvw ++ ([(b88, cb [.slice a87 (q.recs[j].length) c87] 28)] ++ (lp87 ++ (lpw ++ (lva ++ (lpa ++ ([(qb, cb (vsb ++ spb) 28)] ++ lpb))))))) (by (refine perm_cnt (fun _ => ?_)); simp only [cntB_append, cntB_cons, cntB_nil, Nat.add_zero, Nat.zero_add]; try ac_rfl) ?_
        refine J.append (lp := lvw) (ys := [.slice a87 (q.recs[j].length) c87]) (m := 1) Ty.el47 Ty.s28 Ty.b28 Ty.z28 rfl (.inl ⟨28, Ty.u47⟩) rfl rfl hvw (fun w1 hw => .inl (Row.own (cs := [.slice a87 (q.recs[j].length) c87]) (tb := 28) (fr := (0, 0)) hw (List.mem_append_right _ (.head _)) rfl (Nat.le_refl _))) rfl (by simp [Value.oneCell']) (by omega) (by omega) rfl (fun v89 lv89 hv89 => ?_)
        refine J.assign rfl rfl ?_
        refine J.nil ?_
        refine JX.blockN ?_
        refine JX.thenN (hK22 _ _ ?_)
        refine JC.region ?_
        (first | refine J.addN rfl rfl (by omega) (by omega) rfl ?_ | refine J.bin rfl rfl rfl rfl ?_)
        refine J.move rfl rfl ?_
        refine J.nil ?_
        refine JX.thenN ?_
        refine JX.again (⟨j + 1, vsw ++ [.slice a87 (q.recs[j].length) c87], v89, lv89, lpw ++ lp87⟩ : WSt) ?_ ?_ ?_
        · simp only; omega
        · exact ⟨rfl, rfl, rfl, rfl, rfl, rfl, trivial⟩
        · exact fun w1 hw => ⟨⟨hltj, hv89, by simp only; rw [take_add_one hltj]; exact .snoc hrw hv87⟩, (hw.perm (l' := [(b88, cb [.slice a87 (q.recs[j].length) c87] 28)] ++ (lv89 ++ ((lpw ++ lp87) ++ ([(qb, cb (vsb ++ spb) 28)] ++ (lva ++ (lpa ++ lpb)))))) (by (refine perm_cnt (fun _ => ?_)); simp only [cntB_append, cntB_cons, cntB_nil, Nat.add_zero, Nat.zero_add]; try ac_rfl)).drop (List.sublist_append_right _ _) |>.perm (by (refine perm_cnt (fun _ => ?_)); simp only [cntB_append, cntB_cons, cntB_nil, Nat.add_zero, Nat.zero_add]; try ac_rfl)⟩
      · skip
        obtain rfl : j = q.recs.length := by simp at h4; omega
        rw [List.take_of_length_le (Nat.le_refl _)] at hrw
        refine JC.exit ?_
        refine JX.thenE ?_
        refine JX.thenE ?_
        refine JX.blockE ?_
        refine JX.thenN (hK18 _ _ ?_)
        refine JC.seq (fun K24 hK24 => ?_)
        refine JC.seq (fun K25 hK25 => ?_)
        refine JC.region ?_
        refine J.move rfl rfl ?_
        refine J.lenS rfl Ty.u47 rfl rfl ?_
        refine J.move rfl rfl ?_
        refine J.nil ?_
        refine JX.thenN (hK25 _ _ ?_)
        refine JC.block ?_
        refine JC.conseq (JC.cov (f := (fun st => [(13, .slice ab q.recs.length cb_), (15, vw), (91, .slice aa q.recs.length ca), (92, .int .i64 ((q.recs.length : Nat) : Int)), (93, .int .i64 ((st.1 : Nat) : Int))]) ((0, q.recs, lpa) : Nat × List (List UInt8) × List (Nat × Obj))) ⟨rfl, rfl, rfl, rfl, rfl, trivial⟩ (JC.loop (α := Nat × List (List UInt8) × List (Nat × Obj)) (fun st => [(13, .slice ab q.recs.length cb_), (15, vw), (91, .slice aa q.recs.length ca), (92, .int .i64 ((q.recs.length : Nat) : Int)), (93, .int .i64 ((st.1 : Nat) : Int))]) (fun st w' => (st.1 ≤ q.recs.length ∧ Recs 5 vsa st.2.1 st.2.2 ∧ ∀ j : Nat, (st.2.1.getD j []).length ≤ 1024) ∧ St w [] (st.2.2 ++ (lva ++ (lvb ++ (lpb ++ (lvw ++ lpw))))) w') (fun st => q.recs.length - st.1) ((0, q.recs, lpa) : Nat × List (List UInt8) × List (Nat × Obj)) (fun st => ?_))) (fun w hw => ⟨⟨Nat.zero_le _, hra, hsz⟩, hw.perm (by (refine perm_cnt (fun _ => ?_)); simp only [cntB_append, cntB_cons, cntB_nil, Nat.add_zero, Nat.zero_add]; try ac_rfl)⟩)
        obtain ⟨j, rs, lpr⟩ := st
        refine JC.pr (fun hx => ?_)
        obtain ⟨hj, hrr, hszr⟩ := hx
        simp only at hj hrr hszr ⊢
        have hlr := hrr.length
        refine JC.seq (fun K26 hK26 => ?_)
        refine JC.region ?_
        refine J.bin rfl rfl rfl rfl ?_
        refine J.nil ?_
        refine JX.thenN (hK26 _ _ ?_)
        refine JC.seq (fun K27 hK27 => ?_)
        refine JC.cond rfl (fun h5 => ?_) (fun h5 => ?_)
        · skip
          have hltj : j < q.recs.length := by simp at h5; omega
          obtain ⟨lp1, lpj, lp3, rfl, hvj, hback⟩ := recs_split hrr j (vsa[j]'(by omega)) (rs[j]'(by omega)) (List.getElem?_eq_getElem (by omega)) (List.getElem?_eq_getElem (by omega))
          obtain ⟨aj, cj, hej, _⟩ := hvj.form
          rw [hej] at hvj hback
          obtain ⟨m, hm⟩ : ∃ m, (rs[j]'(by omega)).length = m := ⟨_, rfl⟩
          rw [hm] at hvj hej hback
          have hmle : m ≤ 1024 := by
            have := hszr j
            rw [List.getD_eq_getElem?_getD, List.getElem?_eq_getElem (by omega), Option.getD_some, hm] at this
            exact this
          obtain ⟨qa, spa, hqa2, rfl, hal⟩ := vec_at hva hltj
          subst hqa2
          refine JC.skip ?_
          refine JX.thenN (hK27 _ _ ?_)
          refine JC.seq (fun K28 hK28 => ?_)
          refine JC.block ?_
          refine JC.seq (fun K29 hK29 => ?_)
          refine JC.region ?_
          refine J.indexAddrS Ty.el47 Ty.s28 rfl rfl (by omega) (by omega) rfl ?_
          refine J.perm ((qa, cb (vsa ++ spa) 28) :: (lp1 ++ (lpj ++ (lp3 ++ (lvb ++ (lpb ++ (lvw ++ lpw))))))) (by (refine perm_cnt (fun _ => ?_)); simp only [cntB_append, cntB_cons, cntB_nil, Nat.add_zero, Nat.zero_add]; try ac_rfl) ?_
          refine J.loadO (v := vsa[j]'(by omega)) Ty.a28 rfl (.head _) (at_val (by omega)) rfl ?_
          refine J.name 96 rfl hej ?_
          refine J.assign rfl rfl ?_
          refine J.nil ?_
          refine JX.thenN (hK29 _ _ ?_)
          refine JC.seq (fun K30 hK30 => ?_)
          refine JC.region ?_
          refine J.perm (lpj ++ (lp1 ++ (lp3 ++ ([(qa, cb (vsa ++ spa) 28)] ++ (lvb ++ (lpb ++ (lvw ++ lpw))))))) (by (refine perm_cnt (fun _ => ?_)); simp only [cntB_append, cntB_cons, cntB_nil, Nat.add_zero, Nat.zero_add]; try ac_rfl) ?_
          refine J.move rfl rfl ?_
          refine J.lenS rfl Ty.u28 rfl rfl ?_
          refine J.move rfl rfl ?_
          refine J.nil ?_
          refine JX.thenN (hK30 _ _ ?_)
          refine JC.block ?_
          refine JC.conseq (JC.cov (f := (fun st => [(13, .slice ab q.recs.length cb_), (15, vw), (91, .slice (some ⟨qa, 0, none⟩) q.recs.length ca), (92, .int .i64 ((q.recs.length : Nat) : Int)), (93, .int .i64 ((j : Nat) : Int)), (19, .slice aj m cj), (97, .slice aj m cj), (98, .int .i64 ((m : Nat) : Int)), (99, .int .i64 ((st.1 : Nat) : Int))]) ((0, (rs[j]'(by omega)), lpj) : Nat × List UInt8 × List (Nat × Obj))) ⟨rfl, rfl, rfl, rfl, rfl, rfl, rfl, rfl, rfl, trivial⟩ (JC.loop (α := Nat × List UInt8 × List (Nat × Obj)) (fun st => [(13, .slice ab q.recs.length cb_), (15, vw), (91, .slice (some ⟨qa, 0, none⟩) q.recs.length ca), (92, .int .i64 ((q.recs.length : Nat) : Int)), (93, .int .i64 ((j : Nat) : Int)), (19, .slice aj m cj), (97, .slice aj m cj), (98, .int .i64 ((m : Nat) : Int)), (99, .int .i64 ((st.1 : Nat) : Int))]) (fun st w' => (st.1 ≤ m ∧ Vec 5 1 (.slice aj m cj) m (st.2.1.map u8) st.2.2) ∧ St w [] (st.2.2 ++ ((lp1 ++ (lp3 ++ ([(qa, cb (vsa ++ spa) 28)] ++ (lvb ++ (lpb ++ (lvw ++ lpw)))))))) w') (fun st => m - st.1) ((0, (rs[j]'(by omega)), lpj) : Nat × List UInt8 × List (Nat × Obj)) (fun st => ?_))) (fun w hw => ⟨⟨Nat.zero_le _, hvj⟩, hw⟩)
          obtain ⟨jk, yk, lk⟩ := st
          refine JC.pr (fun hx => ?_)
          obtain ⟨hjk, hvk⟩ := hx
          simp only at hjk hvk ⊢
          refine JC.seq (fun K31 hK31 => ?_)
          refine JC.region ?_
          refine J.bin rfl rfl rfl rfl ?_
          refine J.nil ?_
          refine JX.thenN (hK31 _ _ ?_)
          refine JC.seq (fun K32 hK32 => ?_)
          refine JC.cond rfl (fun h6 => ?_) (fun h6 => ?_)
          · skip
            have hltk : jk < m := by simp at h6; omega
            obtain ⟨qk, sk, hqk, rfl, hyk, hfk⟩ := hvk.at hltk
            subst hqk
            refine JC.skip ?_
            refine JX.thenN (hK32 _ _ ?_)
            refine JC.seq (fun K33 hK33 => ?_)
            refine JC.block ?_
            refine JC.seq (fun K34 hK34 => ?_)
            refine JC.region ?_
            refine J.move rfl rfl ?_
            refine J.assign rfl rfl ?_
            refine J.nil ?_
            refine JX.thenN (hK34 _ _ ?_)
            refine JC.region ?_
            refine J.move rfl rfl ?_
            refine J.move rfl rfl ?_
            refine J.indexAddrS Ty.el28 Ty.s5 rfl rfl (by omega) (by omega) rfl ?_
            refine J.loadO (v := u8 (yk[jk]'(by omega))) Ty.a5 rfl (.head _) (at_u8 (by omega)) rfl ?_
            refine J.bin rfl rfl rfl rfl ?_
            refine J.name 106 rfl (u8_succ (yk[jk]'(by omega))) ?_
            refine J.indexAddrS Ty.el28 Ty.s5 rfl rfl (by omega) (by omega) rfl ?_
            refine J.storeO (vs := [u8 (yk[jk]'(by omega) + 1)]) Ty.s5 rfl rfl rfl rfl (by simp [Value.oneCell']) .here (by simp; omega) ?_
            refine J.nil ?_
            refine JX.blockN ?_
            refine JX.thenN (hK33 _ _ ?_)
            refine JC.region ?_
            (first | refine J.addN rfl rfl (by omega) (by omega) rfl ?_ | refine J.bin rfl rfl rfl rfl ?_)
            refine J.move rfl rfl ?_
            refine J.nil ?_
            refine JX.thenN ?_
            refine JX.again (jk + 1, yk.set jk (yk[jk]'(by omega) + 1), [(qk, cb (setMany (yk.map u8 ++ sk) (0 + (jk : Int).toNat * 1) [u8 (yk[jk]'(by omega) + 1)]) 5)]) ?_ ?_ ?_
            · simp only; omega
            · exact ⟨rfl, rfl, rfl, rfl, rfl, rfl, rfl, rfl, rfl, trivial⟩
            · exact fun w hw => ⟨⟨hltk, hfk _⟩, hw⟩
          · skip
            have hgek : jk = m := by simp at h6; omega
            refine JC.exit ?_
            refine JX.thenE ?_
            refine JX.thenE ?_
            refine JX.blockE ?_
            refine JX.blockN ?_
            refine JX.thenN (hK28 _ _ ?_)
            refine JC.region ?_
            (first | refine J.addN rfl rfl (by omega) (by omega) rfl ?_ | refine J.bin rfl rfl rfl rfl ?_)
            refine J.move rfl rfl ?_
            refine J.nil ?_
            subst hgek
            have hykl : yk.length = jk := by have := hvk.1; simpa using this
            refine JX.thenN ?_
            refine JX.again (j + 1, rs.set j yk, lp1 ++ (lk ++ lp3)) ?_ ?_ ?_
            · simp only; omega
            · exact ⟨rfl, rfl, rfl, rfl, rfl, trivial⟩
            · exact fun w1 hw => ⟨⟨hltj, hback yk lk (by rw [hykl]; exact hvk), fun j2 => getD_set_le hszr (by rw [hykl]; exact hmle) j2⟩, hw.perm (by (refine perm_cnt (fun _ => ?_)); simp only [cntB_append, cntB_cons, cntB_nil, Nat.add_zero, Nat.zero_add]; try ac_rfl)⟩
        · skip
          skip
          refine JC.exit ?_
          refine JX.thenE ?_
          refine JX.thenE ?_
          refine JX.blockE ?_
          refine JX.thenN (hK24 _ _ ?_)
          refine JC.seq (fun K35 hK35 => ?_)
          refine JC.region ?_
          refine J.move rfl rfl ?_
          refine J.move rfl rfl ?_
          refine J.callB (v := .bool true) (fun w1 w2 hw hb => hw.step hb) Ty.bd30 rfl rfl (fun w1 hw => by
            have h := sameAll_spec _ _ q.recs q.recs w1 (RowRecs.of (l := lpr ++ (lva ++ (lvw ++ lpw))) hvb hrb (hw.perm (by (refine perm_cnt (fun _ => ?_)); simp only [cntB_append, cntB_cons, cntB_nil, Nat.add_zero, Nat.zero_add]; try ac_rfl))) (RowRecs.of (l := lpr ++ (lva ++ (lvb ++ lpb))) hvw hrw (hw.perm (by (refine perm_cnt (fun _ => ?_)); simp only [cntB_append, cntB_cons, cntB_nil, Nat.add_zero, Nat.zero_add]; try ac_rfl))) (by omega)
            rw [decide_eq_true rfl] at h
            exact h) ?_
          refine J.assign rfl rfl ?_
          refine J.nil ?_
          refine JX.thenN (hK35 _ _ ?_)
          refine JC.ret ?_
          refine JX.ret1 rfl rfl (fun w hw => ?_)
          exact ⟨rfl, hw.below⟩
    · skip
      have hi4 : i ≤ 60 := by simp at h2; omega
      refine JC.skip ?_
      refine JX.thenN (hK11 _ _ ?_)
      refine JC.region ?_
      refine J.move rfl rfl ?_
      refine J.move rfl rfl ?_
      obtain ⟨e, q2, down2, σ2, happ, hI2, hk1, hk2, hg2, hg3, hcase, hdn⟩ := append_law (n := 400) (down := down) (rec_ := z.xs) (by omega) hI (by omega)
      have hb := hI.bounds (by omega)
      have hb2 := hI2.bounds (by omega)
      refine J.perm ([(lb, lgO d q down), (d, dkO s 400 σ.p σ.k), (s, dkS σ.B)] ++ ([])) (by (refine perm_cnt (fun _ => ?_)); simp only [cntB_append, cntB_cons, cntB_nil, Nat.add_zero, Nat.zero_add]; try ac_rfl) ?_
      refine J.callT (l1 := [(lb, lgO d q down), (d, dkO s 400 σ.p σ.k), (s, dkS σ.B)]) (L := [(lb, lgO d q2 down2), (d, dkO s 400 σ2.p σ2.k), (s, dkS σ2.B)]) Ty.bd28 rfl rfl (fun w1 hw => append_all lb d s 400 q down σ.B z.xs σ.p σ.k z.a z.xs.length z.c w1 hw.owns hI.len (by omega) (by omega) (by omega) hb.2.2.1 hb.2.2.2.1 hk (by omega) hI.p rfl (by omega) (hzr.st (.inr (by simp)) hw) (hzr.offNew hw (fun p hp => List.mem_append_left _ hp)) happ) ?_
      refine J.perm ((lb, lgO d q2 down2) :: (d, dkO s 400 σ2.p σ2.k) :: (s, dkS σ2.B) :: ([])) (by (refine perm_cnt (fun _ => ?_)); simp only [cntB_append, cntB_cons, cntB_nil, Nat.add_zero, Nat.zero_add]; try ac_rfl) ?_
      refine J.nil ?_
      refine JX.blockN ?_
      refine JX.thenN (hK9 _ _ ?_)
      refine JC.region ?_
      (first | refine J.addN rfl rfl (by omega) (by omega) rfl ?_ | refine J.bin rfl rfl rfl rfl ?_)
      refine J.move rfl rfl ?_
      refine J.nil ?_
      refine JX.thenN ?_
      refine JX.again (i + 1, q2, down2, σ2) ?_ ?_ ?_
      · simp only; omega
      · exact ⟨rfl, rfl, rfl, rfl, rfl, trivial⟩
      · exact fun w1 hw => ⟨⟨hlt, by simp only; omega, hI2, by simp only; omega, by simp only; omega, by simp only; omega⟩, hw⟩
  · skip
    have hge : i = o.xs.length := by simp at h1; omega
    refine JC.exit ?_
    refine JX.thenE ?_
    refine JX.thenE ?_
    refine JX.blockE ?_
    refine JX.thenN (hK5 _ _ ?_)
    refine JC.seq (fun K36 hK36 => ?_)
    refine JC.region ?_
    refine J.move rfl rfl ?_
    refine J.perm ([] ++ ((d, dkO s 400 σ.p σ.k) :: (s, dkS σ.B) :: (lb, lgO d q down) :: [])) (by (refine perm_cnt (fun _ => ?_)); simp only [cntB_append, cntB_cons, cntB_nil, Nat.add_zero, Nat.zero_add]; try ac_rfl) ?_
    refine J.callS (l1 := []) Ty.bd26 rfl rfl (fun w1 hw => open_good d s 400 q σ w1 (St.owns (l1 := [(d, dkO s 400 σ.p σ.k), (s, dkS σ.B)]) (l := (lb, lgO d q down) :: []) (hw.perm (by (refine perm_cnt (fun _ => ?_)); simp only [cntB_append, cntB_cons, cntB_nil, Nat.add_zero, Nat.zero_add]; try ac_rfl))) hI (by omega)) (fun x hx1 => ?_)
    obtain ⟨l1, va, vsa, lva, lpa⟩ := x
    obtain ⟨hva, hra⟩ := hx1
    simp only at hva hra ⊢
    refine J.perm ((l1, lgO d q false) :: (d, dkO s 400 σ.p σ.k) :: (s, dkS σ.B) :: (lb, lgO d q down) :: (lva ++ lpa)) (by (refine perm_cnt (fun _ => ?_)); simp only [cntB_append, cntB_cons, cntB_nil, Nat.add_zero, Nat.zero_add]; try ac_rfl) ?_
    obtain ⟨aa, ca, rfl, _⟩ := hva.form
    refine J.move rfl rfl ?_
    refine J.extract rfl rfl rfl ?_
    refine J.extract rfl rfl rfl ?_
    refine J.extract rfl rfl rfl ?_
    refine J.assign rfl rfl ?_
    refine J.assign rfl rfl ?_
    refine J.assign rfl rfl ?_
    refine J.nil ?_
    refine JX.thenN (hK36 _ _ ?_)
    refine JC.seq (fun K37 hK37 => ?_)
    refine JC.region ?_
    refine J.move rfl rfl ?_
    refine J.perm ([] ++ ((d, dkO s 400 σ.p σ.k) :: (s, dkS σ.B) :: (l1, lgO d q false) :: (lb, lgO d q down) :: (lva ++ lpa))) (by (refine perm_cnt (fun _ => ?_)); simp only [cntB_append, cntB_cons, cntB_nil, Nat.add_zero, Nat.zero_add]; try ac_rfl) ?_
    refine J.callS (l1 := []) Ty.bd26 rfl rfl (fun w1 hw => open_good d s 400 q σ w1 (St.owns (l1 := [(d, dkO s 400 σ.p σ.k), (s, dkS σ.B)]) (l := (l1, lgO d q false) :: (lb, lgO d q down) :: (lva ++ lpa)) (hw.perm (by (refine perm_cnt (fun _ => ?_)); simp only [cntB_append, cntB_cons, cntB_nil, Nat.add_zero, Nat.zero_add]; try ac_rfl))) hI (by omega)) (fun x hx1 => ?_)
    obtain ⟨l2, vb, vsb, lvb, lpb⟩ := x
    obtain ⟨hvb, hrb⟩ := hx1
    simp only at hvb hrb ⊢
    refine J.perm ((l2, lgO d q false) :: (l1, lgO d q false) :: (d, dkO s 400 σ.p σ.k) :: (s, dkS σ.B) :: (lb, lgO d q down) :: (lva ++ (lpa ++ (lvb ++ lpb)))) (by (refine perm_cnt (fun _ => ?_)); simp only [cntB_append, cntB_cons, cntB_nil, Nat.add_zero, Nat.zero_add]; try ac_rfl) ?_
    obtain ⟨ab, cb_, rfl, _⟩ := hvb.form
    have hqb := hI.bounds (by omega)
    have hla := hra.length
    have hlb := hrb.length
    refine J.move rfl rfl ?_
    refine J.extract rfl rfl rfl ?_
    refine J.extract rfl rfl rfl ?_
    refine J.extract rfl rfl rfl ?_
    refine J.assign rfl rfl ?_
    refine J.assign rfl rfl ?_
    refine J.assign rfl rfl ?_
    refine J.nil ?_
    refine JX.thenN (hK37 _ _ ?_)
    refine JC.seq (fun K38 hK38 => ?_)
    refine JC.seq (fun K39 hK39 => ?_)
    refine JC.region ?_
    refine J.move rfl rfl ?_
    refine J.lenS rfl Ty.u47 rfl rfl ?_
    refine J.move rfl rfl ?_
    refine J.callB (fun w1 w2 hw hb => hw.step hb) Ty.bd29 rfl rfl (fun w1 hw => len_spec lb d q down w1 (St.owns' (l := (lb, lgO d q down) :: (l2, lgO d q false) :: (l1, lgO d q false) :: (d, dkO s 400 σ.p σ.k) :: (s, dkS σ.B) :: (lva ++ (lpa ++ (lvb ++ lpb)))) (hw.perm (by (refine perm_cnt (fun _ => ?_)); simp only [cntB_append, cntB_cons, cntB_nil, Nat.add_zero, Nat.zero_add]; try ac_rfl)))) ?_
    refine J.bin rfl rfl rfl rfl ?_
    refine J.name 71 rfl (show Value.bool _ = .bool false by rw [hqb.2.2.2.2]; simp) ?_
    have hsz := hI.sizes
    refine J.move rfl rfl ?_
    first
      | (refine J.skip rfl rfl rfl rfl rfl ?_)
      | (refine J.skipU rfl rfl rfl rfl ?_)
      | (refine J.unguard rfl rfl rfl ?_; refine J.move rfl rfl ?_)
    first
      | (refine J.skip rfl rfl rfl rfl rfl ?_)
      | (refine J.skipU rfl rfl rfl rfl ?_)
      | (refine J.unguard rfl rfl rfl ?_; refine J.move rfl rfl ?_)
    refine J.unguard rfl rfl rfl ?_
    refine J.callB (v := .bool true) (fun w1 w2 hw hb => hw.step hb) Ty.bd30 rfl rfl (fun w1 hw => by
      have h := sameAll_spec _ _ q.recs q.recs w1 (RowRecs.of (l := (l2, lgO d q false) :: (l1, lgO d q false) :: (d, dkO s 400 σ.p σ.k) :: (s, dkS σ.B) :: (lb, lgO d q down) :: (lvb ++ lpb)) hva hra (hw.perm (by (refine perm_cnt (fun _ => ?_)); simp only [cntB_append, cntB_cons, cntB_nil, Nat.add_zero, Nat.zero_add]; try ac_rfl))) (RowRecs.of (l := (l2, lgO d q false) :: (l1, lgO d q false) :: (d, dkO s 400 σ.p σ.k) :: (s, dkS σ.B) :: (lb, lgO d q down) :: (lva ++ lpa)) hvb hrb (hw.perm (by (refine perm_cnt (fun _ => ?_)); simp only [cntB_append, cntB_cons, cntB_nil, Nat.add_zero, Nat.zero_add]; try ac_rfl))) (by omega)
      rw [decide_eq_true rfl] at h
      exact h) ?_
    first
      | (refine J.skip rfl rfl rfl rfl rfl ?_)
      | (refine J.skipU rfl rfl rfl rfl ?_)
      | (refine J.unguard rfl rfl rfl ?_; refine J.not rfl rfl ?_)
    (first | refine J.pickT rfl rfl rfl ?_ | refine J.pickF rfl rfl rfl ?_)
    refine J.nil ?_
    refine JX.thenN (hK39 _ _ ?_)
    first | refine JC.condF rfl ?_ | refine JC.cond rfl (fun h => by first | (exfalso; simp at h; omega) | (simp at h)) (fun _ => ?_)
    refine JC.skip ?_
    refine JX.thenN (hK38 _ _ ?_)
    refine JC.seq (fun K40 hK40 => ?_)
    refine JC.region ?_
    refine J.assign rfl rfl ?_
    refine J.nil ?_
    refine JX.thenN (hK40 _ _ ?_)
    refine JC.seq (fun K41 hK41 => ?_)
    refine JC.seq (fun K42 hK42 => ?_)
    refine JC.region ?_
    refine J.move rfl rfl ?_
    refine J.lenS rfl Ty.u47 rfl rfl ?_
    refine J.move rfl rfl ?_
    refine J.nil ?_
    refine JX.thenN (hK42 _ _ ?_)
    refine JC.block ?_
    refine JC.conseq (JC.cov (f := (fun st => [(10, .slice aa q.recs.length ca), (13, .slice ab q.recs.length cb_), (15, st.v9), (78, .slice ab q.recs.length cb_), (79, .int .i64 ((q.recs.length : Nat) : Int)), (80, .int .i64 ((st.j : Nat) : Int))]) (⟨0, [], .slice none 0 0, [], []⟩ : WSt)) ⟨rfl, rfl, rfl, rfl, rfl, rfl, trivial⟩ (JC.loop (α := WSt) (fun st => [(10, .slice aa q.recs.length ca), (13, .slice ab q.recs.length cb_), (15, st.v9), (78, .slice ab q.recs.length cb_), (79, .int .i64 ((q.recs.length : Nat) : Int)), (80, .int .i64 ((st.j : Nat) : Int))]) (fun st w' => (st.j ≤ q.recs.length ∧ Vec 28 1 st.v9 st.j st.vs st.lv ∧ Recs 5 st.vs (q.recs.take st.j) st.lps) ∧ St w [] (st.lv ++ (st.lps ++ (lva ++ (lpa ++ (lvb ++ lpb))))) w') (fun st => q.recs.length - st.j) (⟨0, [], .slice none 0 0, [], []⟩ : WSt) (fun st => ?_))) (fun w hw => ⟨⟨Nat.zero_le _, Vec.nil _ _, .nil⟩, hw.drop (.cons _ (.cons _ (.cons _ (.cons _ (List.sublist_cons_self _ _)))))⟩)
    obtain ⟨j, vsw, vw, lvw, lpw⟩ := st
    refine JC.pr (fun hx => ?_)
    obtain ⟨hj, hvw, hrw⟩ := hx
    simp only at hj hvw hrw ⊢
    refine JC.seq (fun K43 hK43 => ?_)
    refine JC.region ?_
    refine J.bin rfl rfl rfl rfl ?_
    refine J.nil ?_
    refine JX.thenN (hK43 _ _ ?_)
    refine JC.seq (fun K44 hK44 => ?_)
    refine JC.cond rfl (fun h4 => ?_) (fun h4 => ?_)
    · skip
      have hltj : j < q.recs.length := by simp at h4; omega
      obtain ⟨qb, spb, hqb2, rfl, hbl⟩ := vec_at hvb hltj
      subst hqb2
      have hrow := fun (w1 : World) (l : List (Nat × Obj)) (hw : St w [] (lpb ++ l) w1) => hrb.row hw j vsb[j] q.recs[j] (List.getElem?_eq_getElem (by omega)) (List.getElem?_eq_getElem hltj)
      have hmz : (q.recs[j]).length ≤ 1024 := by
        have := hsz j
        rw [List.getD_eq_getElem?_getD, List.getElem?_eq_getElem hltj, Option.getD_some] at this
        exact this
      refine JC.skip ?_
      refine JX.thenN (hK44 _ _ ?_)
      refine JC.seq (fun K45 hK45 => ?_)
      refine JC.block ?_
      refine JC.seq (fun K46 hK46 => ?_)
      refine JC.region ?_
      refine J.indexAddrS Ty.el47 Ty.s28 rfl rfl (by omega) (by omega) rfl ?_
      refine J.perm ((qb, cb (vsb ++ spb) 28) :: (lvw ++ (lpw ++ (lva ++ (lpa ++ lpb))))) (by (refine perm_cnt (fun _ => ?_)); simp only [cntB_append, cntB_cons, cntB_nil, Nat.add_zero, Nat.zero_add]; try ac_rfl) ?_
      refine J.loadO (v := vsb[j]) Ty.a28 rfl (.head _) (at_val (by omega)) rfl ?_
      refine J.assign rfl rfl ?_
      refine J.nil ?_
      refine JX.thenN (hK46 _ _ ?_)
      refine JC.region ?_
      refine J.move rfl rfl ?_
      refine J.buildSl Ty.el28 Ty.s5 Ty.z5 rfl rfl rfl rfl rfl rfl rfl (fun b85 => ?_)
      refine J.move rfl rfl ?_
      refine J.append (lp := [(b85, cb [] 5)]) (xs := []) (ys := q.recs[j].map u8) (k := 0) (m := q.recs[j].length) Ty.el28 Ty.s5 Ty.b5 Ty.z5 rfl (.inl ⟨5, Ty.u28⟩) rfl rfl ⟨rfl, .inr ⟨b85, 0, [], rfl, rfl, rfl, Nat.le_refl _⟩⟩ (fun w1 hw => .inl (hrow w1 ([(b85, cb [] 5)] ++ (lvw ++ (lpw ++ (lva ++ (lpa ++ [(qb, cb (vsb ++ spb) 28)]))))) (hw.perm (by (refine perm_cnt (fun _ => ?_)); simp only [cntB_append, cntB_cons, cntB_nil, Nat.add_zero, Nat.zero_add]; try ac_rfl)))) (by simp) (one_u8 _) (by omega) (by omega) rfl (fun v87 lp87 hv87 => ?_)
      rw [Nat.zero_add, List.nil_append] at hv87
      obtain ⟨a87, c87, rfl, hc87⟩ := hv87.form
      refine J.buildSl Ty.el47 Ty.s28 Ty.z28 rfl rfl rfl rfl rfl rfl rfl (fun b88 => ?_)
      refine J.perm ((b88, cb [.slice a87 (q.recs[j].length) c87] 28) :: (lp87 ++ ((qb, cb (vsb ++ spb) 28) :: (lvw ++ (lpw ++ (lva ++ (lpa ++ lpb))))))) (.refl _) ?_
      refine J.perm (lvw ++ ([(b88, cb [.slice a87 (q.recs[j].length) c87] 28)] ++ (lp87 ++ (lpw ++ (lva ++ (lpa ++ ([(qb, cb (vsb ++ spb) 28)] ++ lpb))))))) (by (refine perm_cnt (fun _ => ?_)); simp only [cntB_append, cntB_cons, cntB_nil, Nat.add_zero, Nat.zero_add]; try ac_rfl) ?_
      refine J.append (lp := lvw) (ys := [.slice a87 (q.recs[j].length) c87]) (m := 1) Ty.el47 Ty.s28 Ty.b28 Ty.z28 rfl (.inl ⟨28, Ty.u47⟩) rfl rfl hvw (fun w1 hw => .inl (Row.own (cs := [.slice a87 (q.recs[j].length) c87]) (tb := 28) (fr := (0, 0)) hw (List.mem_append_right _ (.head _)) rfl (Nat.le_refl _))) rfl (by simp [Value.oneCell']) (by omega) (by omega) rfl (fun v89 lv89 hv89 => ?_)
      refine J.assign rfl rfl ?_
      refine J.nil ?_
      refine JX.blockN ?_
      refine JX.thenN (hK45 _ _ ?_)
      refine JC.region ?_
      (first | refine J.addN rfl rfl (by omega) (by omega) rfl ?_ | refine J.bin rfl rfl rfl rfl ?_)
      refine J.move rfl rfl ?_
      refine J.nil ?_
      refine JX.thenN ?_
      refine JX.again (⟨j + 1, vsw ++ [.slice a87 (q.recs[j].length) c87], v89, lv89, lpw ++ lp87⟩ : WSt) ?_ ?_ ?_
      · simp only; omega
      · exact ⟨rfl, rfl, rfl, rfl, rfl, rfl, trivial⟩
      · exact fun w1 hw => ⟨⟨hltj, hv89, by simp only; rw [take_add_one hltj]; exact .snoc hrw hv87⟩, (hw.perm (l' := [(b88, cb [.slice a87 (q.recs[j].length) c87] 28)] ++ (lv89 ++ ((lpw ++ lp87) ++ ([(qb, cb (vsb ++ spb) 28)] ++ (lva ++ (lpa ++ lpb)))))) (by (refine perm_cnt (fun _ => ?_)); simp only [cntB_append, cntB_cons, cntB_nil, Nat.add_zero, Nat.zero_add]; try ac_rfl)).drop (List.sublist_append_right _ _) |>.perm (by (refine perm_cnt (fun _ => ?_)); simp only [cntB_append, cntB_cons, cntB_nil, Nat.add_zero, Nat.zero_add]; try ac_rfl)⟩
    · skip
      obtain rfl : j = q.recs.length := by simp at h4; omega
      rw [List.take_of_length_le (Nat.le_refl _)] at hrw
      refine JC.exit ?_
      refine JX.thenE ?_
      refine JX.thenE ?_
      refine JX.blockE ?_
      refine JX.thenN (hK41 _ _ ?_)
      refine JC.seq (fun K47 hK47 => ?_)
      refine JC.seq (fun K48 hK48 => ?_)
      refine JC.region ?_
      refine J.move rfl rfl ?_
      refine J.lenS rfl Ty.u47 rfl rfl ?_
      refine J.move rfl rfl ?_
      refine J.nil ?_
      refine JX.thenN (hK48 _ _ ?_)
      refine JC.block ?_
      refine JC.conseq (JC.cov (f := (fun st => [(13, .slice ab q.recs.length cb_), (15, vw), (91, .slice aa q.recs.length ca), (92, .int .i64 ((q.recs.length : Nat) : Int)), (93, .int .i64 ((st.1 : Nat) : Int))]) ((0, q.recs, lpa) : Nat × List (List UInt8) × List (Nat × Obj))) ⟨rfl, rfl, rfl, rfl, rfl, trivial⟩ (JC.loop (α := Nat × List (List UInt8) × List (Nat × Obj)) (fun st => [(13, .slice ab q.recs.length cb_), (15, vw), (91, .slice aa q.recs.length ca), (92, .int .i64 ((q.recs.length : Nat) : Int)), (93, .int .i64 ((st.1 : Nat) : Int))]) (fun st w' => (st.1 ≤ q.recs.length ∧ Recs 5 vsa st.2.1 st.2.2 ∧ ∀ j : Nat, (st.2.1.getD j []).length ≤ 1024) ∧ St w [] (st.2.2 ++ (lva ++ (lvb ++ (lpb ++ (lvw ++ lpw))))) w') (fun st => q.recs.length - st.1) ((0, q.recs, lpa) : Nat × List (List UInt8) × List (Nat × Obj)) (fun st => ?_))) (fun w hw => ⟨⟨Nat.zero_le _, hra, hsz⟩, hw.perm (by (refine perm_cnt (fun _ => ?_)); simp only [cntB_append, cntB_cons, cntB_nil, Nat.add_zero, Nat.zero_add]; try ac_rfl)⟩)
      obtain ⟨j, rs, lpr⟩ := st
      refine JC.pr (fun hx => ?_)
      obtain ⟨hj, hrr, hszr⟩ := hx
      simp only at hj hrr hszr ⊢
      have hlr := hrr.length
      refine JC.seq (fun K49 hK49 => ?_)
      refine JC.region ?_
      refine J.bin rfl rfl rfl rfl ?_
      refine J.nil ?_
      refine JX.thenN (hK49 _ _ ?_)
      refine JC.seq (fun K50 hK50 => ?_)
      refine JC.cond rfl (fun h5 => ?_) (fun h5 => ?_)
      · skip
        have hltj : j < q.recs.length := by simp at h5; omega
        obtain ⟨lp1, lpj, lp3, rfl, hvj, hback⟩ := recs_split hrr j (vsa[j]'(by omega)) (rs[j]'(by omega)) (List.getElem?_eq_getElem (by omega)) (List.getElem?_eq_getElem (by omega))
        obtain ⟨aj, cj, hej, _⟩ := hvj.form
        rw [hej] at hvj hback
        obtain ⟨m, hm⟩ : ∃ m, (rs[j]'(by omega)).length = m := ⟨_, rfl⟩
        rw [hm] at hvj hej hback
        have hmle : m ≤ 1024 := by
          have := hszr j
          rw [List.getD_eq_getElem?_getD, List.getElem?_eq_getElem (by omega), Option.getD_some, hm] at this
          exact this
        obtain ⟨qa, spa, hqa2, rfl, hal⟩ := vec_at hva hltj
        subst hqa2
        refine JC.skip ?_
        refine JX.thenN (hK50 _ _ ?_)
        refine JC.seq (fun K51 hK51 => ?_)
        refine JC.block ?_
        refine JC.seq (fun K52 hK52 => ?_)
        refine JC.region ?_
        refine J.indexAddrS Ty.el47 Ty.s28 rfl rfl (by omega) (by omega) rfl ?_
        refine J.perm ((qa, cb (vsa ++ spa) 28) :: (lp1 ++ (lpj ++ (lp3 ++ (lvb ++ (lpb ++ (lvw ++ lpw))))))) (by (refine perm_cnt (fun _ => ?_)); simp only [cntB_append, cntB_cons, cntB_nil, Nat.add_zero, Nat.zero_add]; try ac_rfl) ?_
        refine J.loadO (v := vsa[j]'(by omega)) Ty.a28 rfl (.head _) (at_val (by omega)) rfl ?_
        refine J.name 96 rfl hej ?_
        refine J.assign rfl rfl ?_
        refine J.nil ?_
        refine JX.thenN (hK52 _ _ ?_)
        refine JC.seq (fun K53 hK53 => ?_)
        refine JC.region ?_
        refine J.perm (lpj ++ (lp1 ++ (lp3 ++ ([(qa, cb (vsa ++ spa) 28)] ++ (lvb ++ (lpb ++ (lvw ++ lpw))))))) (by (refine perm_cnt (fun _ => ?_)); simp only [cntB_append, cntB_cons, cntB_nil, Nat.add_zero, Nat.zero_add]; try ac_rfl) ?_
        refine J.move rfl rfl ?_
        refine J.lenS rfl Ty.u28 rfl rfl ?_
        refine J.move rfl rfl ?_
        refine J.nil ?_
        refine JX.thenN (hK53 _ _ ?_)
        refine JC.block ?_
        refine JC.conseq (JC.cov (f := (fun st => [(13, .slice ab q.recs.length cb_), (15, vw), (91, .slice (some ⟨qa, 0, none⟩) q.recs.length ca), (92, .int .i64 ((q.recs.length : Nat) : Int)), (93, .int .i64 ((j : Nat) : Int)), (19, .slice aj m cj), (97, .slice aj m cj), (98, .int .i64 ((m : Nat) : Int)), (99, .int .i64 ((st.1 : Nat) : Int))]) ((0, (rs[j]'(by omega)), lpj) : Nat × List UInt8 × List (Nat × Obj))) ⟨rfl, rfl, rfl, rfl, rfl, rfl, rfl, rfl, rfl, trivial⟩ (JC.loop (α := Nat × List UInt8 × List (Nat × Obj)) (fun st => [(13, .slice ab q.recs.length cb_), (15, vw), (91, .slice (some ⟨qa, 0, none⟩) q.recs.length ca), (92, .int .i64 ((q.recs.length : Nat) : Int)), (93, .int .i64 ((j : Nat) : Int)), (19, .slice aj m cj), (97, .slice aj m cj), (98, .int .i64 ((m : Nat) : Int)), (99, .int .i64 ((st.1 : Nat) : Int))]) (fun st w' => (st.1 ≤ m ∧ Vec 5 1 (.slice aj m cj) m (st.2.1.map u8) st.2.2) ∧ St w [] (st.2.2 ++ ((lp1 ++ (lp3 ++ ([(qa, cb (vsa ++ spa) 28)] ++ (lvb ++ (lpb ++ (lvw ++ lpw)))))))) w') (fun st => m - st.1) ((0, (rs[j]'(by omega)), lpj) : Nat × List UInt8 × List (Nat × Obj)) (fun st => ?_))) (fun w hw => ⟨⟨Nat.zero_le _, hvj⟩, hw⟩)
        obtain ⟨jk, yk, lk⟩ := st
        refine JC.pr (fun hx => ?_)
        obtain ⟨hjk, hvk⟩ := hx
        simp only at hjk hvk ⊢
        refine JC.seq (fun K54 hK54 => ?_)
        refine JC.region ?_
        refine J.bin rfl rfl rfl rfl ?_
        refine J.nil ?_
        refine JX.thenN (hK54 _ _ ?_)
        refine JC.seq (fun K55 hK55 => ?_)
        refine JC.cond rfl (fun h6 => ?_) (fun h6 => ?_)
        · skip
          have hltk : jk < m := by simp at h6; omega
          obtain ⟨qk, sk, hqk, rfl, hyk, hfk⟩ := hvk.at hltk
          subst hqk
          refine JC.skip ?_
          refine JX.thenN (hK55 _ _ ?_)
          refine JC.seq (fun K56 hK56 => ?_)
          refine JC.block ?_
          refine JC.seq (fun K57 hK57 => ?_)
          refine JC.region ?_
          refine J.move rfl rfl ?_
          refine J.assign rfl rfl ?_
          refine J.nil ?_
          refine JX.thenN (hK57 _ _ ?_)
          refine JC.region ?_
          refine J.move rfl rfl ?_
          refine J.move rfl rfl ?_
          refine J.indexAddrS Ty.el28 Ty.s5 rfl rfl (by omega) (by omega) rfl ?_
          refine J.loadO (v := u8 (yk[jk]'(by omega))) Ty.a5 rfl (.head _) (at_u8 (by omega)) rfl ?_
          refine J.bin rfl rfl rfl rfl ?_
          refine J.name 106 rfl (u8_succ (yk[jk]'(by omega))) ?_
          refine J.indexAddrS Ty.el28 Ty.s5 rfl rfl (by omega) (by omega) rfl ?_
          refine J.storeO (vs := [u8 (yk[jk]'(by omega) + 1)]) Ty.s5 rfl rfl rfl rfl (by simp [Value.oneCell']) .here (by simp; omega) ?_
          refine J.nil ?_
          refine JX.blockN ?_
          refine JX.thenN (hK56 _ _ ?_)
          refine JC.region ?_
          (first | refine J.addN rfl rfl (by omega) (by omega) rfl ?_ | refine J.bin rfl rfl rfl rfl ?_)
          refine J.move rfl rfl ?_
          refine J.nil ?_
          refine JX.thenN ?_
          refine JX.again (jk + 1, yk.set jk (yk[jk]'(by omega) + 1), [(qk, cb (setMany (yk.map u8 ++ sk) (0 + (jk : Int).toNat * 1) [u8 (yk[jk]'(by omega) + 1)]) 5)]) ?_ ?_ ?_
          · simp only; omega
          · exact ⟨rfl, rfl, rfl, rfl, rfl, rfl, rfl, rfl, rfl, trivial⟩
          · exact fun w hw => ⟨⟨hltk, hfk _⟩, hw⟩
        · skip
          have hgek : jk = m := by simp at h6; omega
          refine JC.exit ?_
          refine JX.thenE ?_
          refine JX.thenE ?_
          refine JX.blockE ?_
          refine JX.blockN ?_
          refine JX.thenN (hK51 _ _ ?_)
          refine JC.region ?_
          (first | refine J.addN rfl rfl (by omega) (by omega) rfl ?_ | refine J.bin rfl rfl rfl rfl ?_)
          refine J.move rfl rfl ?_
          refine J.nil ?_
          subst hgek
          have hykl : yk.length = jk := by have := hvk.1; simpa using this
          refine JX.thenN ?_
          refine JX.again (j + 1, rs.set j yk, lp1 ++ (lk ++ lp3)) ?_ ?_ ?_
          · simp only; omega
          · exact ⟨rfl, rfl, rfl, rfl, rfl, trivial⟩
          · exact fun w1 hw => ⟨⟨hltj, hback yk lk (by rw [hykl]; exact hvk), fun j2 => getD_set_le hszr (by rw [hykl]; exact hmle) j2⟩, hw.perm (by (refine perm_cnt (fun _ => ?_)); simp only [cntB_append, cntB_cons, cntB_nil, Nat.add_zero, Nat.zero_add]; try ac_rfl)⟩
      · skip
        skip
        refine JC.exit ?_
        refine JX.thenE ?_
        refine JX.thenE ?_
        refine JX.blockE ?_
        refine JX.thenN (hK47 _ _ ?_)
        refine JC.seq (fun K58 hK58 => ?_)
        refine JC.region ?_
        refine J.move rfl rfl ?_
        refine J.move rfl rfl ?_
        refine J.callB (v := .bool true) (fun w1 w2 hw hb => hw.step hb) Ty.bd30 rfl rfl (fun w1 hw => by
          have h := sameAll_spec _ _ q.recs q.recs w1 (RowRecs.of (l := lpr ++ (lva ++ (lvw ++ lpw))) hvb hrb (hw.perm (by (refine perm_cnt (fun _ => ?_)); simp only [cntB_append, cntB_cons, cntB_nil, Nat.add_zero, Nat.zero_add]; try ac_rfl))) (RowRecs.of (l := lpr ++ (lva ++ (lvb ++ lpb))) hvw hrw (hw.perm (by (refine perm_cnt (fun _ => ?_)); simp only [cntB_append, cntB_cons, cntB_nil, Nat.add_zero, Nat.zero_add]; try ac_rfl))) (by omega)
          rw [decide_eq_true rfl] at h
          exact h) ?_
        refine J.assign rfl rfl ?_
        refine J.nil ?_
        refine JX.thenN (hK58 _ _ ?_)
        refine JC.ret ?_
        refine JX.ret1 rfl rfl (fun w hw => ?_)
        exact ⟨rfl, hw.below⟩

end Go.Proofs.Ytlmbpfgiadbjaaa
