/-
  The laws of layer 6 (slate): walks, third part.
-/
import Derived.Test.YtlmbpfgiadbjaaaSi
namespace Go.Proofs.Ytlmbpfgiadbjaaa
open Go.J Go.RowKit
set_option linter.unusedVariables false
set_option linter.unusedSimpArgs false
set_option maxRecDepth 8000
structure GSt where
  k : Nat
  at_ : Nat
  q : LogP
  σ : DS
  vs : List Value
  v9 : Value
  lv : List (Nat × Obj)
  lps : List (Nat × Obj)

theorem slateGoes_walk (w : World) (o : Sl (Sl UInt8)) (ho : RSl 1 24 (RSl 1 1 RU8) w [o.v] o) (c : Sl Int) (hc : RSl 1 8 (RInt .i64) w [c.v] c) :
    Calls Try.prog 11 [o.v, c.v].toArray w fun r w' => r = .returned (.bool true) ∧ Below w.heap.size w w' := by
  have hol0 := reach_len6 ho
  have hcl0 := reach_len6 hc
  refine calls_of_J (args := [o.v, c.v]) (e := [(0, o.v), (1, c.v)]) Try.func11 rfl rfl ⟨rfl, rfl, trivial⟩ (St.start w) ?_
  refine JC.seq (fun K0 hK0 => ?_)
  refine JC.region ?_
  refine J.assign rfl rfl ?_
  refine J.nil ?_
  refine JX.thenN (hK0 _ _ ?_)
  refine JC.seq (fun K1 hK1 => ?_)
  refine JC.region ?_
  refine J.callS (l1 := []) Ty.bd14 rfl rfl (fun w1 hw => new_spec _ w1) (fun x _ => ?_)
  obtain ⟨d, s⟩ := x
  simp only [List.append_nil, show (min (max (400 : Int) 0) 4096).toNat = 400 from rfl]
  obtain ⟨σ0, hσ0⟩ : ∃ σ0 : DS, σ0 = (⟨List.replicate 25600 0, -1, 0⟩ : DS) := ⟨_, rfl⟩
  have hI0 : LogI 400 ⟨0, 0, 0, []⟩ σ0 := by subst hσ0; exact ⟨List.length_replicate, openP_zero (n := 400) (by omega) (by omega), by simp only; omega⟩
  have hk00 : σ0.k = 0 := by rw [hσ0]
  refine J.perm ((d, dkO s 400 σ0.p σ0.k) :: (s, dkS σ0.B) :: []) (by subst hσ0; exact .refl _) ?_
  refine J.assign rfl rfl ?_
  refine J.nil ?_
  refine JX.thenN (hK1 _ _ ?_)
  refine JC.seq (fun K2 hK2 => ?_)
  refine JC.seq (fun K3 hK3 => ?_)
  refine JC.region ?_
  refine J.move rfl rfl ?_
  refine J.eqNil Ty.u23 rfl rfl rfl ?_
  refine J.move rfl rfl ?_
  first
    | (refine J.skip rfl rfl rfl rfl rfl ?_)
    | (refine J.skipU rfl rfl rfl rfl ?_)
    | (refine J.unguard rfl rfl rfl ?_; refine J.callB (fun w1 w2 hw hb => hw.step hb) Ty.bd27 rfl rfl (fun w1 hw => fixed6 w1) ?_)
  first
    | (refine J.skip rfl rfl rfl rfl rfl ?_)
    | (refine J.skipU rfl rfl rfl rfl ?_)
    | (refine J.unguard rfl rfl rfl ?_; refine J.not rfl rfl ?_)
  (first | refine J.pickT rfl rfl rfl ?_ | refine J.pickF rfl rfl rfl ?_)
  refine J.nil ?_
  refine JX.thenN (hK3 _ _ ?_)
  first | refine JC.condF rfl ?_ | refine JC.cond rfl (fun h => by first | (exfalso; simp at h; omega) | (simp at h)) (fun _ => ?_)
  refine JC.skip ?_
  refine JX.thenN (hK2 _ _ ?_)
  refine JC.seq (fun K4 hK4 => ?_)
  refine JC.region ?_
  skip
  refine J.assign rfl rfl ?_
  refine J.nil ?_
  refine JX.thenN (hK4 _ _ ?_)
  refine JC.seq (fun K5 hK5 => ?_)
  refine JC.region ?_
  refine J.assign rfl rfl ?_
  refine J.nil ?_
  refine JX.thenN (hK5 _ _ ?_)
  refine JC.seq (fun K6 hK6 => ?_)
  refine JC.seq (fun K7 hK7 => ?_)
  refine JC.region ?_
  refine J.assign rfl rfl ?_
  refine J.nil ?_
  refine JX.thenN (hK7 _ _ ?_)
  refine JC.block ?_
  refine JC.conseq (JC.cov (f := (fun st => [(0, o.v), (1, c.v), (5, .pointer (some ⟨d, 0, none⟩)), (6, st.v9), (7, .int .i64 ((st.at_ : Nat) : Int)), (8, .int .i64 ((st.k : Nat) : Int))]) (⟨0, 0, ⟨0, 0, 0, []⟩, σ0, [], .slice none 0 0, [], []⟩ : GSt)) ⟨rfl, rfl, rfl, rfl, rfl, rfl, trivial⟩ (JC.loop (α := GSt) (fun st => [(0, o.v), (1, c.v), (5, .pointer (some ⟨d, 0, none⟩)), (6, st.v9), (7, .int .i64 ((st.at_ : Nat) : Int)), (8, .int .i64 ((st.k : Nat) : Int))]) (fun st w' => (st.k ≤ 20 ∧ st.at_ ≤ 60 ∧ st.at_ ≤ o.xs.length ∧ LogI 400 st.q st.σ ∧ st.q.gen ≤ st.at_ ∧ 0 ≤ st.σ.k ∧ st.σ.k ≤ 19 * ((st.at_ : Nat) : Int) + 19 * ((st.k : Nat) : Int) ∧ Vec 28 1 st.v9 st.q.recs.length st.vs st.lv ∧ Recs 5 st.vs st.q.recs st.lps) ∧ St w [] ((d, dkO s 400 st.σ.p st.σ.k) :: (s, dkS st.σ.B) :: (st.lv ++ st.lps)) w') (fun st => 20 - st.k) (⟨0, 0, ⟨0, 0, 0, []⟩, σ0, [], .slice none 0 0, [], []⟩ : GSt) (fun st => ?_))) (fun w hw => ⟨⟨by show 0 ≤ 20; omega, by show 0 ≤ 60; omega, Nat.zero_le _, hI0, Nat.le_refl _, by show 0 ≤ σ0.k; omega, by show σ0.k ≤ 19 * ((0 : Nat) : Int) + 19 * ((0 : Nat) : Int); omega, Vec.nil _ _, .nil⟩, hw⟩)
  obtain ⟨kk, at_, q, σ, vs, v9, lv, lps⟩ := st
  refine JC.pr (fun hx => ?_)
  obtain ⟨hkk, hat, hat2, hI, hg, hk, hk3, hvo, hro⟩ := hx
  simp only at hkk hat hat2 hI hg hk hk3 hvo hro ⊢
  refine JC.seq (fun K8 hK8 => ?_)
  refine JC.seq (fun K9 hK9 => ?_)
  refine JC.region ?_
  refine J.move rfl rfl ?_
  refine J.move rfl rfl ?_
  refine J.lenS rfl Ty.u57 rfl rfl ?_
  refine J.bin rfl rfl rfl rfl ?_
  refine J.move rfl rfl ?_
  refine J.split 27 rfl (fun hs27 => ?_) (fun hs27 => ?_)
  · skip
    try simp only [decide_eq_true_eq, decide_eq_false_iff_not, Int.not_lt, Int.not_le] at hs27
    first
      | (refine J.skip rfl rfl rfl rfl rfl ?_)
      | (refine J.skipU rfl rfl rfl rfl ?_)
      | (refine J.unguard rfl rfl rfl ?_; refine J.move rfl rfl ?_)
    first
      | (refine J.skip rfl rfl rfl rfl rfl ?_)
      | (refine J.skipU rfl rfl rfl rfl ?_)
      | (refine J.unguard rfl rfl rfl ?_; refine J.bin rfl rfl rfl rfl ?_)
    (first | refine J.pickT rfl rfl rfl ?_ | refine J.pickF rfl rfl rfl ?_)
    refine J.nil ?_
    refine JX.thenN (hK9 _ _ ?_)
    refine JC.cond rfl (fun h1 => ?_) (fun h1 => ?_)
    · skip
      have hk20 : kk < 20 := by simp at h1; omega
      refine JC.skip ?_
      refine JX.thenN (hK8 _ _ ?_)
      refine JC.seq (fun K10 hK10 => ?_)
      refine JC.block ?_
      refine JC.seq (fun K11 hK11 => ?_)
      refine JC.region ?_
      refine J.move rfl rfl ?_
      refine J.perm ([] ++ ((d, dkO s 400 σ.p σ.k) :: (s, dkS σ.B) :: (lv ++ lps))) (by (refine perm_cnt (fun _ => ?_)); simp only [cntB_append, cntB_cons, cntB_nil, Nat.add_zero, Nat.zero_add]; try ac_rfl) ?_
      refine J.callS (l1 := []) Ty.bd26 rfl rfl (fun w1 hw => open_good d s 400 q σ w1 (St.owns (l1 := [(d, dkO s 400 σ.p σ.k), (s, dkS σ.B)]) (l := (lv ++ lps)) (hw.perm (by (refine perm_cnt (fun _ => ?_)); simp only [cntB_append, cntB_cons, cntB_nil, Nat.add_zero, Nat.zero_add]; try ac_rfl))) hI (by omega)) (fun x hx1 => ?_)
      obtain ⟨lb, vg, vsg, lvg, lpsg⟩ := x
      obtain ⟨hvlb, hrlb⟩ := hx1
      simp only at hvlb hrlb ⊢
      refine J.perm ((lb, lgO d q false) :: (d, dkO s 400 σ.p σ.k) :: (s, dkS σ.B) :: (lv ++ (lps ++ (lvg ++ lpsg)))) (by (refine perm_cnt (fun _ => ?_)); simp only [cntB_append, cntB_cons, cntB_nil, Nat.add_zero, Nat.zero_add]; try ac_rfl) ?_
      refine J.move rfl rfl ?_
      refine J.extract rfl rfl rfl ?_
      refine J.extract rfl rfl rfl ?_
      refine J.extract rfl rfl rfl ?_
      refine J.assign rfl rfl ?_
      refine J.assign rfl rfl ?_
      refine J.assign rfl rfl ?_
      refine J.nil ?_
      refine JX.thenN (hK11 _ _ ?_)
      refine JC.seq (fun K12 hK12 => ?_)
      refine JC.seq (fun K13 hK13 => ?_)
      refine JC.region ?_
      refine J.move rfl rfl ?_
      refine J.eqNil Ty.u48 rfl rfl rfl ?_
      refine J.move rfl rfl ?_
      first
        | (refine J.skip rfl rfl rfl rfl rfl ?_)
        | (refine J.skipU rfl rfl rfl rfl ?_)
        | (refine J.unguard rfl rfl rfl ?_; refine J.move rfl rfl ?_)
      first
        | (refine J.skip rfl rfl rfl rfl rfl ?_)
        | (refine J.skipU rfl rfl rfl rfl ?_)
        | (refine J.unguard rfl rfl rfl ?_; refine J.bin rfl rfl rfl rfl ?_)
      (first | refine J.pickT rfl rfl rfl ?_ | refine J.pickF rfl rfl rfl ?_)
      refine J.move rfl rfl ?_
      first
        | (refine J.skip rfl rfl rfl rfl rfl ?_)
        | (refine J.skipU rfl rfl rfl rfl ?_)
        | (refine J.unguard rfl rfl rfl ?_; refine J.move rfl rfl ?_)
      first
        | (refine J.skip rfl rfl rfl rfl rfl ?_)
        | (refine J.skipU rfl rfl rfl rfl ?_)
        | (refine J.unguard rfl rfl rfl ?_; refine J.move rfl rfl ?_)
      refine J.unguard rfl rfl rfl ?_
      refine J.callB (v := .bool true) (fun w1 w2 hw hb => hw.step hb) Ty.bd30 rfl rfl (fun w1 hw => by
        have h := sameAll_spec _ _ q.recs q.recs w1 (RowRecs.of (l := (lb, lgO d q false) :: (d, dkO s 400 σ.p σ.k) :: (s, dkS σ.B) :: (lv ++ lps)) hvlb hrlb (hw.perm (by (refine perm_cnt (fun _ => ?_)); simp only [cntB_append, cntB_cons, cntB_nil, Nat.add_zero, Nat.zero_add]; try ac_rfl))) (RowRecs.of (l := (lb, lgO d q false) :: (d, dkO s 400 σ.p σ.k) :: (s, dkS σ.B) :: (lvg ++ lpsg)) hvo hro (hw.perm (by (refine perm_cnt (fun _ => ?_)); simp only [cntB_append, cntB_cons, cntB_nil, Nat.add_zero, Nat.zero_add]; try ac_rfl))) (by have := hI.bounds (by omega); omega)
        rw [decide_eq_true rfl] at h
        exact h) ?_
      first
        | (refine J.skip rfl rfl rfl rfl rfl ?_)
        | (refine J.skipU rfl rfl rfl rfl ?_)
        | (refine J.unguard rfl rfl rfl ?_; refine J.not rfl rfl ?_)
      (first | refine J.pickT rfl rfl rfl ?_ | refine J.pickF rfl rfl rfl ?_)
      refine J.nil ?_
      refine JX.thenN (hK13 _ _ ?_)
      first | refine JC.condF rfl ?_ | refine JC.cond rfl (fun h => by first | (exfalso; simp at h; omega) | (simp at h)) (fun _ => ?_)
      refine JC.skip ?_
      refine JX.thenN (hK12 _ _ ?_)
      refine JC.seq (fun K14 hK14 => ?_)
      refine JC.region ?_
      refine J.move rfl rfl ?_
      refine J.perm ([(d, dkO s 400 σ.p σ.k)] ++ ((lb, lgO d q false) :: (s, dkS σ.B) :: (lv ++ (lps ++ (lvg ++ lpsg))))) (by (refine perm_cnt (fun _ => ?_)); simp only [cntB_append, cntB_cons, cntB_nil, Nat.add_zero, Nat.zero_add]; try ac_rfl) ?_
      refine J.callT (l1 := [(d, dkO s 400 σ.p σ.k)]) (L := [(d, dkO s 400 (max (-1) (-1)) σ.k)]) Ty.bd19 rfl rfl (fun w1 hw => power_spec d s 400 σ.p σ.k (-1) w1 hw.owns) ?_
      refine J.perm ((d, dkO s 400 (max (-1) (-1)) σ.k) :: (lb, lgO d q false) :: (s, dkS σ.B) :: (lv ++ (lps ++ (lvg ++ lpsg)))) (.refl _) ?_
      refine J.nil ?_
      refine JX.thenN (hK14 _ _ ?_)
      refine JC.seqCut (α := DS) (fun _ => [(0, o.v), (1, c.v), (5, .pointer (some ⟨d, 0, none⟩)), (6, v9), (7, .int .i64 ((at_ : Nat) : Int)), (8, .int .i64 ((kk : Nat) : Int)), (9, .pointer (some ⟨lb, 0, none⟩))]) (fun σ1 w' => (LogI 400 q σ1 ∧ 0 ≤ σ1.k ∧ σ1.k ≤ 19 * ((at_ : Nat) : Int) + 19 * ((kk : Nat) : Int)) ∧ St w [] ((lb, lgO d q false) :: (d, dkO s 400 σ1.p σ1.k) :: (s, dkS σ1.B) :: (lv ++ lps)) w') (fun σ1 => ?_) (fun K15 hK15 => ?_)
      · skip
        refine JC.pr (fun hx => ?_)
        obtain ⟨hI1, hk10, hk11⟩ := hx
        refine JC.block ?_
        refine JC.conseq (JC.cov (f := (fun st => [(0, o.v), (1, c.v), (5, .pointer (some ⟨d, 0, none⟩)), (6, st.v9), (7, .int .i64 ((st.i : Nat) : Int)), (8, .int .i64 ((kk : Nat) : Int)), (9, .pointer (some ⟨lb, 0, none⟩))]) (⟨at_, q, false, σ1, vs, v9, lv, lps⟩ : KSt)) ⟨rfl, rfl, rfl, rfl, rfl, rfl, rfl, trivial⟩ (JC.loop (α := KSt) (fun st => [(0, o.v), (1, c.v), (5, .pointer (some ⟨d, 0, none⟩)), (6, st.v9), (7, .int .i64 ((st.i : Nat) : Int)), (8, .int .i64 ((kk : Nat) : Int)), (9, .pointer (some ⟨lb, 0, none⟩))]) (fun st w' => (st.i ≤ 60 ∧ st.i ≤ o.xs.length ∧ LogI 400 st.q st.σ ∧ st.q.gen ≤ st.i ∧ 0 ≤ st.σ.k ∧ st.σ.k ≤ 19 * ((st.i : Nat) : Int) + 19 * ((kk : Nat) : Int) ∧ Vec 28 1 st.v9 st.q.recs.length st.vs st.lv ∧ Recs 5 st.vs st.q.recs st.lps) ∧ St w [] ((lb, lgO d st.q st.down) :: (d, dkO s 400 st.σ.p st.σ.k) :: (s, dkS st.σ.B) :: (st.lv ++ st.lps)) w') (fun st => 60 - st.i) (⟨at_, q, false, σ1, vs, v9, lv, lps⟩ : KSt) (fun st => ?_))) (fun w hw => ⟨⟨hat, hat2, hI1, hg, hk10, hk11, hvo, hro⟩, hw⟩)
        obtain ⟨at2, qi, downi, σi, vsi, vi, lvi, lpsi⟩ := st
        refine JC.pr (fun hx => ?_)
        obtain ⟨hai, hai2, hIi, hgi, hki, hk3i, hvi, hri⟩ := hx
        simp only at hai hai2 hIi hgi hki hk3i hvi hri ⊢
        refine JC.seq (fun K16 hK16 => ?_)
        refine JC.seq (fun K17 hK17 => ?_)
        refine JC.region ?_
        refine J.move rfl rfl ?_
        refine J.move rfl rfl ?_
        refine J.lenS rfl Ty.u47 rfl rfl ?_
        refine J.bin rfl rfl rfl rfl ?_
        refine J.move rfl rfl ?_
        refine J.split 70 rfl (fun hs70 => ?_) (fun hs70 => ?_)
        · skip
          try simp only [decide_eq_true_eq, decide_eq_false_iff_not, Int.not_lt, Int.not_le] at hs70
          first
            | (refine J.skip rfl rfl rfl rfl rfl ?_)
            | (refine J.skipU rfl rfl rfl rfl ?_)
            | (refine J.unguard rfl rfl rfl ?_; refine J.move rfl rfl ?_)
          first
            | (refine J.skip rfl rfl rfl rfl rfl ?_)
            | (refine J.skipU rfl rfl rfl rfl ?_)
            | (refine J.unguard rfl rfl rfl ?_; refine J.bin rfl rfl rfl rfl ?_)
          (first | refine J.pickT rfl rfl rfl ?_ | refine J.pickF rfl rfl rfl ?_)
          refine J.nil ?_
          refine JX.thenN (hK17 _ _ ?_)
          refine JC.cond rfl (fun h4 => ?_) (fun h4 => ?_)
          · skip
            have hlt : at2 < o.xs.length := by omega
            obtain ⟨ob, oo, oc, hoa, hol, hocc, hor⟩ := ho.at hlt
            generalize o.xs[at2] = z at hor
            obtain rfl : oc = [z.v] := hor.1
            have hzr := hor.row
            have hzl := reach_len6 hor
            have hlt60 : at2 < 60 := by simp at h4; omega
            refine JC.skip ?_
            refine JX.thenN (hK16 _ _ ?_)
            refine JC.seq (fun K18 hK18 => ?_)
            refine JC.block ?_
            refine JC.seq (fun K19 hK19 => ?_)
            refine JC.region ?_
            refine J.move rfl rfl ?_
            refine J.move rfl rfl ?_
            refine J.move rfl rfl ?_
            refine J.name 77 rfl (show o.v = Value.slice (some ⟨ob, oo, none⟩) o.xs.length o.c by simp only [Sl.v, hoa]) ?_
            refine J.indexAddrS Ty.el47 Ty.s28 rfl rfl (by omega) (by omega) rfl ?_
            refine J.name 77 rfl (show Value.slice (some ⟨ob, oo, none⟩) o.xs.length o.c = o.v by simp only [Sl.v, hoa]) ?_
            refine J.loadR (v := z.v) Ty.a28 rfl (by have := hocc 0 (by simp); simpa using this) (by simp) rfl ?_
            obtain ⟨e, q2, down2, σ2, happ, hI2, hk1, hk2, hg2, hg3, hcase, hdn⟩ := append_law (n := 400) (down := downi) (rec_ := z.xs) (by omega) hIi (by omega)
            have hb := hIi.bounds (by omega)
            have hb2 := hI2.bounds (by omega)
            refine J.perm ([(lb, lgO d qi downi), (d, dkO s 400 σi.p σi.k), (s, dkS σi.B)] ++ (lvi ++ lpsi)) (by (refine perm_cnt (fun _ => ?_)); simp only [cntB_append, cntB_cons, cntB_nil, Nat.add_zero, Nat.zero_add]; try ac_rfl) ?_
            refine J.callT (l1 := [(lb, lgO d qi downi), (d, dkO s 400 σi.p σi.k), (s, dkS σi.B)]) (L := [(lb, lgO d q2 down2), (d, dkO s 400 σ2.p σ2.k), (s, dkS σ2.B)]) Ty.bd28 rfl rfl (fun w1 hw => append_all lb d s 400 qi downi σi.B z.xs σi.p σi.k z.a z.xs.length z.c w1 hw.owns hIi.len (by omega) (by omega) (by omega) hb.2.2.1 hb.2.2.2.1 hki (by omega) hIi.p rfl (by omega) (hzr.st (.inr (by simp)) hw) (hzr.offNew hw (fun p hp => List.mem_append_left _ hp)) happ) ?_
            refine J.perm ((lb, lgO d q2 down2) :: (d, dkO s 400 σ2.p σ2.k) :: (s, dkS σ2.B) :: (lvi ++ lpsi)) (by (refine perm_cnt (fun _ => ?_)); simp only [cntB_append, cntB_cons, cntB_nil, Nat.add_zero, Nat.zero_add]; try ac_rfl) ?_
            refine J.assign rfl rfl ?_
            refine J.nil ?_
            refine JX.thenN (hK19 _ _ ?_)
            refine JC.seq (fun K20 hK20 => ?_)
            refine JC.region ?_
            refine J.move rfl rfl ?_
            refine J.bin rfl rfl rfl rfl ?_
            refine J.nil ?_
            refine JX.thenN (hK20 _ _ ?_)
            refine JC.cond rfl (fun h5 => ?_) (fun h5 => ?_)
            · skip
              have he : e = 0 := by simpa using h5
              have hrec : q2.recs = qi.recs ++ [z.xs] := by
                rcases hcase with h | h
                · exact h.2
                · exact absurd he h.1
              refine JC.region ?_
              refine J.move rfl rfl ?_
              refine J.buildSl Ty.el28 Ty.s5 Ty.z5 rfl rfl rfl rfl rfl rfl rfl (fun b85 => ?_)
              refine J.move rfl rfl ?_
              refine J.move rfl rfl ?_
              refine J.name 86 rfl (show o.v = Value.slice (some ⟨ob, oo, none⟩) o.xs.length o.c by simp only [Sl.v, hoa]) ?_
              refine J.indexAddrS Ty.el47 Ty.s28 rfl rfl (by omega) (by omega) rfl ?_
              refine J.name 86 rfl (show Value.slice (some ⟨ob, oo, none⟩) o.xs.length o.c = o.v by simp only [Sl.v, hoa]) ?_
              refine J.loadR (v := z.v) Ty.a28 rfl (by have := hocc 0 (by simp); simpa using this) (by simp) rfl ?_
              refine J.append (lp := [(b85, cb [] 5)]) (xs := []) (ys := z.xs.map u8) (k := 0) (m := z.xs.length) Ty.el28 Ty.s5 Ty.b5 Ty.z5 rfl (.inl ⟨5, Ty.u28⟩) rfl rfl ⟨rfl, .inr ⟨b85, 0, [], rfl, rfl, rfl, Nat.le_refl _⟩⟩ (fun w1 hw => .inl (hzr.st (.inr (by simp)) hw)) (by simp) (one_u8 _) (by omega) (by omega) rfl (fun v90 lp90 hv90 => ?_)
              rw [Nat.zero_add, List.nil_append] at hv90
              obtain ⟨a90, c90, rfl, hc90⟩ := hv90.form
              refine J.buildSl Ty.el47 Ty.s28 Ty.z28 rfl rfl rfl rfl rfl rfl rfl (fun b91 => ?_)
              refine J.perm ((b91, cb [.slice a90 (z.xs.length) c90] 28) :: (lp90 ++ ((lb, lgO d q2 down2) :: (d, dkO s 400 σ2.p σ2.k) :: (s, dkS σ2.B) :: (lvi ++ lpsi)))) (.refl _) ?_
              refine J.perm (lvi ++ ([(b91, cb [.slice a90 (z.xs.length) c90] 28)] ++ (lp90 ++ ((lb, lgO d q2 down2) :: (d, dkO s 400 σ2.p σ2.k) :: (s, dkS σ2.B) :: lpsi)))) (by (refine perm_cnt (fun _ => ?_)); simp only [cntB_append, cntB_cons, cntB_nil, Nat.add_zero, Nat.zero_add]; try ac_rfl) ?_
              refine J.append (lp := lvi) (ys := [.slice a90 (z.xs.length) c90]) (m := 1) Ty.el47 Ty.s28 Ty.b28 Ty.z28 rfl (.inl ⟨28, Ty.u47⟩) rfl rfl hvi (fun w1 hw => .inl (Row.own (cs := [.slice a90 (z.xs.length) c90]) (tb := 28) (fr := (0, 0)) hw (List.mem_append_right _ (.head _)) rfl (Nat.le_refl _))) rfl (by simp [Value.oneCell']) (by omega) (by omega) rfl (fun v92 lv92 hv92 => ?_)
              refine J.assign rfl rfl ?_
              refine J.nil ?_
              refine JX.blockN ?_
              refine JX.thenN (hK18 _ _ ?_)
              refine JC.region ?_
              refine J.move rfl rfl ?_
              (first | refine J.addN rfl rfl (by omega) (by omega) rfl ?_ | refine J.bin rfl rfl rfl rfl ?_)
              refine J.assign rfl rfl ?_
              refine J.nil ?_
              refine JX.thenN ?_
              refine JX.again (⟨at2 + 1, q2, down2, σ2, vsi ++ [.slice a90 (z.xs.length) c90], v92, lv92, lpsi ++ lp90⟩ : KSt) ?_ ?_ ?_
              · simp only; omega
              · exact ⟨rfl, rfl, rfl, rfl, rfl, rfl, rfl, trivial⟩
              · exact fun w1 hw => ⟨⟨by simp only; omega, by simp only; omega, hI2, by simp only; omega, by simp only; omega, by simp only; omega, by simp only; rw [hrec, List.length_append]; exact hv92, by simp only; rw [hrec]; exact .snoc hri hv90⟩, (hw.perm (l' := [(b91, cb [.slice a90 (z.xs.length) c90] 28)] ++ ((lb, lgO d q2 down2) :: (d, dkO s 400 σ2.p σ2.k) :: (s, dkS σ2.B) :: (lv92 ++ (lpsi ++ lp90)))) (by (refine perm_cnt (fun _ => ?_)); simp only [cntB_append, cntB_cons, cntB_nil, Nat.add_zero, Nat.zero_add]; try ac_rfl)).drop (List.sublist_append_right _ _)⟩
            · skip
              have he : e ≠ 0 := by simpa using h5
              have hq2 : q2 = qi := by
                rcases hcase with h | h
                · exact absurd h.1 he
                · exact h.2
              refine JC.seq (fun K21 hK21 => ?_)
              refine JC.region ?_
              refine J.move rfl rfl ?_
              refine J.bin rfl rfl rfl rfl ?_
              refine J.nil ?_
              refine JX.thenN (hK21 _ _ ?_)
              refine JC.cond rfl (fun h6 => ?_) (fun h6 => ?_)
              · skip
                try simp only [decide_eq_true_eq, decide_eq_false_iff_not, beq_iff_eq, bne_iff_ne, bne_eq_false_iff_eq, ne_eq, beq_eq_false_iff_ne, Bool.not_eq_true, Bool.not_eq_false, Int.not_lt, Int.not_le] at h6
                refine JC.exit ?_
                refine JX.blockO rfl ?_
                refine JX.thenE ?_
                refine JX.thenE ?_
                refine JX.blockE ?_
                refine JX.blockN ?_
                refine JX.thenN (hK10 _ _ ?_)
                refine JC.region ?_
                refine J.move rfl rfl ?_
                (first | refine J.addN rfl rfl (by omega) (by omega) rfl ?_ | refine J.bin rfl rfl rfl rfl ?_)
                refine J.assign rfl rfl ?_
                refine J.nil ?_
                refine JX.thenN ?_
                refine JX.again (⟨kk + 1, at2, q2, σ2, vsi, vi, lvi, lpsi⟩ : GSt) ?_ ?_ ?_
                · simp only; omega
                · exact ⟨rfl, rfl, rfl, rfl, rfl, rfl, trivial⟩
                · exact fun w1 hw => ⟨⟨by simp only; omega, by simp only; omega, by simp only; omega, hI2, by simp only; rw [hq2]; omega, by simp only; omega, by simp only; omega, by simp only; rw [hq2]; exact hvi, by simp only; rw [hq2]; exact hri⟩, hw.drop (List.sublist_cons_self _ _)⟩
              · skip
                try simp only [decide_eq_true_eq, decide_eq_false_iff_not, beq_iff_eq, bne_iff_ne, bne_eq_false_iff_eq, ne_eq, beq_eq_false_iff_ne, Bool.not_eq_true, Bool.not_eq_false, Int.not_lt, Int.not_le] at h6
                refine JC.skip ?_
                refine JX.blockN ?_
                refine JX.thenN (hK18 _ _ ?_)
                refine JC.region ?_
                refine J.move rfl rfl ?_
                (first | refine J.addN rfl rfl (by omega) (by omega) rfl ?_ | refine J.bin rfl rfl rfl rfl ?_)
                refine J.assign rfl rfl ?_
                refine J.nil ?_
                refine JX.thenN ?_
                refine JX.again (⟨at2 + 1, q2, down2, σ2, vsi, vi, lvi, lpsi⟩ : KSt) ?_ ?_ ?_
                · simp only; omega
                · exact ⟨rfl, rfl, rfl, rfl, rfl, rfl, rfl, trivial⟩
                · exact fun w1 hw => ⟨⟨by simp only; omega, by simp only; omega, hI2, by simp only; omega, by simp only; omega, by simp only; omega, by simp only; rw [hq2]; exact hvi, by simp only; rw [hq2]; exact hri⟩, hw⟩
          · skip
            try simp only [decide_eq_true_eq, decide_eq_false_iff_not, beq_iff_eq, bne_iff_ne, bne_eq_false_iff_eq, ne_eq, beq_eq_false_iff_ne, Bool.not_eq_true, Bool.not_eq_false, Int.not_lt, Int.not_le] at h4
            refine JC.exit ?_
            refine JX.thenE ?_
            refine JX.thenE ?_
            refine JX.blockE ?_
            refine JX.blockN ?_
            refine JX.thenN (hK10 _ _ ?_)
            refine JC.region ?_
            refine J.move rfl rfl ?_
            (first | refine J.addN rfl rfl (by omega) (by omega) rfl ?_ | refine J.bin rfl rfl rfl rfl ?_)
            refine J.assign rfl rfl ?_
            refine J.nil ?_
            refine JX.thenN ?_
            refine JX.again (⟨kk + 1, at2, qi, σi, vsi, vi, lvi, lpsi⟩ : GSt) ?_ ?_ ?_
            · simp only; omega
            · exact ⟨rfl, rfl, rfl, rfl, rfl, rfl, trivial⟩
            · exact fun w1 hw => ⟨⟨by simp only; omega, by simp only; omega, by simp only; omega, hIi, by simp only; omega, hki, by simp only; omega, hvi, hri⟩, hw.drop (List.sublist_cons_self _ _)⟩
        · skip
          try simp only [decide_eq_true_eq, decide_eq_false_iff_not, Int.not_lt, Int.not_le] at hs70
          first
            | (refine J.skip rfl rfl rfl rfl rfl ?_)
            | (refine J.skipU rfl rfl rfl rfl ?_)
            | (refine J.unguard rfl rfl rfl ?_; refine J.move rfl rfl ?_)
          first
            | (refine J.skip rfl rfl rfl rfl rfl ?_)
            | (refine J.skipU rfl rfl rfl rfl ?_)
            | (refine J.unguard rfl rfl rfl ?_; refine J.bin rfl rfl rfl rfl ?_)
          (first | refine J.pickT rfl rfl rfl ?_ | refine J.pickF rfl rfl rfl ?_)
          refine J.nil ?_
          refine JX.thenN (hK17 _ _ ?_)
          first | refine JC.condF rfl ?_ | refine JC.cond rfl (fun h => by first | (exfalso; simp at h; omega) | (simp at h)) (fun _ => ?_)
          refine JC.exit ?_
          refine JX.thenE ?_
          refine JX.thenE ?_
          refine JX.blockE ?_
          refine JX.blockN ?_
          refine JX.thenN (hK10 _ _ ?_)
          refine JC.region ?_
          refine J.move rfl rfl ?_
          (first | refine J.addN rfl rfl (by omega) (by omega) rfl ?_ | refine J.bin rfl rfl rfl rfl ?_)
          refine J.assign rfl rfl ?_
          refine J.nil ?_
          refine JX.thenN ?_
          refine JX.again (⟨kk + 1, at2, qi, σi, vsi, vi, lvi, lpsi⟩ : GSt) ?_ ?_ ?_
          · simp only; omega
          · exact ⟨rfl, rfl, rfl, rfl, rfl, rfl, trivial⟩
          · exact fun w1 hw => ⟨⟨by simp only; omega, by simp only; omega, by simp only; omega, hIi, by simp only; omega, hki, by simp only; omega, hvi, hri⟩, hw.drop (List.sublist_cons_self _ _)⟩
      · skip
        refine JC.seq (fun K22 hK22 => ?_)
        refine JC.region ?_
        refine J.move rfl rfl ?_
        refine J.move rfl rfl ?_
        refine J.lenS rfl Ty.u57 rfl rfl ?_
        refine J.bin rfl rfl rfl rfl ?_
        refine J.nil ?_
        refine JX.thenN (hK22 _ _ ?_)
        refine JC.cond rfl (fun h3 => ?_) (fun h3 => ?_)
        · skip
          have hlc : kk < c.xs.length := by simp at h3; omega
          obtain ⟨cb_, co, cc, hca, hcl, hcc, hcr⟩ := hc.at hlc
          generalize c.xs[kk] = y at hcr
          obtain ⟨rfl, hyw⟩ := hcr
          refine JC.region ?_
          refine J.move rfl rfl ?_
          refine J.move rfl rfl ?_
          refine J.move rfl rfl ?_
          refine J.name 58 rfl (show c.v = Value.slice (some ⟨cb_, co, none⟩) c.xs.length c.c by simp only [Sl.v, hca]) ?_
          refine J.indexAddrS Ty.el57 Ty.s3 rfl rfl (by omega) (by omega) rfl ?_
          refine J.loadR (v := .int .i64 y) Ty.a3 rfl (by have := hcc 0 (by simp); simpa using this) (by simp) rfl ?_
          refine J.convInt Ty.u3 Ty.u54 rfl rfl ?_
          refine J.bin rfl rfl rfl rfl ?_
          refine J.convInt Ty.u54 Ty.u3 rfl rfl ?_
          refine J.name 64 rfl (umod y 12 (by omega) (by omega)) ?_
          obtain ⟨V, hV⟩ : ∃ V : Nat, (y % 18446744073709551616 % ((12 : Nat) : Int)).toNat = V := ⟨_, rfl⟩
          have hV2 := umod_lt y 12 (by omega)
          rw [hV] at hV2 ⊢
          refine J.perm ([(d, dkO s 400 (max (-1) (-1)) σ.k)] ++ ((lb, lgO d q false) :: (s, dkS σ.B) :: (lv ++ (lps ++ (lvg ++ lpsg))))) (.refl _) ?_
          refine J.callT (l1 := [(d, dkO s 400 (max (-1) (-1)) σ.k)]) (L := [(d, dkO s 400 (max ((V : Nat) : Int) (-1)) σ.k)]) Ty.bd19 rfl rfl (fun w1 hw => power_spec d s 400 (max (-1) (-1)) σ.k ((V : Nat) : Int) w1 hw.owns) ?_
          refine J.perm ((d, dkO s 400 (max ((V : Nat) : Int) (-1)) σ.k) :: (lb, lgO d q false) :: (s, dkS σ.B) :: (lv ++ (lps ++ (lvg ++ lpsg)))) (.refl _) ?_
          refine J.nil ?_
          refine JX.thenN ?_
          exact JX.cut (hK15 (⟨σ.B, max ((V : Nat) : Int) (-1), σ.k⟩ : DS)) ⟨rfl, rfl, rfl, rfl, rfl, rfl, rfl, trivial⟩ (fun w1 hw => ⟨⟨⟨hI.len, hI.open_, by simp only; omega⟩, hk, hk3⟩, (hw.perm (l' := (lvg ++ lpsg) ++ ((lb, lgO d q false) :: (d, dkO s 400 (⟨σ.B, max ((V : Nat) : Int) (-1), σ.k⟩ : DS).p σ.k) :: (s, dkS σ.B) :: (lv ++ lps))) (by (refine perm_cnt (fun _ => ?_)); simp only [cntB_append, cntB_cons, cntB_nil, Nat.add_zero, Nat.zero_add]; try ac_rfl)).drop (List.sublist_append_right _ _)⟩)
        · skip
          try simp only [decide_eq_true_eq, decide_eq_false_iff_not, beq_iff_eq, bne_iff_ne, bne_eq_false_iff_eq, ne_eq, beq_eq_false_iff_ne, Bool.not_eq_true, Bool.not_eq_false, Int.not_lt, Int.not_le] at h3
          refine JC.skip ?_
          refine JX.thenN ?_
          exact JX.cut (hK15 (⟨σ.B, max (-1) (-1), σ.k⟩ : DS)) ⟨rfl, rfl, rfl, rfl, rfl, rfl, rfl, trivial⟩ (fun w1 hw => ⟨⟨⟨hI.len, hI.open_, by simp only; omega⟩, hk, hk3⟩, (hw.perm (l' := (lvg ++ lpsg) ++ ((lb, lgO d q false) :: (d, dkO s 400 (⟨σ.B, max (-1) (-1), σ.k⟩ : DS).p σ.k) :: (s, dkS σ.B) :: (lv ++ lps))) (by (refine perm_cnt (fun _ => ?_)); simp only [cntB_append, cntB_cons, cntB_nil, Nat.add_zero, Nat.zero_add]; try ac_rfl)).drop (List.sublist_append_right _ _)⟩)
    · skip
      skip
      refine JC.exit ?_
      refine JX.thenE ?_
      refine JX.thenE ?_
      refine JX.blockE ?_
      refine JX.thenN (hK6 _ _ ?_)
      refine JC.seq (fun K23 hK23 => ?_)
      refine JC.region ?_
      refine J.move rfl rfl ?_
      refine J.perm ([] ++ ((d, dkO s 400 σ.p σ.k) :: (s, dkS σ.B) :: (lv ++ lps))) (by (refine perm_cnt (fun _ => ?_)); simp only [cntB_append, cntB_cons, cntB_nil, Nat.add_zero, Nat.zero_add]; try ac_rfl) ?_
      refine J.callS (l1 := []) Ty.bd26 rfl rfl (fun w1 hw => open_good d s 400 q σ w1 (St.owns (l1 := [(d, dkO s 400 σ.p σ.k), (s, dkS σ.B)]) (l := (lv ++ lps)) (hw.perm (by (refine perm_cnt (fun _ => ?_)); simp only [cntB_append, cntB_cons, cntB_nil, Nat.add_zero, Nat.zero_add]; try ac_rfl))) hI (by omega)) (fun x hx1 => ?_)
      obtain ⟨lb, vg, vsg, lvg, lpsg⟩ := x
      obtain ⟨hvlb, hrlb⟩ := hx1
      simp only at hvlb hrlb ⊢
      refine J.perm ((lb, lgO d q false) :: (d, dkO s 400 σ.p σ.k) :: (s, dkS σ.B) :: (lv ++ (lps ++ (lvg ++ lpsg)))) (by (refine perm_cnt (fun _ => ?_)); simp only [cntB_append, cntB_cons, cntB_nil, Nat.add_zero, Nat.zero_add]; try ac_rfl) ?_
      refine J.move rfl rfl ?_
      refine J.extract rfl rfl rfl ?_
      refine J.extract rfl rfl rfl ?_
      refine J.extract rfl rfl rfl ?_
      refine J.assign rfl rfl ?_
      refine J.assign rfl rfl ?_
      refine J.assign rfl rfl ?_
      refine J.nil ?_
      refine JX.thenN (hK23 _ _ ?_)
      refine JC.seq (fun K24 hK24 => ?_)
      refine JC.region ?_
      refine J.move rfl rfl ?_
      refine J.bin rfl rfl rfl rfl ?_
      refine J.move rfl rfl ?_
      first
        | (refine J.skip rfl rfl rfl rfl rfl ?_)
        | (refine J.skipU rfl rfl rfl rfl ?_)
        | (refine J.unguard rfl rfl rfl ?_; refine J.move rfl rfl ?_)
      first
        | (refine J.skip rfl rfl rfl rfl rfl ?_)
        | (refine J.skipU rfl rfl rfl rfl ?_)
        | (refine J.unguard rfl rfl rfl ?_; refine J.move rfl rfl ?_)
      refine J.unguard rfl rfl rfl ?_
      refine J.callB (v := .bool true) (fun w1 w2 hw hb => hw.step hb) Ty.bd30 rfl rfl (fun w1 hw => by
        have h := sameAll_spec _ _ q.recs q.recs w1 (RowRecs.of (l := (lb, lgO d q false) :: (d, dkO s 400 σ.p σ.k) :: (s, dkS σ.B) :: (lv ++ lps)) hvlb hrlb (hw.perm (by (refine perm_cnt (fun _ => ?_)); simp only [cntB_append, cntB_cons, cntB_nil, Nat.add_zero, Nat.zero_add]; try ac_rfl))) (RowRecs.of (l := (lb, lgO d q false) :: (d, dkO s 400 σ.p σ.k) :: (s, dkS σ.B) :: (lvg ++ lpsg)) hvo hro (hw.perm (by (refine perm_cnt (fun _ => ?_)); simp only [cntB_append, cntB_cons, cntB_nil, Nat.add_zero, Nat.zero_add]; try ac_rfl))) (by have := hI.bounds (by omega); omega)
        rw [decide_eq_true rfl] at h
        exact h) ?_
      (first | refine J.pickT rfl rfl rfl ?_ | refine J.pickF rfl rfl rfl ?_)
      refine J.assign rfl rfl ?_
      refine J.nil ?_
      refine JX.thenN (hK24 _ _ ?_)
      refine JC.ret ?_
      refine JX.ret1 rfl rfl (fun w hw => ?_)
      exact ⟨rfl, hw.below⟩
  · skip
    try simp only [decide_eq_true_eq, decide_eq_false_iff_not, Int.not_lt, Int.not_le] at hs27
    first
      | (refine J.skip rfl rfl rfl rfl rfl ?_)
      | (refine J.skipU rfl rfl rfl rfl ?_)
      | (refine J.unguard rfl rfl rfl ?_; refine J.move rfl rfl ?_)
    first
      | (refine J.skip rfl rfl rfl rfl rfl ?_)
      | (refine J.skipU rfl rfl rfl rfl ?_)
      | (refine J.unguard rfl rfl rfl ?_; refine J.bin rfl rfl rfl rfl ?_)
    (first | refine J.pickT rfl rfl rfl ?_ | refine J.pickF rfl rfl rfl ?_)
    refine J.nil ?_
    refine JX.thenN (hK9 _ _ ?_)
    first | refine JC.condF rfl ?_ | refine JC.cond rfl (fun h => by first | (exfalso; simp at h; omega) | (simp at h)) (fun _ => ?_)
    refine JC.exit ?_
    refine JX.thenE ?_
    refine JX.thenE ?_
    refine JX.blockE ?_
    refine JX.thenN (hK6 _ _ ?_)
    refine JC.seq (fun K25 hK25 => ?_)
    refine JC.region ?_
    refine J.move rfl rfl ?_
    refine J.perm ([] ++ ((d, dkO s 400 σ.p σ.k) :: (s, dkS σ.B) :: (lv ++ lps))) (by (refine perm_cnt (fun _ => ?_)); simp only [cntB_append, cntB_cons, cntB_nil, Nat.add_zero, Nat.zero_add]; try ac_rfl) ?_
    refine J.callS (l1 := []) Ty.bd26 rfl rfl (fun w1 hw => open_good d s 400 q σ w1 (St.owns (l1 := [(d, dkO s 400 σ.p σ.k), (s, dkS σ.B)]) (l := (lv ++ lps)) (hw.perm (by (refine perm_cnt (fun _ => ?_)); simp only [cntB_append, cntB_cons, cntB_nil, Nat.add_zero, Nat.zero_add]; try ac_rfl))) hI (by omega)) (fun x hx1 => ?_)
    obtain ⟨lb, vg, vsg, lvg, lpsg⟩ := x
    obtain ⟨hvlb, hrlb⟩ := hx1
    simp only at hvlb hrlb ⊢
    refine J.perm ((lb, lgO d q false) :: (d, dkO s 400 σ.p σ.k) :: (s, dkS σ.B) :: (lv ++ (lps ++ (lvg ++ lpsg)))) (by (refine perm_cnt (fun _ => ?_)); simp only [cntB_append, cntB_cons, cntB_nil, Nat.add_zero, Nat.zero_add]; try ac_rfl) ?_
    refine J.move rfl rfl ?_
    refine J.extract rfl rfl rfl ?_
    refine J.extract rfl rfl rfl ?_
    refine J.extract rfl rfl rfl ?_
    refine J.assign rfl rfl ?_
    refine J.assign rfl rfl ?_
    refine J.assign rfl rfl ?_
    refine J.nil ?_
    refine JX.thenN (hK25 _ _ ?_)
    refine JC.seq (fun K26 hK26 => ?_)
    refine JC.region ?_
    refine J.move rfl rfl ?_
    refine J.bin rfl rfl rfl rfl ?_
    refine J.move rfl rfl ?_
    first
      | (refine J.skip rfl rfl rfl rfl rfl ?_)
      | (refine J.skipU rfl rfl rfl rfl ?_)
      | (refine J.unguard rfl rfl rfl ?_; refine J.move rfl rfl ?_)
    first
      | (refine J.skip rfl rfl rfl rfl rfl ?_)
      | (refine J.skipU rfl rfl rfl rfl ?_)
      | (refine J.unguard rfl rfl rfl ?_; refine J.move rfl rfl ?_)
    refine J.unguard rfl rfl rfl ?_
    refine J.callB (v := .bool true) (fun w1 w2 hw hb => hw.step hb) Ty.bd30 rfl rfl (fun w1 hw => by
      have h := sameAll_spec _ _ q.recs q.recs w1 (RowRecs.of (l := (lb, lgO d q false) :: (d, dkO s 400 σ.p σ.k) :: (s, dkS σ.B) :: (lv ++ lps)) hvlb hrlb (hw.perm (by (refine perm_cnt (fun _ => ?_)); simp only [cntB_append, cntB_cons, cntB_nil, Nat.add_zero, Nat.zero_add]; try ac_rfl))) (RowRecs.of (l := (lb, lgO d q false) :: (d, dkO s 400 σ.p σ.k) :: (s, dkS σ.B) :: (lvg ++ lpsg)) hvo hro (hw.perm (by (refine perm_cnt (fun _ => ?_)); simp only [cntB_append, cntB_cons, cntB_nil, Nat.add_zero, Nat.zero_add]; try ac_rfl))) (by have := hI.bounds (by omega); omega)
      rw [decide_eq_true rfl] at h
      exact h) ?_
    (first | refine J.pickT rfl rfl rfl ?_ | refine J.pickF rfl rfl rfl ?_)
    refine J.assign rfl rfl ?_
    refine J.nil ?_
    refine JX.thenN (hK26 _ _ ?_)
    refine JC.ret ?_
    refine JX.ret1 rfl rfl (fun w hw => ?_)
    exact ⟨rfl, hw.below⟩

end Go.Proofs.Ytlmbpfgiadbjaaa
