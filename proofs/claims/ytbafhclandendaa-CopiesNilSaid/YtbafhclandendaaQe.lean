/-
  CopiesComes: the walk.
-/
import Derived.Test.YtbafhclandendaaQd
namespace Go.Proofs.Ytbafhclandendaa
open Go.J Go.RowKit
set_option linter.unusedVariables false
set_option linter.unusedSimpArgs false
set_option maxRecDepth 8000
theorem remU {a b : Int} (hb : b ≠ 0) : binI .rem (.int .u64 a) (.int .u64 b) = some (.int .u64 (a.tmod b)) := by
  simp only [binI, if_true]
  rw [if_neg hb]
theorem remAt (at_ : Int) {n : Nat} (h : 0 < n) : ∃ j : Nat, j < n ∧ (IntKind.u64.wrap at_).tmod ((n : Nat) : Int) = ((j : Nat) : Int) := by
  rw [wrap_u64m, Int.tmod_eq_emod_of_nonneg (by omega)]
  have h1 := Int.emod_nonneg (at_ % 18446744073709551616) (show ((n : Nat) : Int) ≠ 0 by omega)
  have h2 := Int.emod_lt_of_pos (at_ % 18446744073709551616) (show 0 < ((n : Nat) : Int) by omega)
  exact ⟨(at_ % 18446744073709551616 % ((n : Nat) : Int)).toNat, by omega, by omega⟩
/-- how many are nearer -/
noncomputable def cntN (key a : IDV) (fs : List IDV) : Nat := fs.countP (fun x => decide (kN key x < kN key a))
theorem cntN_lt {key a : IDV} {fs : List IDV} (h : a ∈ fs) : cntN key a fs + 1 ≤ fs.length := by
  unfold cntN
  have h1 : fs.countP (fun x => decide (kN key x < kN key a)) < fs.length := by
    rcases Nat.lt_or_ge (fs.countP (fun x => decide (kN key x < kN key a))) fs.length with h2 | h2
    · exact h2
    · have h3 : fs.countP (fun x => decide (kN key x < kN key a)) = fs.length := Nat.le_antisymm List.countP_le_length h2
      have := List.countP_eq_length.1 h3 a h
      simp at this
  omega
theorem cntN_step {key a b : IDV} : ∀ {fs : List IDV}, b ∈ fs → kN key b < kN key a → cntN key b fs + 1 ≤ cntN key a fs
  | [], h, _ => by cases h
  | x :: fs, h, hlt => by
    have mono : ∀ l : List IDV, cntN key b l ≤ cntN key a l := fun l => List.countP_mono_left (fun y _ hy => by simp at hy ⊢; omega)
    unfold cntN at *
    rw [List.countP_cons, List.countP_cons]
    rcases List.mem_cons.1 h with rfl | h
    · have := mono fs
      have h1 : decide (kN key b < kN key b) = false := by simp
      have h2 : decide (kN key b < kN key a) = true := by simpa using hlt
      rw [h1, h2]
      simp
      omega
    · have ih := cntN_step h hlt
      unfold cntN at ih
      by_cases h1 : kN key x < kN key b
      · have h2 : kN key x < kN key a := by omega
        simp [h1, h2]; omega
      · by_cases h2 : kN key x < kN key a
        · simp [h1, h2]; omega
        · simp [h1, h2]; omega
theorem minV_of {key a : IDV} {fs : List IDV} (ha : a ∈ fs) {half : Int} (hh : 1 ≤ half) (h : rootV a (wantI a fs half) key = true) : minV key fs = a := by
  have hne : fs ≠ [] := fun e => by rw [e] at ha; cases ha
  rcases Classical.em (minV key fs = a) with h1 | h1
  · exact h1
  · rw [root_not hh hne ha h1] at h; cases h

set_option maxHeartbeats 1000000 in
theorem copiesComes_spec (v : Value) (xs : List IDV) (key : IDV) (half at_ : Int) (w : World) (hr : Row w v xs.length (fI xs)) (tc : List Value) (htc : tc = [.int .i64 half, .int .i64 at_]) :
    Calls Try.prog 5 [v, .agg (cI key).toArray, .agg tc.toArray].toArray w fun r w' => r = .returned (.bool true) ∧ Bel w w' := by
  obtain ⟨a, c, rfl, hc, _⟩ := id hr
  refine calls_of_J (args := [.slice a xs.length c, .agg (cI key).toArray, .agg tc.toArray]) (e := [(0, .slice a xs.length c), (1, .agg (cI key).toArray), (2, .agg tc.toArray)]) Try.func5 rfl rfl ⟨rfl, rfl, rfl, trivial⟩ (St.start w) ?_
  refine JC.seq (fun K0 hK0 => ?_)
  refine JC.region ?_
  refine J.box rfl rfl rfl (fun b4 => ?_)
  refine J.box rfl rfl rfl (fun b5 => ?_)
  refine J.assign rfl rfl ?_
  refine J.nil ?_
  refine JX.thenN (hK0 _ _ ?_)
  refine JC.seq (fun K1 hK1 => ?_)
  subst htc
  apply JC.drawL 6 [Eqv (.pointer (some ⟨b5, 0 + (0 : Int).toNat * 1, none⟩)), Eqv (.int .i64 half), Eqv (.pointer (some ⟨b5, 0 + (1 : Int).toNat * 1, none⟩)), Eqv (.int .i64 at_), Eqv (.int .i64 half), Eqv (.int .i64 at_)] Ty.mixed rfl rfl rfl (by kernel_rfl) rfl rfl (fun w w' hw hb => hw.step hb) ⟨fun _ _ _ h _ => h, fun _ _ _ h _ => h, fun _ _ _ h _ => h, fun _ _ _ h _ => h, fun _ _ _ h _ => h, fun _ _ _ h _ => h, trivial⟩ ?hstep ?htail
  case hstep =>
    refine ⟨fun wi => ?_, fun wi => ?_, fun wi => ?_, fun wi => ?_, fun wi => ?_, fun wi => ?_, trivial⟩
    · skip
      refine Fin.nil ?_
      refine J.indexAddrA Ty.ar36 Ty.s3 rfl rfl (by omega) (by omega) rfl ?_
      exact J.finP rfl
    · skip
      refine Fin.consE rfl (Fin.nil ?_)
      refine J.load1 (v := .int .i64 half) Ty.a3 rfl (fun w1 hw => (cell_of (hw.2.own ((b5, cb [.int .i64 half, .int .i64 at_] 36)) (by repeat first | exact .head _ | apply List.Mem.tail | apply List.mem_append_right))).trans rfl) rfl ?_
      exact J.finP rfl
    · skip
      refine Fin.nil ?_
      refine J.indexAddrA Ty.ar36 Ty.s3 rfl rfl (by omega) (by omega) rfl ?_
      exact J.finP rfl
    · skip
      refine Fin.consE rfl (Fin.nil ?_)
      refine J.load1 (v := .int .i64 at_) Ty.a3 rfl (fun w1 hw => (cell_of (hw.2.own ((b5, cb [.int .i64 half, .int .i64 at_] 36)) (by repeat first | exact .head _ | apply List.Mem.tail | apply List.mem_append_right))).trans rfl) rfl ?_
      exact J.finP rfl
    · skip
      refine Fin.consE rfl (Fin.consE rfl (Fin.consE rfl (Fin.nil ?_)))
      refine J.assign rfl rfl ?_
      exact J.finP rfl
    · skip
      refine Fin.consE rfl (Fin.consE rfl (Fin.consE rfl (Fin.consE rfl (Fin.consE rfl (Fin.consE rfl (Fin.consE rfl (Fin.nil ?_)))))))
      refine J.assign rfl rfl ?_
      exact J.finP rfl
  case htail =>
    refine Fin.consE rfl (Fin.consE rfl (Fin.consE rfl (Fin.consE rfl (Fin.consE rfl (Fin.consE rfl (Fin.nil ?_))))))
    refine J.nil ?_
    refine JX.thenN (hK1 _ _ ?_)
    refine JC.seq (fun K2 hK2 => ?_)
    refine JC.region ?_
    refine J.move rfl rfl ?_
    refine J.callB (v := cutV (.slice a xs.length c) (min xs.length 16)) (fun w1 w2 hw hb => hw.step hb) Ty.bd13 rfl rfl (fun w1 hw => cut19_spec _ xs 16 w1 (hr.below (hw.drop (List.nil_sublist _)).below)) ?_
    have hr2 := row_cut hr 16
    have hyl : (xs.take 16).length ≤ 16 := by rw [List.length_take]; omega
    generalize cutV (.slice a xs.length c) (min xs.length 16) = v2 at hr2 ⊢
    generalize xs.take 16 = fs at hr2 hyl ⊢
    obtain ⟨af, cf, rfl, hcf, _⟩ := id hr2
    refine J.assign rfl rfl ?_
    refine J.nil ?_
    refine JX.thenN (hK2 _ _ ?_)
    refine JC.seq (fun K3 hK3 => ?_)
    refine JC.seq (fun K4 hK4 => ?_)
    refine JC.region ?_
    refine J.move rfl rfl ?_
    refine J.lenS rfl Ty.u24 rfl rfl ?_
    refine J.bin rfl rfl rfl rfl ?_
    refine J.nil ?_
    refine JX.thenN (hK4 _ _ ?_)
    refine JC.cond rfl (fun h0 => ?_) (fun h0 => ?_)
    · skip
      skip
      refine JC.seq (fun K5 hK5 => ?_)
      refine JC.region ?_
      refine J.callB (v := .bool true) (fun w1 w2 hw hb => hw.step hb) Ty.bd15 rfl rfl (fun w1 hw => fixed19_spec w1) ?_
      refine J.assign rfl rfl ?_
      refine J.nil ?_
      refine JX.thenN (hK5 _ _ ?_)
      refine JC.ret ?_
      refine JX.thenR ?_
      refine JX.ret1 rfl rfl (fun w hw => ?_)
      exact ⟨rfl, (hw.drop (List.nil_sublist _)).below⟩
    · skip
      have hpos : 0 < fs.length := by
        rcases Nat.eq_zero_or_pos fs.length with h | h
        · rw [h] at h0; simp at h0
        · exact h
      refine JC.skip ?_
      refine JX.thenN (hK3 _ _ ?_)
      refine JC.seq (fun K6 hK6 => ?_)
      refine JC.region ?_
      refine J.move rfl rfl ?_
      refine J.convInt Ty.u3 Ty.u31 rfl rfl ?_
      refine J.bin rfl rfl rfl rfl ?_
      obtain ⟨k3, hk3, hk3e⟩ := half3 half
      refine J.name 24 rfl (show _ = Value.int .u64 ((k3 : Nat) : Int) from congrArg (Value.int .u64) hk3e) ?_
      refine J.convInt Ty.u103 Ty.u3 rfl rfl ?_
      refine J.name 25 rfl (show _ = Value.int .i64 ((k3 : Nat) : Int) from congrArg (Value.int .i64) (wrap_i64 (by omega) (by omega))) ?_
      refine J.addN rfl rfl (by omega) (by omega) rfl ?_
      refine J.assign rfl rfl ?_
      refine J.nil ?_
      refine JX.thenN (hK6 _ _ ?_)
      refine JC.seq (fun K7 hK7 => ?_)
      refine JC.region ?_
      refine J.move rfl rfl ?_
      refine J.move rfl rfl ?_
      refine J.convInt Ty.u3 Ty.u103 rfl rfl ?_
      refine J.move rfl rfl ?_
      refine J.lenS rfl Ty.u24 rfl rfl ?_
      refine J.convInt Ty.u3 Ty.u103 rfl rfl ?_
      refine J.name 32 rfl (show _ = Value.int .u64 ((fs.length : Nat) : Int) from congrArg (Value.int .u64) (wrap_u64 (by omega) (by omega))) ?_
      obtain ⟨jj, hjj, hjje⟩ := remAt at_ (n := fs.length) (by omega)
      refine J.bin rfl rfl (remU (by omega)) rfl ?_
      refine J.name 33 rfl (show _ = Value.int .u64 ((jj : Nat) : Int) from congrArg (Value.int .u64) hjje) ?_
      refine J.convInt Ty.u103 Ty.u3 rfl rfl ?_
      refine J.name 34 rfl (show _ = Value.int .i64 ((jj : Nat) : Int) from congrArg (Value.int .i64) (wrap_i64 (by omega) (by omega))) ?_
      have hfl := fI_length fs
      obtain ⟨q1, o1, c9, hqe, _, _⟩ := Row.some hr2 (by omega)
      simp only [Value.slice.injEq] at hqe
      obtain ⟨ha, _, _⟩ := hqe
      have h1s : Row w (.slice (some ⟨q1, o1, none⟩) fs.length cf) fs.length (fI fs) := by rw [← ha]; exact hr2
      refine J.indexAddrS Ty.el24 Ty.s23 ((rfl : ev _ _ = some (Value.slice af fs.length cf)).trans (congrArg (fun a => some (Value.slice a fs.length cf)) ha)) rfl (by omega) (by omega) rfl ?_
      refine J.loadA (vs := cI (fs[jj]'hjj)) Ty.a23 Ty.s23 rfl rfl (fun w1 hw => rowF_at (h1s.below (hw.drop (List.nil_sublist _)).below) (List.getElem?_eq_getElem hjj) (by simp)) rfl ?_
      refine J.alloc Ty.zID rfl rfl (fun b9 => ?_)
      refine J.storeW (cs := cI zI) (vs := cI (fs[jj]'hjj)) Ty.s23 rfl rfl rfl rfl rfl (by simp [Value.oneCell']) .here ?_
      refine J.nil ?_
      refine JX.thenN (hK7 _ _ ?_)
      refine JC.seq (fun K8 hK8 => ?_)
      refine JC.seq (fun K9 hK9 => ?_)
      refine JC.region ?_
      refine J.move rfl rfl ?_
      refine J.lenS rfl Ty.u24 rfl rfl ?_
      refine J.move rfl rfl ?_
      refine J.nil ?_
      refine JX.thenN (hK9 _ _ ?_)
      refine JC.block ?_
      refine JC.conseq (JC.cov (f := (fun st => [(0, .slice af fs.length cf), (4, .pointer (some ⟨b4, 0, none⟩)), (7, .int .i64 (1 + ((k3 : Nat) : Int))), (9, .pointer (some ⟨b9, 0, none⟩)), (38, .int .i64 ((fs.length : Nat) : Int)), (39, .int .i64 ((st.1 : Nat) : Int))]) ((0, fs[jj]'hjj) : Nat × IDV)) ⟨rfl, rfl, rfl, rfl, rfl, rfl, trivial⟩ (JC.loop (α := Nat × IDV) (fun st => [(0, .slice af fs.length cf), (4, .pointer (some ⟨b4, 0, none⟩)), (7, .int .i64 (1 + ((k3 : Nat) : Int))), (9, .pointer (some ⟨b9, 0, none⟩)), (38, .int .i64 ((fs.length : Nat) : Int)), (39, .int .i64 ((st.1 : Nat) : Int))]) (fun st w' => (st.2 ∈ fs ∧ cntN key st.2 fs + st.1 + 1 ≤ fs.length) ∧ St w [] [(b9, cb (cI st.2) 23), (b4, cb (cI key) 23)] w') (fun st => fs.length - st.1) ((0, fs[jj]'hjj) : Nat × IDV) (fun st => ?_))) (fun w hw => ⟨⟨List.getElem_mem hjj, cntN_lt (List.getElem_mem hjj)⟩, (hw.perm (l' := [(b5, cb [.int .i64 half, .int .i64 at_] 36)] ++ [(b9, cb (cI (fs[jj]'hjj)) 23), (b4, cb (cI key) 23)]) (by (refine perm_cnt (fun _ => ?_)); simp only [cntB_append, cntB_cons, cntB_nil, Nat.add_zero, Nat.zero_add]; try ac_rfl)).drop (List.sublist_append_right _ _)⟩)
      obtain ⟨i, a⟩ := st
      refine JC.pr (fun hx1 => ?_)
      obtain ⟨hain, hcnt⟩ := hx1
      simp only at hain hcnt ⊢
      refine JC.seq (fun K10 hK10 => ?_)
      refine JC.region ?_
      refine J.bin rfl rfl rfl rfl ?_
      refine J.nil ?_
      refine JX.thenN (hK10 _ _ ?_)
      refine JC.seq (fun K11 hK11 => ?_)
      first | refine JC.condT rfl ?_ | refine JC.cond rfl (fun _ => ?_) (fun h => by simp at h; omega)
      refine JC.skip ?_
      refine JX.thenN (hK11 _ _ ?_)
      refine JC.seq (fun K12 hK12 => ?_)
      refine JC.block ?_
      refine JC.seq (fun K13 hK13 => ?_)
      refine JC.region ?_
      refine J.loadOA (vs := cI a) Ty.a23 Ty.s23 rfl (by repeat first | exact .head _ | apply List.Mem.tail | apply List.mem_append_right) (by exact rfl) rfl rfl ?_
      refine J.move rfl rfl ?_
      refine J.move rfl rfl ?_
      refine J.perm ([] ++ ((b9, cb (cI a) 23) :: (b4, cb (cI key) 23) :: [])) (.refl _) ?_
      refine J.callS (α := Value × List (Nat × Obj)) (V := (·.1)) (Pr := fun x => Vec 23 16 x.1 (wantI a fs (1 + ((k3 : Nat) : Int))).length (fI (wantI a fs (1 + ((k3 : Nat) : Int)))) x.2) (L := (·.2)) (l1 := []) Ty.bd21 rfl rfl (fun w1 hw => rwant_spec a _ fs (1 + ((k3 : Nat) : Int)) w1 (hr2.below (hw.drop (List.nil_sublist _)).below) (by omega)) (fun x hvw => ?_)
      obtain ⟨vw, lw⟩ := x
      simp only at hvw ⊢
      have hwl := wantI_le a fs (1 + ((k3 : Nat) : Int))
      refine J.perm ((b9, cb (cI a) 23) :: (b4, cb (cI key) 23) :: lw) (by (refine perm_cnt (fun _ => ?_)); simp only [cntB_append, cntB_cons, cntB_nil, Nat.add_zero, Nat.zero_add]; try ac_rfl) ?_
      refine J.assign rfl rfl ?_
      refine J.nil ?_
      refine JX.thenN (hK13 _ _ ?_)
      refine JC.seq (fun K14 hK14 => ?_)
      refine JC.seq (fun K15 hK15 => ?_)
      cases hro : rootV a (wantI a fs (1 + ((k3 : Nat) : Int))) key with
      | false =>
        obtain ⟨bn, hb1, hb2, hb3⟩ := owed_not hro
        refine JC.region ?_
        refine J.loadOA (vs := cI a) Ty.a23 Ty.s23 rfl (by repeat first | exact .head _ | apply List.Mem.tail | apply List.mem_append_right) (by exact rfl) rfl rfl ?_
        refine J.move rfl rfl ?_
        refine J.loadOA (vs := cI key) Ty.a23 Ty.s23 rfl (by repeat first | exact .head _ | apply List.Mem.tail | apply List.mem_append_right) (by exact rfl) rfl rfl ?_
        refine J.callB (v := .bool (rootV a (wantI a fs (1 + ((k3 : Nat) : Int))) key)) (fun w1 w2 hw hb => hw.step hb) Ty.bd16 rfl rfl (fun w1 hw => root_spec a _ (wantI a fs (1 + ((k3 : Nat) : Int))) key w1 (vec_rowM hvw hw (fun q hq => by first | (simp [hq]; done) | (simp at hq; simp [hq]; done) | (simp at hq; subst hq; simp))) (by omega)) ?_
        refine J.name 48 rfl (show _ = Value.bool false by rw [hro]) ?_
        refine J.nil ?_
        refine JX.thenN (hK15 _ _ ?_)
        first | refine JC.condF rfl ?_ | refine JC.cond rfl (fun h => by first | (exfalso; simp at h; omega) | (simp at h)) (fun _ => ?_)
        refine JC.skip ?_
        refine JX.thenN (hK14 _ _ ?_)
        refine JC.seq (fun K16 hK16 => ?_)
        refine JC.region ?_
        refine J.loadOA (vs := cI a) Ty.a23 Ty.s23 rfl (by repeat first | exact .head _ | apply List.Mem.tail | apply List.mem_append_right) (by exact rfl) rfl rfl ?_
        refine J.move rfl rfl ?_
        refine J.loadOA (vs := cI key) Ty.a23 Ty.s23 rfl (by repeat first | exact .head _ | apply List.Mem.tail | apply List.mem_append_right) (by exact rfl) rfl rfl ?_
        refine J.perm ([] ++ ((b9, cb (cI a) 23) :: (b4, cb (cI key) 23) :: lw)) (.refl _) ?_
        refine J.callS (α := Value × List (Nat × Obj)) (V := (·.1)) (Pr := fun x => Vec 23 16 x.1 ((owedV a (wantI a fs (1 + ((k3 : Nat) : Int))) key)).length (fI ((owedV a (wantI a fs (1 + ((k3 : Nat) : Int))) key))) x.2) (L := (·.2)) (l1 := []) Ty.bd19 rfl rfl (fun w1 hw => owed_spec a _ (wantI a fs (1 + ((k3 : Nat) : Int))) key w1 (vec_rowM hvw hw (fun q hq => by first | (simp [hq]; done) | (simp at hq; simp [hq]; done) | (simp at hq; subst hq; simp))) (by omega)) (fun x hvo => ?_)
        obtain ⟨vo, lo⟩ := x
        simp only at hvo ⊢
        rw [hb1] at hvo
        obtain ⟨ao, co_, rfl, hco⟩ := hvo.form
        obtain ⟨qo, rfl⟩ : ∃ q, ao = some ⟨q, 0, none⟩ := by
          rcases hvo.2 with ⟨h9, h8, _⟩ | ⟨q, c9, sp, h9, _⟩
          · cases h8
          · simp only [Value.slice.injEq] at h9; exact ⟨q, h9.1⟩
        refine J.perm ((b9, cb (cI a) 23) :: (b4, cb (cI key) 23) :: (lo ++ lw)) (by (refine perm_cnt (fun _ => ?_)); simp only [cntB_append, cntB_cons, cntB_nil, Nat.add_zero, Nat.zero_add]; try ac_rfl) ?_
        refine J.assign rfl rfl ?_
        refine J.nil ?_
        refine JX.thenN (hK16 _ _ ?_)
        refine JC.seq (fun K17 hK17 => ?_)
        refine JC.seq (fun K18 hK18 => ?_)
        refine JC.region ?_
        refine J.move rfl rfl ?_
        refine J.lenS rfl Ty.u24 rfl rfl ?_
        refine J.bin rfl rfl rfl rfl ?_
        refine J.name 55 rfl (show _ = Value.bool false by rfl) ?_
        refine J.nil ?_
        refine JX.thenN (hK18 _ _ ?_)
        first | refine JC.condF rfl ?_ | refine JC.cond rfl (fun h => by first | (exfalso; simp at h; omega) | (simp at h)) (fun _ => ?_)
        refine JC.skip ?_
        refine JX.thenN (hK17 _ _ ?_)
        refine JC.region ?_
        refine J.move rfl rfl ?_
        refine J.indexAddrS Ty.el24 Ty.s23 rfl rfl (by first | omega | simp) (by first | omega | simp) rfl ?_
        refine J.loadA (vs := cI bn) Ty.a23 Ty.s23 rfl rfl (fun w1 hw => rowF_at (xs := [bn]) (i := 0) (o := 0) (vec_rowM hvo hw (fun q hq => by first | (simp [hq]; done) | (simp at hq; simp [hq]; done) | (simp at hq; subst hq; simp))) rfl rfl) rfl ?_
        refine J.storeW (cs := cI a) (vs := cI bn) Ty.s23 rfl rfl rfl rfl rfl (by simp [Value.oneCell']) .here ?_
        refine J.nil ?_
        refine JX.blockN ?_
        refine JX.thenN (hK12 _ _ ?_)
        refine JC.region ?_
        (first | refine J.addN rfl rfl (by omega) (by omega) rfl ?_ | refine J.bin rfl rfl rfl rfl ?_)
        refine J.move rfl rfl ?_
        refine J.nil ?_
        refine JX.thenN ?_
        refine JX.again ((i + 1, bn) : Nat × IDV) ?_ ?_ ?_
        · simp only; omega
        · exact ⟨rfl, rfl, rfl, rfl, rfl, rfl, trivial⟩
        · exact fun w1 hw => ⟨⟨hb2, by have := cntN_step hb2 hb3; simp only; omega⟩, (hw.perm (l' := (lo ++ lw) ++ [(b9, cb (cI bn) 23), (b4, cb (cI key) 23)]) (by (refine perm_cnt (fun _ => ?_)); simp only [cntB_append, cntB_cons, cntB_nil, Nat.add_zero, Nat.zero_add]; try ac_rfl)).drop (List.sublist_append_right _ _)⟩
      | true =>
        have hmin := minV_of hain (by omega) hro
        have hne : fs ≠ [] := fun e => by rw [e] at hain; cases hain
        obtain ⟨jm, hj1, hj2, hj3, hj4⟩ := minV_at (key := key) hne
        have hjl : jm < fs.length := (List.getElem?_eq_some_iff.1 hj2).1
        have hfl := fI_length fs
        obtain ⟨q1, o1, c9, hqe, _, _⟩ := Row.some hr2 (by omega)
        simp only [Value.slice.injEq] at hqe
        obtain ⟨ha, _, _⟩ := hqe
        have h1s : Row w (.slice (some ⟨q1, o1, none⟩) fs.length cf) fs.length (fI fs) := by rw [← ha]; exact hr2
        rw [hmin] at hj2
        refine JC.region ?_
        refine J.loadOA (vs := cI a) Ty.a23 Ty.s23 rfl (by repeat first | exact .head _ | apply List.Mem.tail | apply List.mem_append_right) (by exact rfl) rfl rfl ?_
        refine J.move rfl rfl ?_
        refine J.loadOA (vs := cI key) Ty.a23 Ty.s23 rfl (by repeat first | exact .head _ | apply List.Mem.tail | apply List.mem_append_right) (by exact rfl) rfl rfl ?_
        refine J.callB (v := .bool (rootV a (wantI a fs (1 + ((k3 : Nat) : Int))) key)) (fun w1 w2 hw hb => hw.step hb) Ty.bd16 rfl rfl (fun w1 hw => root_spec a _ (wantI a fs (1 + ((k3 : Nat) : Int))) key w1 (vec_rowM hvw hw (fun q hq => by first | (simp [hq]; done) | (simp at hq; simp [hq]; done) | (simp at hq; subst hq; simp))) (by omega)) ?_
        refine J.name 48 rfl (show _ = Value.bool true by rw [hro]) ?_
        refine J.nil ?_
        refine JX.thenN (hK15 _ _ ?_)
        first | refine JC.condT rfl ?_ | refine JC.cond rfl (fun _ => ?_) (fun h => by first | (exfalso; simp at h; omega) | (simp at h))
        refine JC.exit ?_
        refine JX.thenE ?_
        refine JX.blockO rfl ?_
        refine JX.thenE ?_
        refine JX.thenE ?_
        refine JX.blockE ?_
        refine JX.thenN (hK8 _ _ ?_)
        refine JC.seq (fun K19 hK19 => ?_)
        apply JC.drawL 11 [Eqv (.bool true), Eqv (.bool true), Eqv (.agg (cI a).toArray), Eqv (.slice (some ⟨q1, o1, none⟩) fs.length cf), Eqv (.agg (cI key).toArray), Eqv (.slice af fs.length cf), Eqv (.int .i64 ((jm : Nat) : Int)), Eqv (.pointer (some ⟨q1, o1 + (jm : Int).toNat * 16, none⟩)), Eqv (.agg (cI a).toArray), Eqv (.bool true), Eqv (.bool true)] Ty.mixed rfl rfl rfl (by kernel_rfl) rfl rfl (fun w w' hw hb => hw.step hb) ⟨fun _ _ _ h _ => h, fun _ _ _ h _ => h, fun _ _ _ h _ => h, fun _ _ _ h _ => h, fun _ _ _ h _ => h, fun _ _ _ h _ => h, fun _ _ _ h _ => h, fun _ _ _ h _ => h, fun _ _ _ h _ => h, fun _ _ _ h _ => h, fun _ _ _ h _ => h, trivial⟩ ?hstep ?htail
        case hstep =>
          refine ⟨fun wi => ?_, fun wi => ?_, fun wi => ?_, fun wi => ?_, fun wi => ?_, fun wi => ?_, fun wi => ?_, fun wi => ?_, fun wi => ?_, fun wi => ?_, fun wi => ?_, trivial⟩
          · skip
            refine Fin.nil ?_
            refine J.callD (v := .bool true) Ty.bd15 rfl rfl (fun w1 hw => fixed19_spec w1) ?_
            exact J.finQ rfl
          · skip
            refine Fin.consE rfl (Fin.consE rfl (Fin.nil ?_))
            refine J.move rfl rfl ?_
            exact J.finP rfl
          · skip
            refine Fin.consE rfl (Fin.nil ?_)
            refine J.unguard rfl rfl rfl ?_
            refine J.loadA (vs := cI a) Ty.a23 Ty.s23 rfl rfl (fun w1 hw => Cells.of_block (hw.2.own ((b9, cb (cI a) 23)) (by repeat first | exact .head _ | apply List.Mem.tail | apply List.mem_append_right)) rfl) rfl ?_
            exact J.finP rfl
          · skip
            refine Fin.consE rfl (Fin.nil ?_)
            refine J.unguard rfl rfl rfl ?_
            refine J.move rfl rfl ?_
            refine J.name 63 rfl (show _ = Value.slice (some ⟨q1, o1, none⟩) fs.length cf by rw [ha]) ?_
            exact J.finP rfl
          · skip
            refine Fin.consE rfl (Fin.nil ?_)
            refine J.unguard rfl rfl rfl ?_
            refine J.loadA (vs := cI key) Ty.a23 Ty.s23 rfl rfl (fun w1 hw => Cells.of_block (hw.2.own ((b4, cb (cI key) 23)) (by repeat first | exact .head _ | apply List.Mem.tail | apply List.mem_append_right)) rfl) rfl ?_
            exact J.finP rfl
          · skip
            refine Fin.consE rfl (Fin.nil ?_)
            first | refine J.skip rfl rfl rfl rfl rfl ?_ | refine J.skipU rfl rfl rfl rfl ?_ | (refine J.unguard rfl rfl rfl ?_; refine J.move rfl rfl ?_)
            exact J.finP rfl
          · skip
            refine Fin.consE rfl (Fin.consE rfl (Fin.consE rfl (Fin.consE rfl (Fin.nil ?_))))
            refine J.unguard rfl rfl rfl ?_
            refine J.callD (v := .int .i64 ((jm : Nat) : Int)) Ty.bd22 rfl rfl (fun w1 hw => by have h := rnearest_spec key _ fs w1 (hr2.below (hw.drop (List.nil_sublist _)).below) (by omega); rw [hj1] at h; exact h) ?_
            exact J.finQ rfl
          · skip
            refine Fin.consE rfl (Fin.consE rfl (Fin.consE rfl (Fin.nil ?_)))
            refine J.unguard rfl rfl rfl ?_
            refine J.indexAddrS Ty.el24 Ty.s23 rfl rfl (by omega) (by omega) rfl ?_
            exact J.finP rfl
          · skip
            refine Fin.consE rfl (Fin.consE rfl (Fin.nil ?_))
            refine J.unguard rfl rfl rfl ?_
            refine J.loadA (vs := cI a) Ty.a23 Ty.s23 rfl rfl (fun w1 hw => rowF_at (h1s.below (hw.2.drop (List.nil_sublist _)).below) hj2 (by simp)) rfl ?_
            exact J.finP rfl
          · skip
            refine Fin.consE rfl (Fin.consE rfl (Fin.consE rfl (Fin.nil ?_)))
            refine J.unguard rfl rfl rfl ?_
            refine J.eqI Ty.QI Ty.keyI rfl rfl rfl ?_
            refine J.name 69 rfl (show _ = Value.bool true by simp) ?_
            exact J.finP rfl
          · skip
            refine Fin.consE rfl (Fin.consE rfl (Fin.nil ?_))
            (first | refine J.pickT rfl rfl rfl ?_ | refine J.pickF rfl rfl rfl ?_)
            exact J.finP rfl
        case htail =>
          refine Fin.consE rfl (Fin.consE rfl (Fin.consE rfl (Fin.consE rfl (Fin.consE rfl (Fin.consE rfl (Fin.consE rfl (Fin.consE rfl (Fin.consE rfl (Fin.consE rfl (Fin.consE rfl (Fin.nil ?_)))))))))))
          refine J.assign rfl rfl ?_
          refine J.nil ?_
          refine JX.thenN (hK19 _ _ ?_)
          refine JC.ret ?_
          refine JX.ret1 rfl rfl (fun w hw => ?_)
          exact ⟨rfl, (hw.drop (List.nil_sublist _)).below⟩

theorem rslI {W : World} {s : Sl IDV} {cs : List Value} (h : RSl 16 16 RId W cs s) : Row W s.v s.xs.length (fI s.xs) := rslG (c := cI) (sz := 16) (fun _ => rfl) (by omega) (fun _ _ _ h => h) h
theorem copiesRises_walk (w : World) (o : Sl IDV) (ho : RSl 16 16 RId w [o.v] o) (half : Int) (hh : (Lit.int .i64 half).wf = true) (kc : List Value) (key : IDV) (hk : RId w kc key) :
    Calls Try.prog 4 [o.v, .int .i64 half, .agg kc.toArray].toArray w fun r w' => r = .returned (.bool true) ∧ Bel w w' := by
  cases hk
  exact copiesRises_spec o.v o.xs half key w (rslI ho)
theorem copiesComes_walk (w : World) (o : Sl IDV) (ho : RSl 16 16 RId w [o.v] o) (kc : List Value) (key : IDV) (hk : RId w kc key) (tc : List Value) (t : List Int) (ht : RArr 2 1 (RInt .i64) w tc t) :
    Calls Try.prog 5 [o.v, .agg kc.toArray, .agg tc.toArray].toArray w fun r w' => r = .returned (.bool true) ∧ Bel w w' := by
  cases hk
  obtain ⟨a, b, c1, c2, rfl, ⟨rfl, _⟩, ⟨rfl, _⟩⟩ := ht.two
  exact copiesComes_spec o.v o.xs key a b w (rslI ho) _ rfl
end Go.Proofs.Ytbafhclandendaa
