/-
  CopiesRises, CopiesComes: plain laws and walks.
-/
import Derived.Test.YtbafhclandendaaQc
namespace Go.Proofs.Ytbafhclandendaa
open Go.J Go.RowKit
set_option linter.unusedVariables false
set_option linter.unusedSimpArgs false
set_option maxRecDepth 8000
theorem half3 (half : Int) : ∃ k : Nat, k < 3 ∧ (IntKind.u64.wrap half).tmod 3 = ((k : Nat) : Int) := by
  rw [wrap_u64m, Int.tmod_eq_emod_of_nonneg (by omega)]
  refine ⟨(half % 18446744073709551616 % 3).toNat, by omega, by omega⟩
theorem want_sort (a : IDV) (fs : List IDV) (half : Int) : sortI (wantI a fs half) a = wantI a fs half := by
  refine (sortI_of (wantI_asc a fs half) (fun z => ⟨fun h => ⟨h, ?_⟩, fun h => h.1⟩)).symm
  exact ((sortI_mem fs a z).1 (mem_wantI.1 h).1).2
theorem want_in {a z : IDV} {fs : List IDV} {half : Int} (h : z ∈ wantI a fs half) : z ∈ fs := ((sortI_mem fs a z).1 (mem_wantI.1 h).1).1
/-- whoever is the nearest one of all is the root -/
theorem root_min {a key : IDV} {fs : List IDV} {half : Int} (h : minV key fs = a) (hne : fs ≠ []) : rootV a (wantI a fs half) key = true := by
  obtain ⟨i, _, _, _, h4⟩ := minV_at (key := key) hne
  rw [h] at h4
  exact rootV_iff.2 (fun x hx => h4 x (want_in hx))
/-- whoever isn't has a friend that is nearer -/
theorem root_not {a key : IDV} {fs : List IDV} {half : Int} (hh : 1 ≤ half) (hne : fs ≠ []) (ha : a ∈ fs) (h : minV key fs ≠ a) : rootV a (wantI a fs half) key = false := by
  obtain ⟨i, _, _, h3, h4⟩ := minV_at (key := key) hne
  have h6 : kN key (minV key fs) < kN key a := Nat.lt_of_le_of_ne (h4 a ha) (fun e => h (kN_inj e))
  obtain ⟨b, hb, hlt⟩ := greedy hh h3 h (near_kN.2 h6)
  have h7 := near_kN.1 hlt
  cases hr : rootV a (wantI a fs half) key with
  | false => rfl
  | true =>
    have := rootV_iff.1 hr b hb
    omega
theorem owed_root {a key : IDV} {fs : List IDV} {half : Int} (h : rootV a (wantI a fs half) key = true) : owedV a (wantI a fs half) key = wantI a fs half := by
  unfold owedV
  rw [want_sort, if_pos h]
theorem owed_not {a key : IDV} {fs : List IDV} {half : Int} (h : rootV a (wantI a fs half) key = false) : ∃ b, owedV a (wantI a fs half) key = [b] ∧ b ∈ fs ∧ kN key b < kN key a := by
  unfold owedV
  rw [want_sort, if_neg (by rw [h]; decide)]
  have hne : wantI a fs half ≠ [] := fun e => by rw [e] at h; cases h
  obtain ⟨i, _, _, h3, h4⟩ := minV_at (key := key) hne
  refine ⟨_, rfl, want_in h3, ?_⟩
  rcases Nat.lt_or_ge (kN key (minV key (wantI a fs half))) (kN key a) with h5 | h5
  · exact h5
  · have : rootV a (wantI a fs half) key = true := rootV_iff.2 (fun x hx => Nat.le_trans h5 (h4 x hx))
    rw [this] at h; cases h

set_option maxHeartbeats 1000000 in
theorem copiesRises_spec (v : Value) (xs : List IDV) (half : Int) (key : IDV) (w : World) (hr : Row w v xs.length (fI xs)) :
    Calls Try.prog 4 [v, .int .i64 half, .agg (cI key).toArray].toArray w fun r w' => r = .returned (.bool true) ∧ Bel w w' := by
  obtain ⟨a, c, rfl, hc, _⟩ := id hr
  refine calls_of_J (args := [.slice a xs.length c, .int .i64 half, .agg (cI key).toArray]) (e := [(0, .slice a xs.length c), (1, .int .i64 half), (2, .agg (cI key).toArray)]) Try.func4 rfl rfl ⟨rfl, rfl, rfl, trivial⟩ (St.start w) ?_
  refine JC.seq (fun K0 hK0 => ?_)
  refine JC.region ?_
  refine J.box rfl rfl rfl (fun b5 => ?_)
  refine J.assign rfl rfl ?_
  refine J.nil ?_
  refine JX.thenN (hK0 _ _ ?_)
  refine JC.seq (fun K1 hK1 => ?_)
  refine JC.region ?_
  refine J.move rfl rfl ?_
  refine J.callB (v := cutV (.slice a xs.length c) (min xs.length 16)) (fun w1 w2 hw hb => hw.step hb) Ty.bd13 rfl rfl (fun w1 hw => cut19_spec _ xs 16 w1 (hr.below (hw.drop (List.nil_sublist _)).below)) ?_
  have hr2 := row_cut hr 16
  have hyl : (xs.take 16).length ≤ 16 := by rw [List.length_take]; omega
  generalize cutV (.slice a xs.length c) (min xs.length 16) = v2 at hr2 ⊢
  generalize xs.take 16 = fs at hr2 hyl ⊢
  obtain ⟨af, cf, rfl, hcf, _⟩ := id hr2
  refine J.assign rfl rfl ?_
  refine J.nil ?_
  refine JX.thenN (hK1 _ _ ?_)
  refine JC.seq (fun K2 hK2 => ?_)
  refine JC.region ?_
  refine J.move rfl rfl ?_
  refine J.convInt Ty.u3 Ty.u31 rfl rfl ?_
  refine J.bin rfl rfl rfl rfl ?_
  obtain ⟨k3, hk3, hk3e⟩ := half3 half
  refine J.name 15 rfl (show _ = Value.int .u64 ((k3 : Nat) : Int) from congrArg (Value.int .u64) hk3e) ?_
  refine J.convInt Ty.u103 Ty.u3 rfl rfl ?_
  refine J.name 16 rfl (show _ = Value.int .i64 ((k3 : Nat) : Int) from congrArg (Value.int .i64) (wrap_i64 (by omega) (by omega))) ?_
  refine J.addN rfl rfl (by omega) (by omega) rfl ?_
  refine J.assign rfl rfl ?_
  refine J.nil ?_
  refine JX.thenN (hK2 _ _ ?_)
  refine JC.seq (fun K3 hK3 => ?_)
  refine JC.seq (fun K4 hK4 => ?_)
  refine JC.region ?_
  refine J.move rfl rfl ?_
  refine J.lenS rfl Ty.u24 rfl rfl ?_
  refine J.move rfl rfl ?_
  refine J.nil ?_
  refine JX.thenN (hK4 _ _ ?_)
  refine JC.block ?_
  refine JC.conseq (JC.cov (f := (fun i => [(0, .slice af fs.length cf), (1, .int .i64 (1 + ((k3 : Nat) : Int))), (5, .pointer (some ⟨b5, 0, none⟩)), (18, .slice af fs.length cf), (19, .int .i64 ((fs.length : Nat) : Int)), (20, .int .i64 ((i : Nat) : Int))]) 0) ⟨rfl, rfl, rfl, rfl, rfl, rfl, trivial⟩ (JC.loop (α := Nat) (fun i => [(0, .slice af fs.length cf), (1, .int .i64 (1 + ((k3 : Nat) : Int))), (5, .pointer (some ⟨b5, 0, none⟩)), (18, .slice af fs.length cf), (19, .int .i64 ((fs.length : Nat) : Int)), (20, .int .i64 ((i : Nat) : Int))]) (fun i w' => i ≤ fs.length ∧ St w [] [(b5, cb (cI key) 23)] w') (fun i => fs.length - i) 0 (fun i => ?_))) (fun w hw => ⟨Nat.zero_le _, hw⟩)
  refine JC.pr (fun hi => ?_)
  refine JC.seq (fun K5 hK5 => ?_)
  refine JC.region ?_
  refine J.bin rfl rfl rfl rfl ?_
  refine J.nil ?_
  refine JX.thenN (hK5 _ _ ?_)
  refine JC.seq (fun K6 hK6 => ?_)
  refine JC.cond rfl (fun h0 => ?_) (fun h0 => ?_)
  · skip
    have hlt : i < fs.length := by simp at h0; omega
    have hfl := fI_length fs
    obtain ⟨q1, o1, c9, hqe, _, _⟩ := Row.some hr2 (by omega)
    simp only [Value.slice.injEq] at hqe
    obtain ⟨ha, _, _⟩ := hqe
    have h1s : Row w (.slice (some ⟨q1, o1, none⟩) fs.length cf) fs.length (fI fs) := by rw [← ha]; exact hr2
    obtain ⟨xa, hxa⟩ : ∃ x, fs[i]? = some x := ⟨_, List.getElem?_eq_getElem hlt⟩
    have hxin : xa ∈ fs := List.mem_of_getElem? hxa
    have hne : fs ≠ [] := fun e => by rw [e] at hxin; cases hxin
    obtain ⟨jm, hj1, hj2, hj3, hj4⟩ := minV_at (key := key) hne
    have hjl : jm < fs.length := (List.getElem?_eq_some_iff.1 hj2).1
    refine JC.skip ?_
    refine JX.thenN (hK6 _ _ ?_)
    refine JC.seq (fun K7 hK7 => ?_)
    refine JC.block ?_
    refine JC.seq (fun K8 hK8 => ?_)
    refine JC.region ?_
    refine J.indexAddrS Ty.el24 Ty.s23 ((rfl : ev _ _ = some (Value.slice af fs.length cf)).trans (congrArg (fun a => some (Value.slice a fs.length cf)) ha)) rfl (by omega) (by omega) rfl ?_
    refine J.loadA (vs := cI xa) Ty.a23 Ty.s23 rfl rfl (fun w1 hw => rowF_at (h1s.below (hw.drop (List.nil_sublist _)).below) hxa (by simp)) rfl ?_
    refine J.alloc Ty.zID rfl rfl (fun b8 => ?_)
    refine J.storeW (cs := cI zI) (vs := cI xa) Ty.s23 rfl rfl rfl rfl rfl (by simp [Value.oneCell']) .here ?_
    refine J.nil ?_
    refine JX.thenN (hK8 _ _ ?_)
    refine JC.seq (fun K9 hK9 => ?_)
    refine JC.region ?_
    refine J.loadOA (vs := cI xa) Ty.a23 Ty.s23 rfl (by repeat first | exact .head _ | apply List.Mem.tail | apply List.mem_append_right) (by exact rfl) rfl rfl ?_
    refine J.move rfl rfl ?_
    refine J.move rfl rfl ?_
    refine J.perm ([] ++ ((b8, cb (cI xa) 23) :: (b5, cb (cI key) 23) :: [])) (.refl _) ?_
    refine J.callS (α := Value × List (Nat × Obj)) (V := (·.1)) (Pr := fun x => Vec 23 16 x.1 (wantI xa fs (1 + ((k3 : Nat) : Int))).length (fI (wantI xa fs (1 + ((k3 : Nat) : Int)))) x.2) (L := (·.2)) (l1 := []) Ty.bd21 rfl rfl (fun w1 hw => rwant_spec xa _ fs (1 + ((k3 : Nat) : Int)) w1 (hr2.below (hw.drop (List.nil_sublist _)).below) (by omega)) (fun x hvw => ?_)
    obtain ⟨vw, lw⟩ := x
    simp only at hvw ⊢
    have hwl := wantI_le xa fs (1 + ((k3 : Nat) : Int))
    refine J.assign rfl rfl ?_
    refine J.nil ?_
    refine JX.thenN (hK9 _ _ ?_)
    refine JC.seq (fun K10 hK10 => ?_)
    refine JC.region ?_
    refine J.loadOA (vs := cI xa) Ty.a23 Ty.s23 rfl (by repeat first | exact .head _ | apply List.Mem.tail | apply List.mem_append_right) (by exact rfl) rfl rfl ?_
    refine J.move rfl rfl ?_
    refine J.loadOA (vs := cI key) Ty.a23 Ty.s23 rfl (by repeat first | exact .head _ | apply List.Mem.tail | apply List.mem_append_right) (by exact rfl) rfl rfl ?_
    refine J.perm ([] ++ (lw ++ ((b8, cb (cI xa) 23) :: (b5, cb (cI key) 23) :: []))) (.refl _) ?_
    refine J.callS (α := Value × List (Nat × Obj)) (V := (·.1)) (Pr := fun x => Vec 23 16 x.1 ((owedV xa (wantI xa fs (1 + ((k3 : Nat) : Int))) key)).length (fI ((owedV xa (wantI xa fs (1 + ((k3 : Nat) : Int))) key))) x.2) (L := (·.2)) (l1 := []) Ty.bd19 rfl rfl (fun w1 hw => owed_spec xa _ (wantI xa fs (1 + ((k3 : Nat) : Int))) key w1 (vec_rowM hvw hw (fun q hq => by first | (simp [hq]; done) | (simp at hq; simp [hq]; done) | (simp at hq; subst hq; simp))) (by omega)) (fun x hvo => ?_)
    obtain ⟨vo, lo⟩ := x
    simp only at hvo ⊢
    refine J.perm ((b8, cb (cI xa) 23) :: (b5, cb (cI key) 23) :: (lo ++ lw)) (by (refine perm_cnt (fun _ => ?_)); simp only [cntB_append, cntB_cons, cntB_nil, Nat.add_zero, Nat.zero_add]; try ac_rfl) ?_
    refine J.assign rfl rfl ?_
    refine J.nil ?_
    refine JX.thenN (hK10 _ _ ?_)
    refine JC.seq (fun K11 hK11 => ?_)
    refine JC.seq (fun K12 hK12 => ?_)
    by_cases hmn : minV key fs = xa
    · skip
      have hro := root_min (half := (1 + ((k3 : Nat) : Int))) hmn hne
      have how := owed_root hro
      apply JC.drawL 8 [Eqv (.slice (some ⟨q1, o1, none⟩) fs.length cf), Eqv (.agg (cI key).toArray), Eqv (.slice af fs.length cf), Eqv (.int .i64 ((jm : Nat) : Int)), Eqv (.pointer (some ⟨q1, o1 + (jm : Int).toNat * 16, none⟩)), Eqv (.agg (cI (minV key fs)).toArray), Eqv (.agg (cI xa).toArray), Eqv (.bool true)] Ty.mixed rfl rfl rfl (by kernel_rfl) rfl rfl (fun w w' hw hb => hw.step hb) ⟨fun _ _ _ h _ => h, fun _ _ _ h _ => h, fun _ _ _ h _ => h, fun _ _ _ h _ => h, fun _ _ _ h _ => h, fun _ _ _ h _ => h, fun _ _ _ h _ => h, fun _ _ _ h _ => h, trivial⟩ ?hstep ?htail
      case hstep =>
        refine ⟨fun wi => ?_, fun wi => ?_, fun wi => ?_, fun wi => ?_, fun wi => ?_, fun wi => ?_, fun wi => ?_, fun wi => ?_, trivial⟩
        · skip
          refine Fin.nil ?_
          refine J.move rfl rfl ?_
          refine J.name 32 rfl (show _ = Value.slice (some ⟨q1, o1, none⟩) fs.length cf by rw [ha]) ?_
          exact J.finP rfl
        · skip
          refine Fin.nil ?_
          refine J.loadA (vs := cI key) Ty.a23 Ty.s23 rfl rfl (fun w1 hw => Cells.of_block (hw.2.own ((b5, cb (cI key) 23)) (by repeat first | exact .head _ | apply List.Mem.tail | apply List.mem_append_right)) rfl) rfl ?_
          exact J.finP rfl
        · skip
          refine Fin.nil ?_
          refine J.move rfl rfl ?_
          exact J.finP rfl
        · skip
          refine Fin.consE rfl (Fin.consE rfl (Fin.nil ?_))
          refine J.callD (v := .int .i64 ((jm : Nat) : Int)) Ty.bd22 rfl rfl (fun w1 hw => by have h := rnearest_spec key _ fs w1 (hr2.below (hw.drop (List.nil_sublist _)).below) (by omega); rw [hj1] at h; exact h) ?_
          exact J.finQ rfl
        · skip
          refine Fin.consE rfl (Fin.consE rfl (Fin.nil ?_))
          refine J.indexAddrS Ty.el24 Ty.s23 rfl rfl (by omega) (by omega) rfl ?_
          exact J.finP rfl
        · skip
          refine Fin.consE rfl (Fin.nil ?_)
          refine J.loadA (vs := cI (minV key fs)) Ty.a23 Ty.s23 rfl rfl (fun w1 hw => rowF_at (h1s.below (hw.2.drop (List.nil_sublist _)).below) hj2 (by simp)) rfl ?_
          exact J.finP rfl
        · skip
          refine Fin.nil ?_
          refine J.loadA (vs := cI xa) Ty.a23 Ty.s23 rfl rfl (fun w1 hw => Cells.of_block (hw.2.own ((b8, cb (cI xa) 23)) (by repeat first | exact .head _ | apply List.Mem.tail | apply List.mem_append_right)) rfl) rfl ?_
          exact J.finP rfl
        · skip
          refine Fin.consE rfl (Fin.consE rfl (Fin.nil ?_))
          refine J.eqI Ty.QI Ty.keyI rfl rfl rfl ?_
          refine J.name 39 rfl (show _ = Value.bool true by simp [hmn]) ?_
          exact J.finP rfl
      case htail =>
        refine Fin.consE rfl (Fin.consE rfl (Fin.consE rfl (Fin.consE rfl (Fin.consE rfl (Fin.consE rfl (Fin.consE rfl (Fin.consE rfl (Fin.nil ?_))))))))
        refine J.nil ?_
        refine JX.thenN (hK12 _ _ ?_)
        first | refine JC.condT rfl ?_ | refine JC.cond rfl (fun _ => ?_) (fun h => by first | (exfalso; simp at h; omega) | (simp at h))
        refine JC.seq (fun K13 hK13 => ?_)
        refine JC.seq (fun K14 hK14 => ?_)
        refine JC.region ?_
        refine J.move rfl rfl ?_
        refine J.move rfl rfl ?_
        refine J.callB (v := .bool (decide ((owedV xa (wantI xa fs (1 + ((k3 : Nat) : Int))) key) = (wantI xa fs (1 + ((k3 : Nat) : Int)))))) (fun w1 w2 hw hb => hw.step hb) Ty.bd18 rfl rfl (fun w1 hw => sameIDs_spec _ _ (owedV xa (wantI xa fs (1 + ((k3 : Nat) : Int))) key) (wantI xa fs (1 + ((k3 : Nat) : Int))) w1 (vec_rowM hvo hw (fun q hq => by first | (simp [hq]; done) | (simp at hq; simp [hq]; done) | (simp at hq; subst hq; simp))) (vec_rowM hvw hw (fun q hq => by first | (simp [hq]; done) | (simp at hq; simp [hq]; done) | (simp at hq; subst hq; simp))) (by rw [how]; omega) (by omega)) ?_
        refine J.name 42 rfl (show _ = Value.bool true by rw [how]; simp) ?_
        refine J.not rfl rfl ?_
        refine J.nil ?_
        refine JX.thenN (hK14 _ _ ?_)
        first | refine JC.condF rfl ?_ | refine JC.cond rfl (fun h => by first | (exfalso; simp at h; omega) | (simp at h)) (fun _ => ?_)
        refine JC.skip ?_
        refine JX.thenN (hK13 _ _ ?_)
        refine JC.exit ?_
        refine JX.thenE ?_
        refine JX.blockE ?_
        refine JX.thenN (hK7 _ _ ?_)
        refine JC.region ?_
        (first | refine J.addN rfl rfl (by omega) (by omega) rfl ?_ | refine J.bin rfl rfl rfl rfl ?_)
        refine J.move rfl rfl ?_
        refine J.nil ?_
        refine JX.thenN ?_
        refine JX.again (i + 1) ?_ ?_ ?_
        · omega
        · exact ⟨rfl, rfl, rfl, rfl, rfl, rfl, trivial⟩
        · exact fun w1 hw => ⟨hlt, (hw.perm (l' := ((b8, cb (cI xa) 23) :: (lo ++ lw)) ++ [(b5, cb (cI key) 23)]) (by (refine perm_cnt (fun _ => ?_)); simp only [cntB_append, cntB_cons, cntB_nil, Nat.add_zero, Nat.zero_add]; try ac_rfl)).drop (List.sublist_append_right _ _)⟩
    · skip
      have hro := root_not (half := (1 + ((k3 : Nat) : Int))) (by omega) hne hxin hmn
      obtain ⟨bn, hb1, hb2, hb3⟩ := owed_not hro
      rw [hb1] at hvo
      obtain ⟨ao, co_, rfl, hco⟩ := hvo.form
      obtain ⟨qo, rfl⟩ : ∃ q, ao = some ⟨q, 0, none⟩ := by
        rcases hvo.2 with ⟨h9, h8, _⟩ | ⟨q, c9, sp, h9, _⟩
        · cases h8
        · simp only [Value.slice.injEq] at h9; exact ⟨q, h9.1⟩
      apply JC.drawL 8 [Eqv (.slice (some ⟨q1, o1, none⟩) fs.length cf), Eqv (.agg (cI key).toArray), Eqv (.slice af fs.length cf), Eqv (.int .i64 ((jm : Nat) : Int)), Eqv (.pointer (some ⟨q1, o1 + (jm : Int).toNat * 16, none⟩)), Eqv (.agg (cI (minV key fs)).toArray), Eqv (.agg (cI xa).toArray), Eqv (.bool false)] Ty.mixed rfl rfl rfl (by kernel_rfl) rfl rfl (fun w w' hw hb => hw.step hb) ⟨fun _ _ _ h _ => h, fun _ _ _ h _ => h, fun _ _ _ h _ => h, fun _ _ _ h _ => h, fun _ _ _ h _ => h, fun _ _ _ h _ => h, fun _ _ _ h _ => h, fun _ _ _ h _ => h, trivial⟩ ?hstep ?htail
      case hstep =>
        refine ⟨fun wi => ?_, fun wi => ?_, fun wi => ?_, fun wi => ?_, fun wi => ?_, fun wi => ?_, fun wi => ?_, fun wi => ?_, trivial⟩
        · skip
          refine Fin.nil ?_
          refine J.move rfl rfl ?_
          refine J.name 32 rfl (show _ = Value.slice (some ⟨q1, o1, none⟩) fs.length cf by rw [ha]) ?_
          exact J.finP rfl
        · skip
          refine Fin.nil ?_
          refine J.loadA (vs := cI key) Ty.a23 Ty.s23 rfl rfl (fun w1 hw => Cells.of_block (hw.2.own ((b5, cb (cI key) 23)) (by repeat first | exact .head _ | apply List.Mem.tail | apply List.mem_append_right)) rfl) rfl ?_
          exact J.finP rfl
        · skip
          refine Fin.nil ?_
          refine J.move rfl rfl ?_
          exact J.finP rfl
        · skip
          refine Fin.consE rfl (Fin.consE rfl (Fin.nil ?_))
          refine J.callD (v := .int .i64 ((jm : Nat) : Int)) Ty.bd22 rfl rfl (fun w1 hw => by have h := rnearest_spec key _ fs w1 (hr2.below (hw.drop (List.nil_sublist _)).below) (by omega); rw [hj1] at h; exact h) ?_
          exact J.finQ rfl
        · skip
          refine Fin.consE rfl (Fin.consE rfl (Fin.nil ?_))
          refine J.indexAddrS Ty.el24 Ty.s23 rfl rfl (by omega) (by omega) rfl ?_
          exact J.finP rfl
        · skip
          refine Fin.consE rfl (Fin.nil ?_)
          refine J.loadA (vs := cI (minV key fs)) Ty.a23 Ty.s23 rfl rfl (fun w1 hw => rowF_at (h1s.below (hw.2.drop (List.nil_sublist _)).below) hj2 (by simp)) rfl ?_
          exact J.finP rfl
        · skip
          refine Fin.nil ?_
          refine J.loadA (vs := cI xa) Ty.a23 Ty.s23 rfl rfl (fun w1 hw => Cells.of_block (hw.2.own ((b8, cb (cI xa) 23)) (by repeat first | exact .head _ | apply List.Mem.tail | apply List.mem_append_right)) rfl) rfl ?_
          exact J.finP rfl
        · skip
          refine Fin.consE rfl (Fin.consE rfl (Fin.nil ?_))
          refine J.eqI Ty.QI Ty.keyI rfl rfl rfl ?_
          refine J.name 39 rfl (show _ = Value.bool false by simp [hmn]) ?_
          exact J.finP rfl
      case htail =>
        refine Fin.consE rfl (Fin.consE rfl (Fin.consE rfl (Fin.consE rfl (Fin.consE rfl (Fin.consE rfl (Fin.consE rfl (Fin.consE rfl (Fin.nil ?_))))))))
        refine J.nil ?_
        refine JX.thenN (hK12 _ _ ?_)
        first | refine JC.condF rfl ?_ | refine JC.cond rfl (fun h => by first | (exfalso; simp at h; omega) | (simp at h)) (fun _ => ?_)
        refine JC.skip ?_
        refine JX.thenN (hK11 _ _ ?_)
        refine JC.seq (fun K15 hK15 => ?_)
        apply JC.drawL 12 [Eqv (.slice (some ⟨qo, 0, none⟩) 1 co_), Eqv (.int .i64 1), Eqv (.bool false), Eqv (.bool false), Eqv (.agg (cI key).toArray), Eqv (.slice (some ⟨qo, 0, none⟩) 1 co_), Eqv (.pointer (some ⟨qo, 0 + (0 : Int).toNat * 16, none⟩)), Eqv (.agg (cI bn).toArray), Eqv (.agg (cI xa).toArray), Eqv (.bool true), Eqv (.bool false), Eqv (.bool false)] Ty.mixed rfl rfl rfl (by kernel_rfl) rfl rfl (fun w w' hw hb => hw.step hb) ⟨fun _ _ _ h _ => h, fun _ _ _ h _ => h, fun _ _ _ h _ => h, fun _ _ _ h _ => h, fun _ _ _ h _ => h, fun _ _ _ h _ => h, fun _ _ _ h _ => h, fun _ _ _ h _ => h, fun _ _ _ h _ => h, fun _ _ _ h _ => h, fun _ _ _ h _ => h, fun _ _ _ h _ => h, trivial⟩ ?hstep ?htail
        case hstep =>
          refine ⟨fun wi => ?_, fun wi => ?_, fun wi => ?_, fun wi => ?_, fun wi => ?_, fun wi => ?_, fun wi => ?_, fun wi => ?_, fun wi => ?_, fun wi => ?_, fun wi => ?_, fun wi => ?_, trivial⟩
          · skip
            refine Fin.nil ?_
            refine J.move rfl rfl ?_
            exact J.finP rfl
          · skip
            refine Fin.consE rfl (Fin.nil ?_)
            refine J.lenS rfl Ty.u24 rfl rfl ?_
            exact J.finP rfl
          · skip
            refine Fin.consE rfl (Fin.nil ?_)
            refine J.bin rfl rfl rfl rfl ?_
            exact J.finP rfl
          · skip
            refine Fin.consE rfl (Fin.nil ?_)
            refine J.move rfl rfl ?_
            exact J.finP rfl
          · skip
            refine Fin.consE rfl (Fin.nil ?_)
            refine J.unguard rfl rfl rfl ?_
            refine J.loadA (vs := cI key) Ty.a23 Ty.s23 rfl rfl (fun w1 hw => Cells.of_block (hw.2.own ((b5, cb (cI key) 23)) (by repeat first | exact .head _ | apply List.Mem.tail | apply List.mem_append_right)) rfl) rfl ?_
            exact J.finP rfl
          · skip
            refine Fin.consE rfl (Fin.nil ?_)
            first | refine J.skip rfl rfl rfl rfl rfl ?_ | refine J.skipU rfl rfl rfl rfl ?_ | (refine J.unguard rfl rfl rfl ?_; refine J.move rfl rfl ?_)
            exact J.finP rfl
          · skip
            refine Fin.consE rfl (Fin.consE rfl (Fin.nil ?_))
            refine J.unguard rfl rfl rfl ?_
            refine J.indexAddrS Ty.el24 Ty.s23 rfl rfl (by omega) (by omega) rfl ?_
            exact J.finP rfl
          · skip
            refine Fin.consE rfl (Fin.consE rfl (Fin.nil ?_))
            refine J.unguard rfl rfl rfl ?_
            refine J.loadA (vs := cI bn) Ty.a23 Ty.s23 rfl rfl (fun w1 hw => rowF_at (xs := [bn]) (i := 0) (o := 0) (vec_rowM hvo hw.2 (fun q hq => by first | (simp [hq]; done) | (simp at hq; simp [hq]; done) | (simp at hq; subst hq; simp))) rfl rfl) rfl ?_
            exact J.finP rfl
          · skip
            refine Fin.consE rfl (Fin.nil ?_)
            refine J.unguard rfl rfl rfl ?_
            refine J.loadA (vs := cI xa) Ty.a23 Ty.s23 rfl rfl (fun w1 hw => Cells.of_block (hw.2.own ((b8, cb (cI xa) 23)) (by repeat first | exact .head _ | apply List.Mem.tail | apply List.mem_append_right)) rfl) rfl ?_
            exact J.finP rfl
          · skip
            refine Fin.consE rfl (Fin.consE rfl (Fin.consE rfl (Fin.consE rfl (Fin.consE rfl (Fin.nil ?_)))))
            refine J.unguard rfl rfl rfl ?_
            refine J.callD (v := .bool (decide (kN key bn < kN key xa))) Ty.bd23 rfl rfl (fun w1 hw => rnearer_spec key bn xa w1) ?_
            refine J.name 53 rfl (show _ = Value.bool true by simp [hb3]) ?_
            exact J.finQ rfl
          · skip
            refine Fin.consE rfl (Fin.consE rfl (Fin.nil ?_))
            first | refine J.skip rfl rfl rfl rfl rfl ?_ | refine J.skipU rfl rfl rfl rfl ?_ | (refine J.unguard rfl rfl rfl ?_; refine J.not rfl rfl ?_)
            exact J.finP rfl
          · skip
            refine Fin.consE rfl (Fin.consE rfl (Fin.nil ?_))
            (first | refine J.pickT rfl rfl rfl ?_ | refine J.pickF rfl rfl rfl ?_)
            exact J.finP rfl
        case htail =>
          refine Fin.consE rfl (Fin.consE rfl (Fin.consE rfl (Fin.consE rfl (Fin.consE rfl (Fin.consE rfl (Fin.consE rfl (Fin.consE rfl (Fin.consE rfl (Fin.consE rfl (Fin.consE rfl (Fin.consE rfl (Fin.nil ?_))))))))))))
          refine J.nil ?_
          refine JX.thenN (hK15 _ _ ?_)
          first | refine JC.condF rfl ?_ | refine JC.cond rfl (fun h => by first | (exfalso; simp at h; omega) | (simp at h)) (fun _ => ?_)
          refine JC.skip ?_
          refine JX.blockN ?_
          refine JX.thenN (hK7 _ _ ?_)
          refine JC.region ?_
          (first | refine J.addN rfl rfl (by omega) (by omega) rfl ?_ | refine J.bin rfl rfl rfl rfl ?_)
          refine J.move rfl rfl ?_
          refine J.nil ?_
          refine JX.thenN ?_
          refine JX.again (i + 1) ?_ ?_ ?_
          · omega
          · exact ⟨rfl, rfl, rfl, rfl, rfl, rfl, trivial⟩
          · exact fun w1 hw => ⟨hlt, (hw.perm (l' := ((b8, cb (cI xa) 23) :: (lo ++ lw)) ++ [(b5, cb (cI key) 23)]) (by (refine perm_cnt (fun _ => ?_)); simp only [cntB_append, cntB_cons, cntB_nil, Nat.add_zero, Nat.zero_add]; try ac_rfl)).drop (List.sublist_append_right _ _)⟩
  · skip
    skip
    refine JC.exit ?_
    refine JX.thenE ?_
    refine JX.thenE ?_
    refine JX.blockE ?_
    refine JX.thenN (hK3 _ _ ?_)
    refine JC.seq (fun K16 hK16 => ?_)
    refine JC.region ?_
    refine J.callB (v := .bool true) (fun w1 w2 hw hb => hw.step hb) Ty.bd15 rfl rfl (fun w1 hw => fixed19_spec w1) ?_
    refine J.assign rfl rfl ?_
    refine J.nil ?_
    refine JX.thenN (hK16 _ _ ?_)
    refine JC.ret ?_
    refine JX.ret1 rfl rfl (fun w hw => ?_)
    exact ⟨rfl, (hw.drop (List.nil_sublist _)).below⟩

end Go.Proofs.Ytbafhclandendaa
