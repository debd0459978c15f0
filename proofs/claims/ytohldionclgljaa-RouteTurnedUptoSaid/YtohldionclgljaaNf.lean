/-
  Layer 13's example: contract.
-/
import Derived.Test.YtohldionclgljaaNe
namespace Go.Proofs.Ytohldionclgljaa
open Go.J Go.RowKit
set_option linter.unusedVariables false
set_option linter.unusedSimpArgs false
set_option maxRecDepth 8000
theorem zPA_ : zeroT Try.prog 38 = some (.agg (cP zP).toArray) := by kernel_rfl
def exR : EV := ⟨⟨zI, 1⟩, idN 5, idN 20, -1, 2⟩
def nrR : NV := ⟨1, idN 9⟩
theorem valI_idN (k : UInt8) : valI (idN k) = k.toNat := by simp [valI, bI, idN, valB]
theorem dI_idN (a b : UInt8) : dI (idN a) (idN b) = (b.toNat + 2 ^ 128 - a.toNat) % 2 ^ 128 := by rw [dI_eq, valI_idN, valI_idN]
theorem near_idN (d a b : UInt8) : kN (idN d) (idN a) < kN (idN d) (idN b) ↔ ((if 2 ^ 128 < 2 * ((a.toNat + 2 ^ 128 - d.toNat) % 2 ^ 128) then 2 ^ 128 - (a.toNat + 2 ^ 128 - d.toNat) % 2 ^ 128 else (a.toNat + 2 ^ 128 - d.toNat) % 2 ^ 128) < (if 2 ^ 128 < 2 * ((b.toNat + 2 ^ 128 - d.toNat) % 2 ^ 128) then 2 ^ 128 - (b.toNat + 2 ^ 128 - d.toNat) % 2 ^ 128 else (b.toNat + 2 ^ 128 - d.toNat) % 2 ^ 128) ∨
    ((if 2 ^ 128 < 2 * ((a.toNat + 2 ^ 128 - d.toNat) % 2 ^ 128) then 2 ^ 128 - (a.toNat + 2 ^ 128 - d.toNat) % 2 ^ 128 else (a.toNat + 2 ^ 128 - d.toNat) % 2 ^ 128) = (if 2 ^ 128 < 2 * ((b.toNat + 2 ^ 128 - d.toNat) % 2 ^ 128) then 2 ^ 128 - (b.toNat + 2 ^ 128 - d.toNat) % 2 ^ 128 else (b.toNat + 2 ^ 128 - d.toNat) % 2 ^ 128) ∧ (a.toNat + 2 ^ 128 - d.toNat) % 2 ^ 128 < (b.toNat + 2 ^ 128 - d.toNat) % 2 ^ 128)) := by
  rw [← near_kN]
  unfold nearP
  rw [farI_of, farI_of, dI_idN, dI_idN]
theorem idN_ne {a b : UInt8} (h : a ≠ b) : idN a ≠ idN b := fun e => h (by have := congrFun e 15; simpa [idN] using this)
theorem right_exR : rightP exR := ⟨idN_ne (by decide), by decide, by decide, by decide⟩
theorem ok_exR : okE exR := ⟨okN1 (by decide) (by decide), okN1 (by decide) (by decide), okN1 (by decide) (by decide)⟩
theorem laid_exR : laidL 128 [exR] = [exR] := by
  show (tadd [] 128 exR).2 = [exR]
  rw [tadd_ok right_exR rfl (by decide)]
  rfl
theorem choose_far {d : IDV} {a b : CV} (h : a.id ≠ b.id) : befV d a b = decide (kN d a.id < kN d b.id) := by unfold befV; rw [if_pos h]
theorem choose1 : chooseV (idN 21) (idN 5) [nrR] [exR] = ⟨idN 20, false, ⟨zI, 1⟩, 2⟩ := by
  have h1 : kN (idN 21) (idN 9) < kN (idN 21) (idN 5) := (near_idN _ _ _).2 (by decide +kernel)
  have h2 : kN (idN 21) (idN 20) < kN (idN 21) (idN 9) := (near_idN _ _ _).2 (by decide +kernel)
  have e1 : befV (idN 21) (nC nrR) (selfC (idN 5)) = true := by rw [choose_far (idN_ne (by decide))]; exact decide_eq_true h1
  have e2 : befV (idN 21) ⟨idN 20, false, ⟨zI, 1⟩, 2⟩ (nC nrR) = true := by rw [choose_far (idN_ne (by decide))]; exact decide_eq_true h2
  show bestV (idN 21) [nC nrR, ⟨idN 20, false, ⟨zI, 1⟩, 2⟩] (selfC (idN 5)) = _
  simp only [bestV, List.foldl_cons, List.foldl_nil]
  rw [if_pos e1, if_pos e2]
theorem choose2 : chooseV (idN 7) (idN 5) [nrR] [exR] = nC nrR := by
  have h1 : kN (idN 7) (idN 9) < kN (idN 7) (idN 5) := (near_idN _ _ _).2 (by decide +kernel)
  have h2 : ¬ kN (idN 7) (idN 20) < kN (idN 7) (idN 9) := fun h => absurd ((near_idN _ _ _).1 h) (by decide +kernel)
  have e1 : befV (idN 7) (nC nrR) (selfC (idN 5)) = true := by rw [choose_far (idN_ne (by decide))]; exact decide_eq_true h1
  have e2 : befV (idN 7) ⟨idN 20, false, ⟨zI, 1⟩, 2⟩ (nC nrR) = false := by rw [choose_far (idN_ne (by decide))]; exact decide_eq_false h2
  show bestV (idN 7) [nC nrR, ⟨idN 20, false, ⟨zI, 1⟩, 2⟩] (selfC (idN 5)) = _
  simp only [bestV, List.foldl_cons, List.foldl_nil]
  rw [if_pos e1, if_neg (by rw [e2]; decide)]
theorem ok_c1 : okC ⟨idN 20, false, ⟨zI, 1⟩, 2⟩ := ⟨(okN1 (by decide) (by decide) : okN 1), (okN1 (by decide) (by decide) : okN 2)⟩
theorem ok_c2 : okC (nC nrR) := ⟨(okN1 (by decide) (by decide) : okN 0), (okN1 (by decide) (by decide) : okN 1)⟩

set_option maxHeartbeats 1000000 in
theorem fixed13_spec (w : World) :
    Calls Try.prog 15 [].toArray w fun r w' => r = .returned (.bool true) ∧ Bel w w' := by
  refine calls_of_J (args := []) (e := []) Try.func15 rfl rfl trivial (St.start w) ?_
  refine JC.seq (fun K0 hK0 => ?_)
  refine JC.region ?_
  refine J.assign rfl rfl ?_
  refine J.nil ?_
  refine JX.thenN (hK0 _ _ ?_)
  refine JC.seq (fun K1 hK1 => ?_)
  refine JC.region ?_
  refine J.buildS (cs := cP (⟨zI, 1⟩ : PV)) Ty.pl38 zPA_ rfl (by kernel_rfl) rfl ?_
  refine J.callB (v := .agg (cI (idN 5)).toArray) (fun w1 w2 hw hb => hw.step hb) Ty.bd46 rfl rfl (fun w1 hw => n13_spec 5 w1) ?_
  refine J.callB (v := .agg (cI (idN 20)).toArray) (fun w1 w2 hw hb => hw.step hb) Ty.bd46 rfl rfl (fun w1 hw => n13_spec 20 w1) ?_
  refine J.buildS (cs := cE exR) Ty.pl55 Ty.zE_ rfl (by kernel_rfl) rfl ?_
  refine J.buildSl (cs := cE exR) Ty.el25 Ty.s55 Ty.zE_ rfl rfl rfl rfl (by kernel_rfl) rfl rfl (fun b9 => ?_)
  refine J.perm ([] ++ ((b9, cb (cE exR) 55) :: [])) (.refl _) ?_
  refine J.callS (α := LaidS) (V := fun x => .tuple #[.pointer (some ⟨x.t1, 0, none⟩), x.vr]) (Pr := fun x => Tab (laidL 128 ([exR])) x.es x.ck ∧ Vec 55 51 x.vr (ordE (laidL 128 ([exR]))).length (fE (ordE (laidL 128 ([exR])))) x.lr) (L := fun x => x.blk 128) (l1 := []) Ty.bd14 rfl rfl (fun w1 hw => laid13_spec _ ([exR]) w1 (Row.own (cs := cE exR) (tb := 55) (fr := (0, 0)) hw (.head _) rfl (Nat.le_refl _) : Row w1 (.slice (some ⟨b9, 0, none⟩) 1 1) 1 (fE [exR])) (fun x hx => by simp at hx; subst hx; exact ok_exR) (by decide)) (fun x hx9 => ?_)
  obtain ⟨t1, m1, rt, es, ck, vr, lr⟩ := x
  obtain ⟨hT, hvr⟩ := hx9
  simp only [LaidS.blk, List.cons_append] at hT hvr ⊢
  obtain ⟨ar, cr, rfl, hcr⟩ := hvr.form
  refine J.perm ((t1, tabO 128 m1) :: (m1, .map es ck) :: (rt, rtabO (.slice ar (ordE (laidL 128 [exR])).length cr) 128) :: (b9, cb (cE exR) 55) :: lr) (by (refine perm_cnt (fun _ => ?_)); simp only [cntB_append, cntB_cons, cntB_nil, Nat.add_zero, Nat.zero_add]; try ac_rfl) ?_
  refine J.move rfl rfl ?_
  refine J.extract rfl rfl rfl ?_
  refine J.extract rfl rfl rfl ?_
  refine J.assign rfl rfl ?_
  refine J.assign rfl rfl ?_
  refine J.nil ?_
  refine JX.thenN (hK1 _ _ ?_)
  refine JC.seq (fun K2 hK2 => ?_)
  refine JC.region ?_
  refine J.callB (v := .agg (cI (idN 9)).toArray) (fun w1 w2 hw hb => hw.step hb) Ty.bd46 rfl rfl (fun w1 hw => n13_spec 9 w1) ?_
  refine J.buildS (cs := cN nrR) Ty.pl53 zNe_ rfl (by kernel_rfl) rfl ?_
  skip
  refine J.buildSl (cs := cN nrR) Ty.el24 Ty.s53 zNe_ rfl rfl rfl rfl (by kernel_rfl) rfl rfl (fun b15 => ?_)
  refine J.assign rfl rfl ?_
  refine J.nil ?_
  refine JX.thenN (hK2 _ _ ?_)
  refine JC.seq (fun K3 hK3 => ?_)
  refine JC.region ?_
  refine J.move rfl rfl ?_
  refine J.perm ((t1, tabO 128 m1) :: (m1, .map es ck) :: (rt, rtabO (.slice ar (ordE (laidL 128 [exR])).length cr) 128) :: (b15, cb (cN nrR) 53) :: (b9, cb (cE exR) 55) :: lr) (by (refine perm_cnt (fun _ => ?_)); simp only [cntB_append, cntB_cons, cntB_nil, Nat.add_zero, Nat.zero_add]; try ac_rfl) ?_
  refine J.lenS rfl Ty.u25 rfl rfl ?_
  refine J.bin rfl rfl rfl rfl ?_
  refine J.name 18 rfl (show _ = Value.bool true by rw [laid_exR, ordE_one]; rfl) ?_
  refine J.move rfl rfl ?_
  first | refine J.skip rfl rfl rfl rfl rfl ?_ | refine J.skipU rfl rfl rfl rfl ?_ | (refine J.unguard rfl rfl rfl ?_; refine J.callB (v := .agg (cI (idN 21)).toArray) (fun w1 w2 hw hb => hw.step hb) Ty.bd46 rfl rfl (fun w1 hw => n13_spec 21 w1) ?_)
  first | refine J.skip rfl rfl rfl rfl rfl ?_ | refine J.skipU rfl rfl rfl rfl ?_ | (refine J.unguard rfl rfl rfl ?_; refine J.callB (v := .agg (cI (idN 5)).toArray) (fun w1 w2 hw hb => hw.step hb) Ty.bd46 rfl rfl (fun w1 hw => n13_spec 5 w1) ?_)
  first | refine J.skip rfl rfl rfl rfl rfl ?_ | refine J.skipU rfl rfl rfl rfl ?_ | (refine J.unguard rfl rfl rfl ?_; refine J.move rfl rfl ?_)
  first | refine J.skip rfl rfl rfl rfl rfl ?_ | refine J.skipU rfl rfl rfl rfl ?_ | (refine J.unguard rfl rfl rfl ?_; refine J.move rfl rfl ?_)
  refine J.unguard rfl rfl rfl ?_
  refine J.callB (v := .agg (cC (chooseV (idN 21) (idN 5) [nrR] (ordE (laidL 128 [exR])))).toArray) (fun w1 w2 hw hb => hw.step hb) Ty.bd19 rfl rfl (fun w1 hw => choose_spec t1 m1 128 (laidL 128 [exR]) es ck w1 (hw.own _ (.head _)) (hw.own _ (.tail _ (.head _))) hT (by rw [laid_exR]; decide) (idN 21) (idN 5) _ [nrR] (Row.own (cs := cN nrR) (tb := 53) (fr := (0, 0)) hw (.tail _ (.tail _ (.tail _ (.head _)))) rfl (Nat.le_refl _) : Row w1 (.slice (some ⟨b15, 0, none⟩) 1 1) 1 (fN [nrR])) (by decide) (fun x hx => by simp at hx; subst hx; exact (okN1 (by decide) (by decide) : okN 1))) ?_
  refine J.name 24 rfl (show _ = .agg (cC (⟨idN 20, false, ⟨zI, 1⟩, 2⟩ : CV)).toArray by rw [laid_exR, ordE_one, choose1]) ?_
  first | refine J.skip rfl rfl rfl rfl rfl ?_ | refine J.skipU rfl rfl rfl rfl ?_ | (refine J.unguard rfl rfl rfl ?_; refine J.callB (v := .agg (cI (idN 20)).toArray) (fun w1 w2 hw hb => hw.step hb) Ty.bd46 rfl rfl (fun w1 hw => n13_spec 20 w1) ?_)
  first | refine J.skip rfl rfl rfl rfl rfl ?_ | refine J.skipU rfl rfl rfl rfl ?_ | (refine J.unguard rfl rfl rfl ?_; refine J.buildS (cs := cP (⟨zI, 1⟩ : PV)) Ty.pl38 zPA_ rfl (by kernel_rfl) rfl ?_)
  first | refine J.skip rfl rfl rfl rfl rfl ?_ | refine J.skipU rfl rfl rfl rfl ?_ | (refine J.unguard rfl rfl rfl ?_; refine J.buildS (cs := cC (⟨idN 20, false, ⟨zI, 1⟩, 2⟩ : CV)) Ty.pl40 zC40 rfl (by kernel_rfl) rfl ?_)
  refine J.unguard rfl rfl rfl ?_
  obtain ⟨_, k1⟩ := keyC40 _ ok_c1.1 ok_c1.2
  refine J.eqA QC40 rfl rfl k1 k1 rfl fun r hr => ?_
  obtain rfl : r = true := hr.2 rfl
  (first | refine J.pickT rfl rfl rfl ?_ | refine J.pickF rfl rfl rfl ?_)
  refine J.move rfl rfl ?_
  first | refine J.skip rfl rfl rfl rfl rfl ?_ | refine J.skipU rfl rfl rfl rfl ?_ | (refine J.unguard rfl rfl rfl ?_; refine J.callB (v := .agg (cI (idN 7)).toArray) (fun w1 w2 hw hb => hw.step hb) Ty.bd46 rfl rfl (fun w1 hw => n13_spec 7 w1) ?_)
  first | refine J.skip rfl rfl rfl rfl rfl ?_ | refine J.skipU rfl rfl rfl rfl ?_ | (refine J.unguard rfl rfl rfl ?_; refine J.callB (v := .agg (cI (idN 5)).toArray) (fun w1 w2 hw hb => hw.step hb) Ty.bd46 rfl rfl (fun w1 hw => n13_spec 5 w1) ?_)
  first | refine J.skip rfl rfl rfl rfl rfl ?_ | refine J.skipU rfl rfl rfl rfl ?_ | (refine J.unguard rfl rfl rfl ?_; refine J.move rfl rfl ?_)
  first | refine J.skip rfl rfl rfl rfl rfl ?_ | refine J.skipU rfl rfl rfl rfl ?_ | (refine J.unguard rfl rfl rfl ?_; refine J.move rfl rfl ?_)
  refine J.unguard rfl rfl rfl ?_
  refine J.callB (v := .agg (cC (chooseV (idN 7) (idN 5) [nrR] (ordE (laidL 128 [exR])))).toArray) (fun w1 w2 hw hb => hw.step hb) Ty.bd19 rfl rfl (fun w1 hw => choose_spec t1 m1 128 (laidL 128 [exR]) es ck w1 (hw.own _ (.head _)) (hw.own _ (.tail _ (.head _))) hT (by rw [laid_exR]; decide) (idN 7) (idN 5) _ [nrR] (Row.own (cs := cN nrR) (tb := 53) (fr := (0, 0)) hw (.tail _ (.tail _ (.tail _ (.head _)))) rfl (Nat.le_refl _) : Row w1 (.slice (some ⟨b15, 0, none⟩) 1 1) 1 (fN [nrR])) (by decide) (fun x hx => by simp at hx; subst hx; exact (okN1 (by decide) (by decide) : okN 1))) ?_
  refine J.name 35 rfl (show _ = .agg (cC (nC nrR)).toArray by rw [laid_exR, ordE_one, choose2]) ?_
  first | refine J.skip rfl rfl rfl rfl rfl ?_ | refine J.skipU rfl rfl rfl rfl ?_ | (refine J.unguard rfl rfl rfl ?_; refine J.callB (v := .agg (cI (idN 9)).toArray) (fun w1 w2 hw hb => hw.step hb) Ty.bd46 rfl rfl (fun w1 hw => n13_spec 9 w1) ?_)
  first | refine J.skip rfl rfl rfl rfl rfl ?_ | refine J.skipU rfl rfl rfl rfl ?_ | (refine J.unguard rfl rfl rfl ?_; refine J.buildS (cs := cC (nC nrR)) Ty.pl40 zC40 rfl (by kernel_rfl) rfl ?_)
  refine J.unguard rfl rfl rfl ?_
  obtain ⟨_, k1⟩ := keyC40 _ ok_c2.1 ok_c2.2
  refine J.eqA QC40 rfl rfl k1 k1 rfl fun r hr => ?_
  obtain rfl : r = true := hr.2 rfl
  (first | refine J.pickT rfl rfl rfl ?_ | refine J.pickF rfl rfl rfl ?_)
  refine J.assign rfl rfl ?_
  refine J.nil ?_
  refine JX.thenN (hK3 _ _ ?_)
  refine JC.ret ?_
  refine JX.ret1 rfl rfl (fun w hw => ?_)
  exact ⟨rfl, (hw.drop (List.nil_sublist _)).below⟩

end Go.Proofs.Ytohldionclgljaa
