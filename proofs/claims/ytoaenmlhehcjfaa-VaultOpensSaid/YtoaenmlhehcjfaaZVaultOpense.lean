/-
  VaultOpens: texts that its proof needs, part 5.
-/
import Derived.Test.YtoaenmlhehcjfaaZVaultOpensd
/-
 The document's GetNum, GetID, GetText: contracts.
-/
namespace Go.Proofs.Ytoaenmlhehcjfaa
open Go.J Go.RowKit
set_option linter.unusedVariables false
set_option linter.unusedSimpArgs false
set_option maxRecDepth 8000
theorem set_mapB (l : List UInt8) (k : Nat) (x : UInt8) : setMany (l.map u8) (0 + k) [u8 x] = (l.set k x).map u8 := by
 simp only [setMany, Nat.zero_add, List.map_set]
/-- an identity, as far as it is read -/
def partI (bs : List UInt8) (at_ i : Nat) : List UInt8 := (bs.drop at_).take i ++ List.replicate (16 - i) 0
theorem partI_set {bs : List UInt8} {at_ i : Nat} (h : at_ + i < bs.length) (hi : i < 16) : (partI bs at_ i).set i (bs[at_ + i]) = partI bs at_ (i + 1) := by
 unfold partI
 have hl : ((bs.drop at_).take i).length = i := by rw [List.length_take, List.length_drop]; omega
 rw [List.set_append_right _ _ (by omega), hl, Nat.sub_self, take_add_one (by rw [List.length_drop]; omega), show 16 - i = (16 - (i + 1)) + 1 by omega, List.replicate_succ, List.set_cons_zero, List.append_assoc, List.getElem_drop]
 rfl
theorem partI_len (bs : List UInt8) {at_ i : Nat} (hi : i ≤ 16) (h : at_ + i ≤ bs.length) : (partI bs at_ i).length = 16 := by
 unfold partI
 rw [List.length_append, List.length_take, List.length_drop, List.length_replicate]; omega
theorem partI_all (bs : List UInt8) (at_ : Nat) : partI bs at_ 16 = (bs.drop at_).take 16 := by
 unfold partI
 rw [Nat.sub_self, List.replicate_zero, List.append_nil]

theorem rgetNum_spec (v : Value) (bs : List UInt8) (at_ : Nat) (w : World) (hr : Row w v bs.length (bs.map u8)) (hl : bs.length ≤ 100000) (hal : at_ ≤ 1000000) :
    Calls Try.prog 80 [v, .int .i64 ((at_ : Nat) : Int)].toArray w fun r w' => r = .returned (.tuple #[.int .u64 (((getN bs at_).1 : Nat) : Int), .int .i64 (((getN bs at_).2.1 : Nat) : Int), .int .i64 (getN bs at_).2.2]) ∧ Bel w w' := by
  obtain ⟨a, c, rfl, hc, hra⟩ := id hr
  refine calls_of_J (args := [.slice a bs.length c, .int .i64 ((at_ : Nat) : Int)]) (e := [(0, .slice a bs.length c), (1, .int .i64 ((at_ : Nat) : Int))]) Try.func80 rfl rfl ⟨rfl, rfl, trivial⟩ (St.start w) ?_
  refine JC.seq (fun K0 hK0 => ?_)
  refine JC.region ?_
  refine J.assign rfl rfl ?_
  refine J.assign rfl rfl ?_
  refine J.assign rfl rfl ?_
  refine J.nil ?_
  refine JX.thenN (hK0 _ _ ?_)
  refine JC.seq (fun K1 hK1 => ?_)
  refine JC.seq (fun K2 hK2 => ?_)
  refine JC.region ?_
  refine J.move rfl rfl ?_
  refine J.bin rfl rfl rfl rfl ?_
  refine J.name 12 rfl (show _ = Value.bool false by simp) ?_
  refine J.move rfl rfl ?_
  first | refine J.skip rfl rfl rfl rfl rfl ?_ | refine J.skipU rfl rfl rfl rfl ?_ | (refine J.unguard rfl rfl rfl ?_; refine J.move rfl rfl ?_)
  first | refine J.skip rfl rfl rfl rfl rfl ?_ | refine J.skipU rfl rfl rfl rfl ?_ | (refine J.unguard rfl rfl rfl ?_; refine J.move rfl rfl ?_)
  first | refine J.skip rfl rfl rfl rfl rfl ?_ | refine J.skipU rfl rfl rfl rfl ?_ | (refine J.unguard rfl rfl rfl ?_; refine J.lenS rfl Ty.u26 rfl rfl ?_)
  first | refine J.skip rfl rfl rfl rfl rfl ?_ | refine J.skipU rfl rfl rfl rfl ?_ | (refine J.unguard rfl rfl rfl ?_; refine J.bin rfl rfl rfl rfl ?_)
  (first | refine J.pickT rfl rfl rfl ?_ | refine J.pickF rfl rfl rfl ?_)
  refine J.nil ?_
  refine JX.thenN (hK2 _ _ ?_)
  refine JC.cond rfl (fun h0 => ?_) (fun h0 => ?_)
  · skip
    have hg : getN bs at_ = (0, 0, 1) := by unfold getN; rw [if_pos (by simp at h0; omega)]
    refine JC.seq (fun K3 hK3 => ?_)
    refine JC.region ?_
    refine J.assign rfl rfl ?_
    refine J.assign rfl rfl ?_
    refine J.assign rfl rfl ?_
    refine J.nil ?_
    refine JX.thenN (hK3 _ _ ?_)
    refine JC.ret ?_
    refine JX.thenR ?_
    refine JX.ret3 rfl rfl rfl rfl (fun w1 hw => ?_)
    exact ⟨by rw [hg] <;> rfl, hw.below⟩
  · skip
    have hal2 : at_ ≤ bs.length := by simp at h0; omega
    have hr1 := row_subB hr rfl (i := at_) (j := bs.length) hal2 (Nat.le_refl _)
    obtain ⟨q1, hq1⟩ : ∃ q, (if c = at_ then a else a.map (·.add (at_ * 1))) = q := ⟨_, rfl⟩
    rw [hq1, List.take_of_length_le (by rw [List.length_drop]; exact Nat.le_refl _)] at hr1
    refine JC.skip ?_
    refine JX.thenN (hK1 _ _ ?_)
    refine JC.seq (fun K4 hK4 => ?_)
    refine JC.region ?_
    refine J.move rfl rfl ?_
    refine J.move rfl rfl ?_
    refine J.sliceS (i := at_) (j := bs.length) Ty.el26 Ty.s5 rfl rfl rfl (by simp [bnd]) rfl (by omega) (by omega) (by omega) rfl ?_
    refine J.name 21 rfl (show _ = Value.slice q1 (bs.length - at_) (c - at_) by rw [hq1]) ?_
    refine J.assign rfl rfl ?_
    refine J.nil ?_
    refine JX.thenN (hK4 _ _ ?_)
    refine JC.seq (fun K5 hK5 => ?_)
    refine JC.seq (fun K6 hK6 => ?_)
    refine JC.region ?_
    refine J.move rfl rfl ?_
    refine J.lenS rfl Ty.u26 rfl rfl ?_
    refine J.bin rfl rfl rfl rfl ?_
    refine J.nil ?_
    refine JX.thenN (hK6 _ _ ?_)
    refine JC.cond rfl (fun h1 => ?_) (fun h1 => ?_)
    · skip
      have hg : getN bs at_ = (0, 0, 3) := by unfold getN; rw [if_neg (by omega), if_pos (by simp at h1; omega)]
      refine JC.seq (fun K7 hK7 => ?_)
      refine JC.region ?_
      refine J.assign rfl rfl ?_
      refine J.assign rfl rfl ?_
      refine J.assign rfl rfl ?_
      refine J.nil ?_
      refine JX.thenN (hK7 _ _ ?_)
      refine JC.ret ?_
      refine JX.thenR ?_
      refine JX.ret3 rfl rfl rfl rfl (fun w1 hw => ?_)
      exact ⟨by rw [hg] <;> rfl, hw.below⟩
    · skip
      have hat : at_ < bs.length := by simp at h1; omega
      obtain ⟨q7, o7, c7, hv7, hc7, hcl7⟩ := hr1.some (by rw [List.length_map, List.length_drop]; omega)
      simp only [Value.slice.injEq] at hv7
      obtain ⟨rfl, -, -⟩ := hv7
      obtain ⟨x0, hx0⟩ : ∃ x, (bs.drop at_)[0]'(by rw [List.length_drop]; omega) = x := ⟨_, rfl⟩
      have hx0k : (bs.getD at_ 0).toNat = x0.toNat := by rw [← hx0, List.getElem_drop, List.getD_eq_getElem?_getD, List.getElem?_eq_getElem (by omega)]; rfl
      have hx8 := UInt8.toNat_lt x0
      obtain ⟨kk, hkk⟩ : ∃ k, x0.toNat = k := ⟨_, rfl⟩
      refine JC.skip ?_
      refine JX.thenN (hK5 _ _ ?_)
      refine JC.seq (fun K8 hK8 => ?_)
      refine JC.region ?_
      refine J.move rfl rfl ?_
      refine J.indexAddrS Ty.el26 Ty.s5 rfl rfl (by omega) (by omega) rfl ?_
      refine J.loadR (v := u8 ((bs.drop at_)[0]'(by rw [List.length_drop]; omega))) Ty.a5 rfl (hcl7.at_u8 (by rw [List.length_drop]; omega) rfl) (by simp) rfl ?_
      rw [hx0]
      refine J.convInt Ty.u5 Ty.u3 rfl rfl ?_
      refine J.name 28 rfl (congrArg (Value.int .i64) (show _ = ((kk : Nat) : Int) by rw [← hkk]; exact wrap_i64 (by omega) (by omega))) ?_
      refine J.assign rfl rfl ?_
      refine J.nil ?_
      refine JX.thenN (hK8 _ _ ?_)
      refine JC.seq (fun K9 hK9 => ?_)
      refine JC.seq (fun K10 hK10 => ?_)
      refine JC.region ?_
      refine J.move rfl rfl ?_
      refine J.bin rfl rfl rfl rfl ?_
      refine J.nil ?_
      refine JX.thenN (hK10 _ _ ?_)
      refine JC.cond rfl (fun h2 => ?_) (fun h2 => ?_)
      · skip
        have hg : getN bs at_ = (0, 0, 2) := by unfold getN; rw [if_neg (by omega), if_neg (by omega), if_pos (by rw [hx0k]; simp at h2; omega)]
        refine JC.seq (fun K11 hK11 => ?_)
        refine JC.region ?_
        refine J.assign rfl rfl ?_
        refine J.assign rfl rfl ?_
        refine J.assign rfl rfl ?_
        refine J.nil ?_
        refine JX.thenN (hK11 _ _ ?_)
        refine JC.ret ?_
        refine JX.thenR ?_
        refine JX.ret3 rfl rfl rfl rfl (fun w1 hw => ?_)
        exact ⟨by rw [hg] <;> rfl, hw.below⟩
      · skip
        have h8 : x0.toNat ≤ 8 := by simp at h2; omega
        refine JC.skip ?_
        refine JX.thenN (hK9 _ _ ?_)
        refine JC.seq (fun K12 hK12 => ?_)
        refine JC.seq (fun K13 hK13 => ?_)
        refine JC.region ?_
        refine J.move rfl rfl ?_
        refine J.lenS rfl Ty.u26 rfl rfl ?_
        refine J.move rfl rfl ?_
        refine J.bin rfl rfl rfl rfl ?_
        refine J.nil ?_
        refine JX.thenN (hK13 _ _ ?_)
        refine JC.cond rfl (fun h3 => ?_) (fun h3 => ?_)
        · skip
          have hg : getN bs at_ = (0, 0, 3) := by unfold getN; rw [if_neg (by omega), if_neg (by omega), if_neg (by omega), if_pos (by rw [hx0k]; simp at h3; omega)]
          refine JC.seq (fun K14 hK14 => ?_)
          refine JC.region ?_
          refine J.assign rfl rfl ?_
          refine J.assign rfl rfl ?_
          refine J.assign rfl rfl ?_
          refine J.nil ?_
          refine JX.thenN (hK14 _ _ ?_)
          refine JC.ret ?_
          refine JX.thenR ?_
          refine JX.ret3 rfl rfl rfl rfl (fun w1 hw => ?_)
          exact ⟨by rw [hg] <;> rfl, hw.below⟩
        · skip
          have hsh : x0.toNat ≤ bs.length - at_ - 1 := by simp at h3; omega
          have hxl : ((bs.drop (at_ + 1)).take kk).length = kk := by rw [List.length_take, List.length_drop]; omega
          refine JC.skip ?_
          refine JX.thenN (hK12 _ _ ?_)
          refine JC.seq (fun K15 hK15 => ?_)
          refine JC.region ?_
          refine J.assign rfl rfl ?_
          refine J.nil ?_
          refine JX.thenN (hK15 _ _ ?_)
          refine JC.seq (fun K16 hK16 => ?_)
          refine JC.seq (fun K17 hK17 => ?_)
          refine JC.region ?_
          refine J.assign rfl rfl ?_
          refine J.nil ?_
          refine JX.thenN (hK17 _ _ ?_)
          refine JC.block ?_
          refine JC.conseq (JC.cov (f := (fun j => [(1, .int .i64 ((at_ : Nat) : Int)), (7, .slice (some ⟨q7, o7, none⟩) (bs.length - at_) (c - at_)), (8, .int .i64 ((kk : Nat) : Int)), (9, .int .u64 ((num ((bs.drop (at_ + 1)).take j) : Nat) : Int)), (10, .int .i64 ((j + 1 : Nat) : Int))]) 0) ⟨rfl, rfl, rfl, rfl, rfl, trivial⟩ (JC.loop (α := Nat) (fun j => [(1, .int .i64 ((at_ : Nat) : Int)), (7, .slice (some ⟨q7, o7, none⟩) (bs.length - at_) (c - at_)), (8, .int .i64 ((kk : Nat) : Int)), (9, .int .u64 ((num ((bs.drop (at_ + 1)).take j) : Nat) : Int)), (10, .int .i64 ((j + 1 : Nat) : Int))]) (fun j w' => (j ≤ kk ∧ (1 ≤ j → ¬ (bs.getD (at_ + 1) 0).toNat = 0)) ∧ St w [] [] w') (fun j => kk - j) 0 (fun j => ?_))) (fun w hw => ⟨⟨Nat.zero_le _, fun h => (by omega)⟩, hw⟩)
          refine JC.pr (fun hI => ?_)
          obtain ⟨hj, hb1⟩ := hI
          refine JC.seq (fun K18 hK18 => ?_)
          refine JC.seq (fun K19 hK19 => ?_)
          refine JC.region ?_
          refine J.move rfl rfl ?_
          refine J.move rfl rfl ?_
          refine J.bin rfl rfl rfl rfl ?_
          refine J.nil ?_
          refine JX.thenN (hK19 _ _ ?_)
          refine JC.cond rfl (fun h4 => ?_) (fun h4 => ?_)
          · skip
            have hjl : j < kk := by simp at h4; omega
            refine JC.skip ?_
            refine JX.thenN (hK18 _ _ ?_)
            refine JC.seq (fun K20 hK20 => ?_)
            refine JC.block ?_
            refine JC.seq (fun K21 hK21 => ?_)
            refine JC.seq (fun K22 hK22 => ?_)
            rcases Nat.eq_zero_or_pos j with hz0 | hz0
            · skip
              refine JC.region ?_
              refine J.move rfl rfl ?_
              refine J.bin rfl rfl rfl rfl ?_
              refine J.name 41 rfl (show _ = Value.bool true by simp; omega) ?_
              refine J.move rfl rfl ?_
              first | refine J.skip rfl rfl rfl rfl rfl ?_ | refine J.skipU rfl rfl rfl rfl ?_ | (refine J.unguard rfl rfl rfl ?_; refine J.move rfl rfl ?_)
              refine J.unguard rfl rfl rfl ?_
              refine J.indexAddrS Ty.el26 Ty.s5 rfl rfl (by omega) (by omega) rfl ?_
              refine J.unguard rfl rfl rfl ?_
              refine J.loadR (v := u8 ((bs.drop at_)[1]'(by rw [List.length_drop]; omega))) Ty.a5 rfl (hcl7.at_u8 (by rw [List.length_drop]; omega) (by omega)) (by simp) rfl ?_
              obtain ⟨x1, hx1⟩ : ∃ x, (bs.drop at_)[1]'(by rw [List.length_drop]; omega) = x := ⟨_, rfl⟩
              rw [hx1]
              have hk1 : (bs.getD (at_ + 1) 0).toNat = x1.toNat := by rw [← hx1, List.getElem_drop, List.getD_eq_getElem?_getD, List.getElem?_eq_getElem (by omega)]; rfl
              refine J.unguard rfl rfl rfl ?_
              refine J.bin rfl rfl rfl rfl ?_
              refine J.name 46 rfl (show _ = Value.bool (decide (x1.toNat = 0)) from congrArg Value.bool (by rw [Bool.eq_iff_iff]; simp <;> omega)) ?_
              (first | refine J.pickT rfl rfl rfl ?_ | refine J.pickF rfl rfl rfl ?_)
              refine J.nil ?_
              refine JX.thenN (hK22 _ _ ?_)
              refine JC.cond rfl (fun h5 => ?_) (fun h5 => ?_)
              · skip
                have hg : getN bs at_ = (0, 0, 2) := getN_bad hat h8 hsh (by omega) (hk1.trans (by simpa using h5)) hx0k
                refine JC.seq (fun K23 hK23 => ?_)
                refine JC.region ?_
                refine J.assign rfl rfl ?_
                refine J.assign rfl rfl ?_
                refine J.assign rfl rfl ?_
                refine J.nil ?_
                refine JX.thenN (hK23 _ _ ?_)
                refine JC.ret ?_
                refine JX.thenR ?_
                refine JX.blockR ?_
                refine JX.thenR ?_
                refine JX.thenR ?_
                refine JX.blockR ?_
                refine JX.thenR ?_
                refine JX.ret3 rfl rfl rfl rfl (fun w1 hw => ?_)
                exact ⟨by rw [hg] <;> rfl, hw.below⟩
              · skip
                have hb2 : ¬ (bs.getD (at_ + 1) 0).toNat = 0 := fun e => by have e2 := hk1.symm.trans e; simp [e2] at h5
                refine JC.skip ?_
                refine JX.thenN (hK21 _ _ ?_)
                refine JC.region ?_
                refine J.move rfl rfl ?_
                refine J.bin rfl rfl rfl rfl ?_
                refine J.move rfl rfl ?_
                refine J.move rfl rfl ?_
                refine J.indexAddrS Ty.el26 Ty.s5 rfl rfl (by omega) (by omega) rfl ?_
                refine J.loadR (v := u8 ((bs.drop at_)[j + 1]'(by rw [List.length_drop]; omega))) Ty.a5 rfl (hcl7.at_u8 (by rw [List.length_drop]; omega) (by omega)) (by simp) rfl ?_
                rw [show (bs.drop at_)[j + 1]'(by rw [List.length_drop]; omega) = ((bs.drop (at_ + 1)).take kk)[j]'(by omega) by rw [List.getElem_take, List.getElem_drop, List.getElem_drop]; congr 1; omega]
                refine J.convInt Ty.u5 Ty.u81 rfl rfl ?_
                refine J.bin rfl rfl rfl rfl ?_
                refine J.name 55 rfl (show _ = Value.int .u64 ((num ((bs.drop (at_ + 1)).take (j + 1)) : Nat) : Int) by
                  have e1 : (bs.drop (at_ + 1)).take j = ((bs.drop (at_ + 1)).take kk).take j := by rw [List.take_take, Nat.min_eq_left (by omega)]
                  have e2 : (bs.drop (at_ + 1)).take (j + 1) = ((bs.drop (at_ + 1)).take kk).take (j + 1) := by rw [List.take_take, Nat.min_eq_left (by omega)]
                  rw [e1, e2, num_succ (by omega)]
                  exact muladdS_u64 _ _ (UInt8.toNat_lt _) (num_step (by omega) (by omega))) ?_
                refine J.assign rfl rfl ?_
                refine J.nil ?_
                refine JX.blockN ?_
                refine JX.thenN (hK20 _ _ ?_)
                refine JC.region ?_
                refine J.move rfl rfl ?_
                refine J.addN rfl rfl (by omega) (by omega) rfl ?_
                refine J.name 39 rfl (show _ = Value.int .i64 ((j + 1 + 1 : Nat) : Int) from congrArg (Value.int .i64) (by omega)) ?_
                refine J.assign rfl rfl ?_
                refine J.nil ?_
                refine JX.thenN ?_
                refine JX.again (j + 1) ?_ ?_ ?_
                · omega
                · exact ⟨rfl, rfl, rfl, rfl, rfl, trivial⟩
                · exact fun w1 hw => ⟨⟨hjl, fun _ => hb2⟩, hw⟩
            · skip
              have hb2 := hb1 hz0
              refine JC.region ?_
              refine J.move rfl rfl ?_
              refine J.bin rfl rfl rfl rfl ?_
              refine J.name 41 rfl (show _ = Value.bool false by simp; omega) ?_
              refine J.move rfl rfl ?_
              first | refine J.skip rfl rfl rfl rfl rfl ?_ | refine J.skipU rfl rfl rfl rfl ?_ | (refine J.unguard rfl rfl rfl ?_; refine J.move rfl rfl ?_)
              first | refine J.skip rfl rfl rfl rfl rfl ?_ | refine J.skipU rfl rfl rfl rfl ?_ | (refine J.unguard rfl rfl rfl ?_; refine J.indexAddrS Ty.el26 Ty.s5 rfl rfl (by omega) (by omega) rfl ?_)
              first | refine J.skip rfl rfl rfl rfl rfl ?_ | refine J.skipU rfl rfl rfl rfl ?_ | (refine J.unguard rfl rfl rfl ?_; refine J.loadO Ty.a5 rfl zm (by exact rfl) rfl ?_)
              first | refine J.skip rfl rfl rfl rfl rfl ?_ | refine J.skipU rfl rfl rfl rfl ?_ | (refine J.unguard rfl rfl rfl ?_; refine J.bin rfl rfl rfl rfl ?_)
              (first | refine J.pickT rfl rfl rfl ?_ | refine J.pickF rfl rfl rfl ?_)
              refine J.nil ?_
              refine JX.thenN (hK22 _ _ ?_)
              first | refine JC.condF rfl ?_ | refine JC.cond rfl (fun h => by first | (exfalso; simp at h; omega) | (simp at h)) (fun _ => ?_)
              refine JC.skip ?_
              refine JX.thenN (hK21 _ _ ?_)
              refine JC.region ?_
              refine J.move rfl rfl ?_
              refine J.bin rfl rfl rfl rfl ?_
              refine J.move rfl rfl ?_
              refine J.move rfl rfl ?_
              refine J.indexAddrS Ty.el26 Ty.s5 rfl rfl (by omega) (by omega) rfl ?_
              refine J.loadR (v := u8 ((bs.drop at_)[j + 1]'(by rw [List.length_drop]; omega))) Ty.a5 rfl (hcl7.at_u8 (by rw [List.length_drop]; omega) (by omega)) (by simp) rfl ?_
              rw [show (bs.drop at_)[j + 1]'(by rw [List.length_drop]; omega) = ((bs.drop (at_ + 1)).take kk)[j]'(by omega) by rw [List.getElem_take, List.getElem_drop, List.getElem_drop]; congr 1; omega]
              refine J.convInt Ty.u5 Ty.u81 rfl rfl ?_
              refine J.bin rfl rfl rfl rfl ?_
              refine J.name 55 rfl (show _ = Value.int .u64 ((num ((bs.drop (at_ + 1)).take (j + 1)) : Nat) : Int) by
                have e1 : (bs.drop (at_ + 1)).take j = ((bs.drop (at_ + 1)).take kk).take j := by rw [List.take_take, Nat.min_eq_left (by omega)]
                have e2 : (bs.drop (at_ + 1)).take (j + 1) = ((bs.drop (at_ + 1)).take kk).take (j + 1) := by rw [List.take_take, Nat.min_eq_left (by omega)]
                rw [e1, e2, num_succ (by omega)]
                exact muladdS_u64 _ _ (UInt8.toNat_lt _) (num_step (by omega) (by omega))) ?_
              refine J.assign rfl rfl ?_
              refine J.nil ?_
              refine JX.blockN ?_
              refine JX.thenN (hK20 _ _ ?_)
              refine JC.region ?_
              refine J.move rfl rfl ?_
              refine J.addN rfl rfl (by omega) (by omega) rfl ?_
              refine J.name 39 rfl (show _ = Value.int .i64 ((j + 1 + 1 : Nat) : Int) from congrArg (Value.int .i64) (by omega)) ?_
              refine J.assign rfl rfl ?_
              refine J.nil ?_
              refine JX.thenN ?_
              refine JX.again (j + 1) ?_ ?_ ?_
              · omega
              · exact ⟨rfl, rfl, rfl, rfl, rfl, trivial⟩
              · exact fun w1 hw => ⟨⟨hjl, fun _ => hb2⟩, hw⟩
          · skip
            have hje : j = kk := by simp at h4; omega
            have hg : getN bs at_ = (num ((bs.drop (at_ + 1)).take kk), at_ + 1 + kk, 0) := by
              have h9 := getN_ok hat h8 hsh (by rcases Nat.eq_zero_or_pos j with h | h
                                                · left; omega
                                                · exact .inr (hb1 h)) hx0k
              rw [hx0k, hkk] at h9
              exact h9
            subst hje
            refine JC.exit ?_
            refine JX.thenE ?_
            refine JX.thenE ?_
            refine JX.blockE ?_
            refine JX.thenN (hK16 _ _ ?_)
            refine JC.seq (fun K24 hK24 => ?_)
            refine JC.region ?_
            refine J.move rfl rfl ?_
            refine J.move rfl rfl ?_
            refine J.move rfl rfl ?_
            refine J.addN rfl rfl (by omega) (by omega) rfl ?_
            refine J.addN rfl rfl (by omega) (by omega) rfl ?_
            refine J.name 60 rfl (show _ = Value.int .i64 ((at_ + 1 + j : Nat) : Int) from congrArg (Value.int .i64) (by omega)) ?_
            refine J.assign rfl rfl ?_
            refine J.assign rfl rfl ?_
            refine J.assign rfl rfl ?_
            refine J.nil ?_
            refine JX.thenN (hK24 _ _ ?_)
            refine JC.ret ?_
            refine JX.ret3 rfl rfl rfl rfl (fun w1 hw => ?_)
            exact ⟨by rw [hg] <;> rfl, hw.below⟩

theorem rgetID_spec (v : Value) (bs : List UInt8) (at_ : Nat) (w : World) (hr : Row w v bs.length (bs.map u8)) (hl : bs.length ≤ 100000) (hal : at_ ≤ 1000000) :
  Calls Try.prog 81 [v, .int .i64 ((at_ : Nat) : Int)].toArray w fun r w' => r = .returned (.tuple #[.agg (cI (getI bs at_).1).toArray, .int .i64 (((getI bs at_).2.1 : Nat) : Int), .int .i64 (getI bs at_).2.2]) ∧ Bel w w' := by
 obtain ⟨a, c, rfl, hc, hra⟩ := id hr
 refine calls_of_J (args := [.slice a bs.length c, .int .i64 ((at_ : Nat) : Int)]) (e := [(0, .slice a bs.length c), (1, .int .i64 ((at_ : Nat) : Int))]) Try.func81 rfl rfl ⟨rfl, rfl, trivial⟩ (St.start w) ?_; refine JC.seq (fun K0 hK0 => ?_); refine JC.region ?_; refine J.alloc Ty.zID rfl rfl (fun b4 => ?_); refine J.assign rfl rfl ?_; refine J.assign rfl rfl ?_; refine J.nil ?_; refine JX.thenN (hK0 _ _ ?_); refine JC.seq (fun K1 hK1 => ?_); refine JC.region ?_; refine J.alloc Ty.zID rfl rfl (fun b7 => ?_); refine J.nil ?_; refine JX.thenN (hK1 _ _ ?_); refine JC.seq (fun K2 hK2 => ?_); refine JC.seq (fun K3 hK3 => ?_); refine JC.region ?_; refine J.move rfl rfl ?_; refine J.bin rfl rfl rfl rfl ?_; refine J.name 10 rfl (show _ = Value.bool false by simp) ?_; refine J.move rfl rfl ?_
 first | refine J.skip rfl rfl rfl rfl rfl ?_ | refine J.skipU rfl rfl rfl rfl ?_ | (refine J.unguard rfl rfl rfl ?_; refine J.move rfl rfl ?_)
 first | refine J.skip rfl rfl rfl rfl rfl ?_ | refine J.skipU rfl rfl rfl rfl ?_ | (refine J.unguard rfl rfl rfl ?_; refine J.move rfl rfl ?_)
 first | refine J.skip rfl rfl rfl rfl rfl ?_ | refine J.skipU rfl rfl rfl rfl ?_ | (refine J.unguard rfl rfl rfl ?_; refine J.lenS rfl Ty.u26 rfl rfl ?_)
 first | refine J.skip rfl rfl rfl rfl rfl ?_ | refine J.skipU rfl rfl rfl rfl ?_ | (refine J.unguard rfl rfl rfl ?_; refine J.bin rfl rfl rfl rfl ?_)
 (first | refine J.pickT rfl rfl rfl ?_ | refine J.pickF rfl rfl rfl ?_)
 refine J.nil ?_; refine JX.thenN (hK3 _ _ ?_); refine JC.cond rfl (fun h0 => ?_) (fun h0 => ?_)
 ·have hg : getI bs at_ = (zI, 0, 1) := by unfold getI; rw [if_pos (by simp at h0; omega)]
  refine JC.seq (fun K4 hK4 => ?_); refine JC.region ?_; refine J.loadA (vs := cI zI) Ty.a23 Ty.s23 rfl rfl (fun w1 hw => Cells.of_block (hw.own (b7, cb (cI zI) 23) zm) rfl) rfl ?_; refine J.storeW (cs := cI zI) (vs := cI zI) Ty.s23 rfl rfl rfl rfl rfl (one_cI _) (.there .here) ?_; refine J.assign rfl rfl ?_; refine J.assign rfl rfl ?_; refine J.nil ?_; refine JX.thenN (hK4 _ _ ?_); refine JC.ret ?_; refine JX.thenR ?_; refine JX.retCTT (vs := cI zI) rfl rfl rfl rfl Ty.a23 Ty.s23 rfl (fun w1 hw => Cells.of_block (hw.own (b4, cb (cI zI) 23) zm) rfl) (fun w1 hw => ?_)
  exact ⟨by rw [hg] <;> rfl, (hw.drop (List.nil_sublist _)).below⟩
 ·have hal2 : at_ ≤ bs.length := by simp at h0; omega
  refine JC.skip ?_; refine JX.thenN (hK2 _ _ ?_); refine JC.seq (fun K5 hK5 => ?_); refine JC.seq (fun K6 hK6 => ?_); refine JC.region ?_; refine J.move rfl rfl ?_; refine J.lenS rfl Ty.u26 rfl rfl ?_; refine J.move rfl rfl ?_; refine J.subN rfl rfl (by omega) (by omega) rfl ?_; refine J.bin rfl rfl rfl rfl ?_; refine J.nil ?_; refine JX.thenN (hK6 _ _ ?_); refine JC.cond rfl (fun h1 => ?_) (fun h1 => ?_)
  ·have hg : getI bs at_ = (zI, 0, 3) := by unfold getI; rw [if_neg (by omega), if_pos (by simp at h1; omega)]
   refine JC.seq (fun K7 hK7 => ?_); refine JC.region ?_; refine J.loadA (vs := cI zI) Ty.a23 Ty.s23 rfl rfl (fun w1 hw => Cells.of_block (hw.own (b7, cb (cI zI) 23) zm) rfl) rfl ?_; refine J.storeW (cs := cI zI) (vs := cI zI) Ty.s23 rfl rfl rfl rfl rfl (one_cI _) (.there .here) ?_; refine J.assign rfl rfl ?_; refine J.assign rfl rfl ?_; refine J.nil ?_; refine JX.thenN (hK7 _ _ ?_); refine JC.ret ?_; refine JX.thenR ?_; refine JX.retCTT (vs := cI zI) rfl rfl rfl rfl Ty.a23 Ty.s23 rfl (fun w1 hw => Cells.of_block (hw.own (b4, cb (cI zI) 23) zm) rfl) (fun w1 hw => ?_)
   exact ⟨by rw [hg] <;> rfl, (hw.drop (List.nil_sublist _)).below⟩
  ·have h16 : 16 ≤ bs.length - at_ := by simp at h1; omega
   have hg : getI bs at_ = ((idB ((bs.drop at_).take 16)), at_ + 16, 0) := by unfold getI; rw [if_neg (by omega), if_neg (by omega)]
   have hx16 : ((bs.drop at_).take 16).length = 16 := by rw [List.length_take, List.length_drop]; omega
   obtain ⟨b, o, rfl, hcl⟩ : ∃ b o, a = some ⟨b, o, none⟩ ∧ Cells w b o (bs.map u8) := by
    rcases hra with h | h
    ·have h2 := congrArg List.length h; rw [List.length_map, List.length_nil] at h2; omega
    ·exact h
   refine JC.skip ?_; refine JX.thenN (hK5 _ _ ?_); refine JC.seq (fun K8 hK8 => ?_); refine JC.seq (fun K9 hK9 => ?_); refine JC.region ?_; refine J.assign rfl rfl ?_; refine J.nil ?_; refine JX.thenN (hK9 _ _ ?_); refine JC.block ?_
   refine JC.conseq (JC.cov (f := (fun i => [(0, .slice (some ⟨b, o, none⟩) bs.length c), (1, .int .i64 ((at_ : Nat) : Int)), (4, .pointer (some ⟨b4, 0, none⟩)), (7, .pointer (some ⟨b7, 0, none⟩)), (8, .int .i64 ((i : Nat) : Int))]) 0) ⟨rfl, rfl, rfl, rfl, rfl, trivial⟩ (JC.loop (α := Nat) (fun i => [(0, .slice (some ⟨b, o, none⟩) bs.length c), (1, .int .i64 ((at_ : Nat) : Int)), (4, .pointer (some ⟨b4, 0, none⟩)), (7, .pointer (some ⟨b7, 0, none⟩)), (8, .int .i64 ((i : Nat) : Int))]) (fun i w' => (i ≤ 16) ∧ St w [] ((b7, cb ((partI bs at_ i).map u8) 23) :: (b4, cb (cI zI) 23) :: []) w') (fun i => 16 - i) 0 (fun i => ?_))) (fun w hw => ⟨Nat.zero_le _, hw⟩)
   refine JC.pr (fun hi => ?_); refine JC.seq (fun K10 hK10 => ?_); refine JC.seq (fun K11 hK11 => ?_); refine JC.region ?_; refine J.move rfl rfl ?_; refine J.bin rfl rfl rfl rfl ?_; refine J.nil ?_; refine JX.thenN (hK11 _ _ ?_); refine JC.cond rfl (fun h2 => ?_) (fun h2 => ?_)
   ·have hil : i < 16 := by simp at h2; omega
    refine JC.skip ?_; refine JX.thenN (hK10 _ _ ?_); refine JC.seq (fun K12 hK12 => ?_); refine JC.block ?_; refine JC.region ?_; refine J.move rfl rfl ?_; refine J.move rfl rfl ?_; refine J.move rfl rfl ?_; refine J.move rfl rfl ?_; refine J.addN rfl rfl (by omega) (by omega) rfl ?_; refine J.name 32 rfl (show _ = Value.int .i64 ((at_ + i : Nat) : Int) from congrArg (Value.int .i64) (by omega)) ?_; refine J.indexAddrS Ty.el26 Ty.s5 rfl rfl (by omega) (by omega) rfl ?_; refine J.loadR (v := u8 (bs[at_ + i]'(by omega))) Ty.a5 rfl (hcl.at_u8 (by omega) (by omega)) (by simp) rfl ?_; refine J.indexAddrA Ty.ar23 Ty.s5 rfl rfl (by omega) (by omega) rfl ?_; refine J.storeO (cs := (partI bs at_ i).map u8) (vs := [u8 (bs[at_ + i]'(by omega))]) (l' := (b7, cb ((partI bs at_ (i + 1)).map u8) 23) :: (b4, cb (cI zI) 23) :: []) Ty.s5 rfl rfl rfl rfl (fun v hv => by rw [List.mem_singleton.1 hv]; rfl) (by rw [Int.toNat_natCast, Nat.mul_one, set_mapB, partI_set (by omega) hil]; exact .here) (by rw [Int.toNat_natCast, List.length_map, partI_len bs (by omega) (by omega)]; omega) ?_; refine J.nil ?_; refine JX.blockN ?_; refine JX.thenN (hK12 _ _ ?_); refine JC.region ?_; refine J.move rfl rfl ?_
    (first | refine J.addN rfl rfl (by omega) (by omega) rfl ?_ | refine J.bin rfl rfl rfl rfl ?_)
    refine J.assign rfl rfl ?_; refine J.nil ?_; refine JX.thenN ?_; refine JX.again (i + 1) ?_ ?_ ?_
    ·omega
    ·exact ⟨rfl, rfl, rfl, rfl, rfl, trivial⟩
    ·exact fun w1 hw => ⟨hil, hw⟩
   ·have hie : i = 16 := by simp at h2; omega
    subst hie
    refine JC.exit ?_; refine JX.thenE ?_; refine JX.thenE ?_; refine JX.blockE ?_; refine JX.thenN (hK8 _ _ ?_); refine JC.seq (fun K13 hK13 => ?_); refine JC.region ?_
    refine J.conseq (I' := St w [] ((b7, cb (cI (idB ((bs.drop at_).take 16))) 23) :: (b4, cb (cI zI) 23) :: [])) ?_ (fun w1 hw => by rw [partI_all, ← cI_idB hx16] at hw; exact hw)
    refine J.loadA (vs := cI (idB ((bs.drop at_).take 16))) Ty.a23 Ty.s23 rfl rfl (fun w1 hw => Cells.of_block (hw.own (b7, cb (cI (idB ((bs.drop at_).take 16))) 23) zm) rfl) rfl ?_; refine J.move rfl rfl ?_; refine J.addN rfl rfl (by omega) (by omega) rfl ?_; refine J.name 38 rfl (show _ = Value.int .i64 ((at_ + 16 : Nat) : Int) from congrArg (Value.int .i64) (by omega)) ?_; refine J.storeW (cs := cI zI) (vs := cI (idB ((bs.drop at_).take 16))) Ty.s23 rfl rfl rfl rfl rfl (one_cI _) (.there .here) ?_; refine J.assign rfl rfl ?_; refine J.assign rfl rfl ?_; refine J.nil ?_; refine JX.thenN (hK13 _ _ ?_); refine JC.ret ?_; refine JX.retCTT (vs := cI (idB ((bs.drop at_).take 16))) rfl rfl rfl rfl Ty.a23 Ty.s23 rfl (fun w1 hw => Cells.of_block (hw.own (b4, cb (cI (idB ((bs.drop at_).take 16))) 23) zm) rfl) (fun w1 hw => ?_)
    exact ⟨by rw [hg] <;> rfl, (hw.drop (List.nil_sublist _)).below⟩

theorem rgetText_spec (v : Value) (bs : List UInt8) (at_ most : Nat) (w : World) (hr : Row w v bs.length (bs.map u8)) (hl : bs.length ≤ 100000) (hal : at_ ≤ 1000000) (hmo : most ≤ 100000) :
  Calls Try.prog 82 [v, .int .i64 ((at_ : Nat) : Int), .int .i64 ((most : Nat) : Int)].toArray w fun r w' => ∃ x : Value × List (Nat × Obj), r = .returned (.tuple #[x.1, .int .i64 (((getT bs at_ most).2.1 : Nat) : Int), .int .i64 (getT bs at_ most).2.2]) ∧ Vec 5 1 x.1 ((getT bs at_ most).1).length (((getT bs at_ most).1).map u8) x.2 ∧ St w [] x.2 w' := by
 obtain ⟨a, c, rfl, hc, hra⟩ := id hr
 obtain ⟨⟨n0, p0, e0⟩, hG⟩ : ∃ x, getN bs at_ = x := ⟨_, rfl⟩
 have hn0 := getN_u64 bs at_
 have hp0 := getN_end bs at_
 rw [hG] at hn0 hp0
 simp only at hn0 hp0
 refine calls_of_J (args := [.slice a bs.length c, .int .i64 ((at_ : Nat) : Int), .int .i64 ((most : Nat) : Int)]) (e := [(0, .slice a bs.length c), (1, .int .i64 ((at_ : Nat) : Int)), (2, .int .i64 ((most : Nat) : Int))]) Try.func82 rfl rfl ⟨rfl, rfl, rfl, trivial⟩ (St.start w) ?_; refine JC.seq (fun K0 hK0 => ?_); refine JC.region ?_; refine J.assign rfl rfl ?_; refine J.assign rfl rfl ?_; refine J.assign rfl rfl ?_; refine J.nil ?_; refine JX.thenN (hK0 _ _ ?_); refine JC.seq (fun K1 hK1 => ?_); refine JC.region ?_; refine J.move rfl rfl ?_; refine J.move rfl rfl ?_; refine J.callB (v := .tuple #[.int .u64 ((n0 : Nat) : Int), .int .i64 ((p0 : Nat) : Int), .int .i64 e0]) (fun w1 w2 hw hb => hw.step hb) Ty.bd80 rfl rfl (fun w1 hw => by have h9 := rgetNum_spec _ bs at_ w1 (hr.below (hw.drop (List.nil_sublist _)).below) hl hal; rw [hG] at h9; exact h9) ?_; refine J.move rfl rfl ?_; refine J.extract rfl rfl rfl ?_; refine J.extract rfl rfl rfl ?_; refine J.extract rfl rfl rfl ?_; refine J.assign rfl rfl ?_; refine J.assign rfl rfl ?_; refine J.assign rfl rfl ?_; refine J.nil ?_; refine JX.thenN (hK1 _ _ ?_); refine JC.seq (fun K2 hK2 => ?_); refine JC.seq (fun K3 hK3 => ?_); refine JC.region ?_; refine J.move rfl rfl ?_; refine J.bin rfl rfl rfl rfl ?_; refine J.nil ?_; refine JX.thenN (hK3 _ _ ?_); refine JC.cond rfl (fun h0 => ?_) (fun h0 => ?_)
 ·have hne : e0 ≠ 0 := by simpa using h0
  have hg : getT bs at_ most = ([], 0, e0) := by unfold getT; rw [hG]; exact if_pos hne
  refine JC.seq (fun K4 hK4 => ?_); refine JC.region ?_; refine J.move rfl rfl ?_; refine J.assign rfl rfl ?_; refine J.assign rfl rfl ?_; refine J.assign rfl rfl ?_; refine J.nil ?_; refine JX.thenN (hK4 _ _ ?_); refine JC.ret ?_; refine JX.thenR ?_; refine JX.ret3 rfl rfl rfl rfl (fun w1 hw => ?_)
  rw [hg]
  first
  | exact ⟨(_, []), rfl, Vec.nil _ _, hw⟩
  | exact ⟨(v47, l47), rfl, by rw [hxl]; exact hv47, by simpa using hw⟩
 ·have hz : e0 = 0 := by simpa using h0
  subst hz
  refine JC.skip ?_; refine JX.thenN (hK2 _ _ ?_); refine JC.seq (fun K5 hK5 => ?_); refine JC.seq (fun K6 hK6 => ?_); refine JC.region ?_; refine J.move rfl rfl ?_; refine J.bin rfl rfl rfl rfl ?_; refine J.name 23 rfl (show _ = Value.bool false by simp) ?_; refine J.move rfl rfl ?_
  first | refine J.skip rfl rfl rfl rfl rfl ?_ | refine J.skipU rfl rfl rfl rfl ?_ | (refine J.unguard rfl rfl rfl ?_; refine J.move rfl rfl ?_)
  first | refine J.skip rfl rfl rfl rfl rfl ?_ | refine J.skipU rfl rfl rfl rfl ?_ | (refine J.unguard rfl rfl rfl ?_; refine J.move rfl rfl ?_)
  refine J.unguard rfl rfl rfl ?_; refine J.convInt Ty.u3 Ty.u81 rfl rfl ?_; refine J.name 27 rfl (show _ = Value.int .u64 ((most : Nat) : Int) from congrArg (Value.int .u64) (wrap_u64 (by omega) (by omega))) ?_
  first | refine J.skip rfl rfl rfl rfl rfl ?_ | refine J.skipU rfl rfl rfl rfl ?_ | (refine J.unguard rfl rfl rfl ?_; refine J.bin rfl rfl rfl rfl ?_)
  (first | refine J.pickT rfl rfl rfl ?_ | refine J.pickF rfl rfl rfl ?_)
  refine J.nil ?_; refine JX.thenN (hK6 _ _ ?_); refine JC.cond rfl (fun h1 => ?_) (fun h1 => ?_)
  ·have hg : getT bs at_ most = ([], 0, 4) := by unfold getT; rw [hG]; simp only; rw [if_neg (by simp), if_pos (by simp at h1; omega)]
   refine JC.seq (fun K7 hK7 => ?_); refine JC.region ?_; refine J.assign rfl rfl ?_; refine J.assign rfl rfl ?_; refine J.assign rfl rfl ?_; refine J.nil ?_; refine JX.thenN (hK7 _ _ ?_); refine JC.ret ?_; refine JX.thenR ?_; refine JX.ret3 rfl rfl rfl rfl (fun w1 hw => ?_)
   rw [hg]
   first
   | exact ⟨(_, []), rfl, Vec.nil _ _, hw⟩
   | exact ⟨(v47, l47), rfl, by rw [hxl]; exact hv47, by simpa using hw⟩
  ·have hn1 : n0 ≤ most := by simp at h1; omega
   refine JC.skip ?_; refine JX.thenN (hK5 _ _ ?_); refine JC.seq (fun K8 hK8 => ?_); refine JC.seq (fun K9 hK9 => ?_); refine JC.region ?_; refine J.move rfl rfl ?_; refine J.lenS rfl Ty.u26 rfl rfl ?_; refine J.move rfl rfl ?_; refine J.subN rfl rfl (by omega) (by omega) rfl ?_; refine J.convInt Ty.u3 Ty.u81 rfl rfl ?_; refine J.name 34 rfl (show _ = Value.int .u64 ((bs.length - p0 : Nat) : Int) from congrArg (Value.int .u64) ((wrap_u64 (by omega) (by omega)).trans (by omega))) ?_; refine J.move rfl rfl ?_; refine J.bin rfl rfl rfl rfl ?_; refine J.nil ?_; refine JX.thenN (hK9 _ _ ?_); refine JC.cond rfl (fun h2 => ?_) (fun h2 => ?_)
   ·have hg : getT bs at_ most = ([], 0, 3) := by unfold getT; rw [hG]; simp only; rw [if_neg (by simp), if_neg (by omega), if_pos (by simp at h2; omega)]
    refine JC.seq (fun K10 hK10 => ?_); refine JC.region ?_; refine J.assign rfl rfl ?_; refine J.assign rfl rfl ?_; refine J.assign rfl rfl ?_; refine J.nil ?_; refine JX.thenN (hK10 _ _ ?_); refine JC.ret ?_; refine JX.thenR ?_; refine JX.ret3 rfl rfl rfl rfl (fun w1 hw => ?_)
    rw [hg]
    first
    | exact ⟨(_, []), rfl, Vec.nil _ _, hw⟩
    | exact ⟨(v47, l47), rfl, by rw [hxl]; exact hv47, by simpa using hw⟩
   ·have hn2 : n0 ≤ bs.length - p0 := by simp at h2; omega
    have hg : getT bs at_ most = ((bs.drop p0).take n0, p0 + n0, 0) := by unfold getT; rw [hG]; simp only; rw [if_neg (by simp), if_neg (by omega), if_neg (by omega)]
    have hr1 := row_subB hr rfl (i := p0) (j := p0 + n0) (by omega) (by omega)
    obtain ⟨q1, hq1⟩ : ∃ q, (if c = p0 then a else a.map (·.add (p0 * 1))) = q := ⟨_, rfl⟩
    rw [hq1, Nat.add_sub_cancel_left] at hr1
    have hxl : ((bs.drop p0).take n0).length = n0 := by rw [List.length_take, List.length_drop]; omega
    refine JC.skip ?_; refine JX.thenN (hK8 _ _ ?_); refine JC.seq (fun K11 hK11 => ?_); refine JC.region ?_; refine J.buildSl (cs := []) Ty.el26 Ty.s5 Ty.z5 rfl rfl rfl rfl rfl rfl rfl (fun b37 => ?_); refine J.move rfl rfl ?_; refine J.move rfl rfl ?_; refine J.move rfl rfl ?_; refine J.move rfl rfl ?_; refine J.convInt Ty.u81 Ty.u3 rfl rfl ?_; refine J.name 42 rfl (show _ = Value.int .i64 ((n0 : Nat) : Int) from congrArg (Value.int .i64) (wrap_i64 (by omega) (by omega))) ?_; refine J.addN rfl rfl (by omega) (by omega) rfl ?_; refine J.name 43 rfl (show _ = Value.int .i64 ((p0 + n0 : Nat) : Int) from congrArg (Value.int .i64) (by omega)) ?_; refine J.sliceS (i := p0) (j := p0 + n0) Ty.el26 Ty.s5 rfl rfl rfl (by simp [bnd]) (by simp [bnd]; omega) (by omega) (by omega) (by omega) rfl ?_; refine J.name 44 rfl (show _ = Value.slice q1 n0 (c - p0) by rw [hq1, Nat.add_sub_cancel_left]) ?_; refine J.append (lp := [(b37, cb [] 5)]) (xs := []) (ys := ((bs.drop p0).take n0).map u8) (k := 0) (m := n0) Ty.el26 Ty.s5 Ty.b5 Ty.z5 rfl (.inl ⟨5, Ty.u26⟩) rfl rfl ⟨rfl, .inr ⟨b37, 0, [], rfl, rfl, rfl, Nat.le_refl _⟩⟩ (fun w1 hw => .inl (hr1.below (hw.drop (List.nil_sublist _)).below)) (by rw [List.length_map, hxl, Nat.mul_one]) (one_u8 _) (by omega) (by omega) rfl (fun v47 l47 hv47 => ?_)
    rw [Nat.zero_add, List.nil_append] at hv47
    refine J.move rfl rfl ?_; refine J.move rfl rfl ?_; refine J.convInt Ty.u81 Ty.u3 rfl rfl ?_; refine J.name 48 rfl (show _ = Value.int .i64 ((n0 : Nat) : Int) from congrArg (Value.int .i64) (wrap_i64 (by omega) (by omega))) ?_; refine J.addN rfl rfl (by omega) (by omega) rfl ?_; refine J.name 49 rfl (show _ = Value.int .i64 ((p0 + n0 : Nat) : Int) from congrArg (Value.int .i64) (by omega)) ?_; refine J.assign rfl rfl ?_; refine J.assign rfl rfl ?_; refine J.assign rfl rfl ?_; refine J.nil ?_; refine JX.thenN (hK11 _ _ ?_); refine JC.ret ?_; refine JX.ret3 rfl rfl rfl rfl (fun w1 hw => ?_)
    rw [hg]
    first
    | exact ⟨(_, []), rfl, Vec.nil _ _, hw⟩
    | exact ⟨(v47, l47), rfl, by rw [hxl]; exact hv47, by simpa using hw⟩

end Go.Proofs.Ytoaenmlhehcjfaa
/-
 DERIVED: THE SHELF's CONTRACTS AT THIS DUMP, IN PLAIN WORDS (tools/lay-plain.mjs out of 'YtoaenmlhehcjfaaUstmp.lean', which tools/lay-shelf.mjs wrote): THE SAME DECLARATIONS UNDER THE SAME NAMES: 'import', 'namespace', 'open', 'def', 'theorem' AND NOTHING ELSE: no command of the shelf's: FOR A HAND-IN. Each laying: the table of numbers ('.._ren') and one theorem, a field a fact of the dump's own or the kernel's comparison; each contract: ONE APPLICATION.
-/

namespace Go.Proofs
open Go.Shelf
def Try.sortI_ren : Go.Shelf.Ren := ⟨fun | 6 => 71 | 15 => 79 | 14 => 78 | 28 => 91 | 29 => 92 | 20 => 83 | 21 => 84 | 22 => 85 | 23 => 86 | 24 => 87 | 25 => 88 | 26 => 89 | 27 => 90 | 46 => 93 | 47 => 94 | 48 => 95 | 49 => 96 | 50 => 97 | 57 => 98 | n => n, fun | 22 => 101 | 24 => 23 | 25 => 90 | 3 => 3 | 39 => 37 | 0 => 0 | 53 => 151 | 55 => 81 | 4 => 4 | 46 => 144 | 45 => 143 | 50 => 148 | 5 => 5 | 9 => 9 | 66 => 153 | 70 => 157 | 76 => 159 | 77 => 160 | n => n, fun | n => n⟩
theorem Try.sortI : Go.Proofs.SlLaysF0.n6 Try.prog Try.sortI_ren := {
 mixed := by kernel_rfl
 f6 := ⟨Try.f71.name, by decide, Try.func71.trans (congrArg some (by kernel_rfl))⟩
 f14 := ⟨Try.f78.name, by decide, Try.func78.trans (congrArg some (by kernel_rfl))⟩
 f15 := Try.func79.trans (congrArg some (by kernel_rfl))
 f20 := ⟨Try.f83.name, by decide, Try.func83.trans (congrArg some (by kernel_rfl))⟩
 f21 := ⟨Try.f84.name, by decide, Try.func84.trans (congrArg some (by kernel_rfl))⟩
 f22 := ⟨Try.f85.name, by decide, Try.func85.trans (congrArg some (by kernel_rfl))⟩
 f23 := ⟨Try.f86.name, by decide, Try.func86.trans (congrArg some (by kernel_rfl))⟩
 f24 := ⟨Try.f87.name, by decide, Try.func87.trans (congrArg some (by kernel_rfl))⟩
 f25 := ⟨Try.f88.name, by decide, Try.func88.trans (congrArg some (by kernel_rfl))⟩
 f26 := ⟨Try.f89.name, by decide, Try.func89.trans (congrArg some (by kernel_rfl))⟩
 f27 := ⟨Try.f90.name, by decide, Try.func90.trans (congrArg some (by kernel_rfl))⟩
 f28 := Try.func91.trans (congrArg some (by kernel_rfl))
 f29 := Try.func92.trans (congrArg some (by kernel_rfl))
 f46 := ⟨Try.f93.name, by decide, Try.func93.trans (congrArg some (by kernel_rfl))⟩
 f47 := Try.func94.trans (congrArg some (by kernel_rfl))
 f48 := Try.func95.trans (congrArg some (by kernel_rfl))
 f49 := ⟨Try.f96.name, by decide, Try.func96.trans (congrArg some (by kernel_rfl))⟩
 f50 := ⟨Try.f97.name, by decide, Try.func97.trans (congrArg some (by kernel_rfl))⟩
 f57 := ⟨Try.f98.name, by decide, Try.func98.trans (congrArg some (by kernel_rfl))⟩
 t0 := Try.underlying0
 a0 := Try.isAgg0
 z0 := Try.sizeOf0
 v0 := Try.zeroValue0
 t3 := Try.underlying3
 a3 := Try.isAgg3
 z3 := Try.sizeOf3
 v3 := Try.zeroValue3
 t4 := Try.underlying4
 a4 := Try.isAgg4
 z4 := Try.sizeOf4
 v4 := Try.zeroValue4
 t5 := Try.underlying5
 a5 := Try.isAgg5
 z5 := Try.sizeOf5
 v5 := Try.zeroValue5
 t9 := Try.underlying9
 a9 := Try.isAgg9
 z9 := Try.sizeOf9
 v9 := Try.zeroValue9
 t22 := Try.underlying101
 a22 := Try.isAgg101
 z22 := Try.sizeOf101
 v22 := Try.zeroValue101
 t25 := Try.underlying90
 a25 := Try.isAgg90
 z25 := Try.sizeOf90
 v25 := Try.zeroValue90
 t39 := Try.underlying37
 a39 := Try.isAgg37
 z39 := Try.sizeOf37
 v39 := Try.zeroValue37
 t45 := Try.underlying143
 a45 := Try.isAgg143
 z45 := Try.sizeOf143
 v45 := Try.zeroValue143
 t46 := Try.underlying144
 a46 := Try.isAgg144
 z46 := Try.sizeOf144
 v46 := Try.zeroValue144
 t50 := Try.underlying148
 a50 := Try.isAgg148
 z50 := Try.sizeOf148
 v50 := Try.zeroValue148
 t53 := Try.underlying151
 a53 := Try.isAgg151
 z53 := Try.sizeOf151
 v53 := Try.zeroValue151
 t55 := Try.underlying81
 a55 := Try.isAgg81
 z55 := Try.sizeOf81
 v55 := Try.zeroValue81
 t66 := Try.underlying153
 a66 := Try.isAgg153
 z66 := Try.sizeOf153
 v66 := Try.zeroValue153
 t70 := Try.underlying157
 a70 := Try.isAgg157
 z70 := Try.sizeOf157
 v70 := Try.zeroValue157
 t76 := Try.underlying159
 a76 := Try.isAgg159
 z76 := Try.sizeOf159
 v76 := Try.zeroValue159
 t77 := Try.underlying160
 a77 := Try.isAgg160
 z77 := Try.sizeOf160
 v77 := Try.zeroValue160 }
end Go.Proofs
/-
 slices.SortFunc at identities.
-/
namespace Go.Proofs.Ytoaenmlhehcjfaa
open Go.J Go.RowKit
set_option linter.unusedVariables false
set_option linter.unusedSimpArgs false
open Go.Sort Go.Shelf
set_option maxRecDepth 4000
def ltI (a b : IDV) : Bool := decide (valI a < valI b)
theorem ltOf_cmpI (a b : IDV) : ltOf cmpI a b = ltI a b := by
 unfold ltOf cmpI ltI
 by_cases h1 : valI a < valI b
 ·simp [h1]
 ·by_cases h2 : valI b < valI a <;> simp [h1, h2]
theorem ltI_iff {a b : IDV} : ltI a b = true ↔ valI a < valI b := decide_eq_true_iff
theorem swo_cmpI : SWO (ltOf cmpI) where
 irrefl x := by rw [ltOf_cmpI]; exact decide_eq_false (Nat.lt_irrefl _)
 trans x y z h1 h2 := by rw [ltOf_cmpI, ltI_iff] at *; omega
 ntrans x y z h1 h2 := by
  rw [ltOf_cmpI] at *
  rw [Bool.eq_false_iff, ne_eq, ltI_iff] at *
  omega
theorem leI_trans (a b c : IDV) (h1 : (!(ltOf cmpI) b a) = true) (h2 : (!(ltOf cmpI) c b) = true) : (!(ltOf cmpI) c a) = true := by
 rw [Bool.not_eq_true', ltOf_cmpI, Bool.eq_false_iff, ne_eq, ltI_iff] at *
 omega
theorem leI_total (a b : IDV) : ((!(ltOf cmpI) b a) || !(ltOf cmpI) a b) = true := by
 rw [ltOf_cmpI, ltOf_cmpI, Bool.or_eq_true, Bool.not_eq_true', Bool.not_eq_true', Bool.eq_false_iff, Bool.eq_false_iff, ne_eq, ne_eq, ltI_iff, ltI_iff]
 omega
theorem ltI_total {a b : IDV} (h1 : ltI a b = false) (h2 : ltI b a = false) : a = b := by
 rw [Bool.eq_false_iff, ne_eq, ltI_iff] at h1 h2
 exact valI_inj (by omega)
theorem flat_fI (xs : List IDV) : flatK cI 16 xs.toArray = (fI xs).toArray := by
 have hl := fI_length xs
 apply Array.ext
 ·simp [hl]
 ·intro t h1 h2
  have ht : t < xs.length * 16 := by simpa using h1
  have hi : t / 16 < xs.length := by omega
  have e := get_flatK cI 16 xs.toArray t (by simpa using ht)
  rw [getElem!_pos _ t h1] at e
  rw [e]
  have hx : xs.toArray[t / 16]! = xs[t / 16] := by rw [getElem!_pos xs.toArray (t / 16) (by simpa using hi)]; simp
  rw [hx]
  have hr : t % 16 < (cI xs[t / 16]).length := by show t % 16 < 16; omega
  rw [getElem!_pos (cI xs[t / 16]) (t % 16) hr]
  have e2 := fI_at (List.getElem?_eq_getElem hi)
  have e3 : (cI xs[t / 16])[t % 16]? = (fI xs)[t]? := by
   rw [← e2, List.getElem?_take_of_lt (by omega), List.getElem?_drop, show t / 16 * 16 + t % 16 = t by omega]
  rw [List.getElem?_eq_getElem hr, List.getElem?_eq_getElem (by omega)] at e3
  simpa using Option.some.inj e3
theorem holds_fI {w : World} {q : Nat} {xs : List IDV} {sp : List Value} {t : TypeId} (h : w.heap[q]? = some (cb (fI xs ++ sp) t)) : HoldsK cI 16 w q 0 xs.toArray := by
 intro j hj
 rw [flat_fI] at hj ⊢
 have hj' : j < (fI xs).length := by simpa using hj
 refine ⟨?_, frozen_of h⟩
 rw [cell_of h, Nat.zero_add, List.getElem?_append_left hj', List.getElem?_eq_getElem hj']
 rw [getElem!_pos (fI xs).toArray j hj]
 rfl
theorem sortWorldI_st {w : World} {q : Nat} {xs ys : List IDV} {sp : List Value} {t : TypeId} (h : w.heap[q]? = some (cb (fI xs ++ sp) t)) (hl : ys.length = xs.length) (n : Nat) (os : Array Obj) :
  St w [q] [(q, cb (fI ys ++ sp) t)] (sortWorldK cI 16 w q 0 n ys.toArray os) := by
 have hq := lt_of_some h
 have hlx := fI_length xs
 have hly := fI_length ys
 have hheap : (sortWorldK cI 16 w q 0 n ys.toArray os).heap = (w.heap.modify q (onCells (putCells id 0 (flatK cI 16 ys.toArray)))) ++ os := rfl
 refine ⟨rfl, rfl, rfl, by rw [hheap]; simp, Nat.le_add_right _ _, fun b hb hS => ?_, fun p hp => ?_, fun p hp => ?_, by simp⟩
 ·rw [hheap, Array.getElem?_append_left (by simpa using hb), Array.getElem?_modify, if_neg (by simp at hS; exact fun e => hS e.symm)]
 ·simp only [List.mem_singleton] at hp
  subst hp
  rw [hheap, Array.getElem?_append_left (by simpa using hq), Array.getElem?_modify, if_pos rfl, h]
  simp only [Option.map_some, onCells, flat_fI]
  congr 2
  apply Array.ext
  ·simp [putCells, hlx, hly, hl]
  ·intro i h1 h2
   have hi : i < (fI ys ++ sp).length := by simpa using h2
   simp only [putCells, Array.getElem_mapIdx, Nat.zero_le, true_and, Nat.zero_add, Nat.sub_zero, id]
   by_cases hin : i < (fI ys).length
   ·rw [if_pos (by simpa using hin), getElem!_pos _ i (by simpa using hin)]
    simp [List.getElem_append_left hin]
   ·rw [if_neg (by simpa using hin)]
    simp only [List.getElem_toArray]
    rw [List.getElem_append_right (by omega), List.getElem_append_right (by omega)]
    congr 1
    omega
 ·simp only [List.mem_singleton] at hp
  subst hp
  left; simp
theorem sortI_spec (q : Nat) (xs : List IDV) (sp : List Value) (cap : Nat) (w : World) (hb : w.heap[q]? = some (cb (fI xs ++ sp) 23)) (hlen : xs.length < 4611686018427387904) :
  Calls Try.prog 71 [.slice (some ⟨q, 0, none⟩) xs.length cap, .func (.func 43) #[] #[]].toArray w fun r w' => ∃ ys : List IDV, r = .returned (.tuple #[]) ∧ (ys.Perm xs ∧ ys.Pairwise (fun a b => ltI b a = false)) ∧ St w [q] [(q, cb (fI ys ++ sp) 23)] w' := by
 have hcmp : CmpLays Try.prog 43 #[] cI 16 cmpI q 0 xs.toArray.size w := by
  intro m os dk hd x y
  have h := compare_spec x y (sortWorldK cI 16 w q 0 m dk os)
  exact Calls.mono h fun r w' ⟨h1, h2⟩ => ⟨h1, h2.grown⟩
 have hcon := AnyQ.slices_SortFunc_total Try.sortI 16 (fun w => Go.J.run_isAgg Ty.a23 w) (fun w => Go.J.run_sizeOf Ty.s23 w) cI (fun _ => rfl) (fun x v hv => one_cI x v hv) cmpI swo_cmpI 43 #[] q 0 cap xs.toArray w
  (fun args w => run_callFunc Ty.bd43 w) hcmp (holds_fI hb) (lt_of_some hb) (by simpa using hlen) (fun x y h1 h2 => by rw [ltOf_cmpI] at h1 h2; exact ltI_total h1 h2)
 change Calls Try.prog 71 _ _ _ at hcon
 rw [List.size_toArray] at hcon
 refine hcon.mono fun r w' ⟨h1, n, os, h2⟩ => ?_
 refine ⟨xs.mergeSort (fun x y => !(ltOf cmpI) y x), h1, ⟨List.mergeSort_perm _ _, ?_⟩, ?_⟩
 ·have := List.pairwise_mergeSort (le := fun x y => !(ltOf cmpI) y x) leI_trans leI_total xs
  refine this.imp fun {a b} h => ?_
  simpa [ltOf_cmpI] using h
 ·rw [h2]
  exact sortWorldI_st hb (by simp) n os

end Go.Proofs.Ytoaenmlhehcjfaa
/-
 maps.Keys at paths: its iterator; slices.AppendSeq, Collect, SortedFunc: contracts.
-/
namespace Go.Proofs.Ytoaenmlhehcjfaa
open Go.J Go.RowKit
set_option linter.unusedVariables false
set_option linter.unusedSimpArgs false
set_option maxRecDepth 4000
theorem nodup_len : ∀ {l m : List Nat}, l.Nodup → (∀ x, x ∈ l → x ∈ m) → l.length ≤ m.length
 | [], m, _, _ => Nat.zero_le _
 | a :: l, m, h, hs => by
  have h' := List.nodup_cons.1 h
  have ha := hs a (.head _)
  have := nodup_len (l := l) (m := m.erase a) h'.2 (fun x hx => (List.mem_erase_of_ne (fun e => h'.1 (by rw [← e]; exact hx))).2 (hs x (.tail _ hx)))
  rw [List.length_erase_of_mem ha] at this
  have : 0 < m.length := List.length_pos_of_mem ha
  simp only [List.length_cons]
  omega
theorem done_perm {es done : List MapEntry} (hn : (es.map (·.born)).Nodup) (hd : (done.map (·.born)).Nodup) (h1 : ∀ x, x ∈ done → x ∈ es) (h2 : ∀ x, x ∈ es → x.born ∈ done.map (·.born)) : done.Perm es := by
 have nd : ∀ {l : List MapEntry}, (l.map (·.born)).Nodup → l.Nodup := fun h => (List.pairwise_map.1 h).imp fun h e => h (by rw [e])
 refine (List.perm_ext_iff_of_nodup (nd hd) (nd hn)).2 fun x => ⟨h1 x, fun hx => ?_⟩
 obtain ⟨y, hy, he⟩ := List.mem_map.1 (h2 x hx)
 have : y = x := by
  apply Classical.byContradiction
  intro hne
  have hp := List.pairwise_map.1 hn
  obtain ⟨i, hi, rfl⟩ := List.getElem_of_mem (h1 y hy)
  obtain ⟨j, hj, rfl⟩ := List.getElem_of_mem hx
  rw [List.pairwise_iff_getElem] at hp
  rcases Nat.lt_trichotomy i j with h | h | h
  ·exact hp i j hi hj h he
  ·subst h; exact hne rfl
  ·exact hp j i hj hi h he.symm
 rw [← this]
 exact hy
structure KS where
 done : List MapEntry
 o : Obj
 lst : List (Nat × Obj)
open Classical in
/-- the path that is an entry's key -/
noncomputable def kpv (en : MapEntry) : IDV := if h : ∃ p : IDV, en.key = .agg (cI p).toArray then h.choose else zI
theorem kpv_spec {en : MapEntry} (h : ∃ p : IDV, en.key = .agg (cI p).toArray) : en.key = .agg (cI (kpv en)).toArray := by
 unfold kpv
 rw [dif_pos h]
 exact h.choose_spec

theorem keys1_spec (lb Bm b clock : Nat) (es : Array MapEntry) (Inv : List MapEntry → List (Nat × Obj) → Prop) (lst0 : List (Nat × Obj)) (w : World)
  (hst : MapKept.Stamped es clock) (hkey : ∀ en, en ∈ es.toList → ∃ p : IDV, en.key = .agg (cI p).toArray)
  (hm : w.heap[Bm]? = some (cb [.map (some b)] 97)) (hb : w.heap[b]? = some (.map es clock)) (hBm : Bm ∉ lst0.map (·.1)) (hbm : b ∉ lst0.map (·.1)) (h0 : Own w lst0) (hI0 : Inv [] lst0)
  (hY : ∀ pre en lst W1, en ∈ es.toList → pre.length < es.size → Inv pre lst → Own W1 lst → YieldTo (FW none) 0 Try.prog lb #[en.key] W1 fun r w' => r = .returned (.bool true) ∧ ∃ lst', Inv (pre ++ [en]) lst' ∧ St W1 (lst.map (·.1)) lst' w') :
  Calls Try.prog 72 [.func (.yield lb) #[] #[], .pointer (some ⟨Bm, 0, none⟩)].toArray w fun r w' => ∃ v done lst', r = .returned v ∧ done.Perm es.toList ∧ Inv done lst' ∧ St w (lst0.map (·.1)) lst' w' := by
 have hstamp := (MapKept.stamped_iff es clock).1 hst
 have hh0 := h0
 clear h0
 refine calls_of_J (args := [.func (.yield lb) #[] #[], .pointer (some ⟨Bm, 0, none⟩)]) (e := [(0, .func (.yield lb) #[] #[]), (1, .pointer (some ⟨Bm, 0, none⟩))]) Try.func72 rfl rfl ⟨rfl, rfl, trivial⟩ (hh0.st) ?_; refine JC.seq (fun K0 hK0 => ?_); refine JC.region ?_; refine J.load1 (v := .map (some b)) Ty.a97 rfl (fun w1 hw => by rw [cell_of (by rw [hw.keep Bm (lt_of_some hm) hBm]; exact hm)]; rfl) rfl ?_; refine J.range Ty.u97 rfl (fun w1 hw => by rw [hw.keep b (lt_of_some hb) hbm]; exact hb) hstamp.1 rfl (fun r0 o0 ho0 => ?_); refine J.nil ?_; refine JX.thenN (hK0 _ _ ?_); refine JC.block ?_
 refine JC.conseq (JC.cov (f := (fun st => [(0, .func (.yield lb) #[] #[]), (1, .pointer (some ⟨Bm, 0, none⟩)), (5, .pointer (some ⟨r0, 0, none⟩))]) (⟨[], o0, lst0⟩ : KS)) ⟨rfl, rfl, rfl, trivial⟩ (JC.loop (α := KS) (fun st => [(0, .func (.yield lb) #[] #[]), (1, .pointer (some ⟨Bm, 0, none⟩)), (5, .pointer (some ⟨r0, 0, none⟩))]) (fun st w' => (IterAt b es clock (st.done.map (·.born)) st.o ∧ (∀ x, x ∈ st.done → x ∈ es.toList) ∧ (st.done.map (·.born)).Nodup ∧ Inv st.done st.lst) ∧ St w (lst0.map (·.1)) ((r0, st.o) :: st.lst) w') (fun st => es.size - st.done.length) (⟨[], o0, lst0⟩ : KS) (fun st => ?_))) (fun w hw => ⟨⟨ho0, by simp, .nil, hI0⟩, hw⟩)
 obtain ⟨done, o, lst⟩ := st
 simp only
 refine JC.pr (fun hx => ?_)
 obtain ⟨hit, hsub, hnd, hInv⟩ := hx
 refine JC.seq (fun K1 hK1 => ?_); refine JC.region ?_; refine J.next (l' := fun o1 => (r0, o1) :: lst) rfl (fun _ => .here) hit (fun w1 hw => by rw [hw.keep b (lt_of_some hb) hbm]; exact hb) rfl (fun eo o1 hN => ?_); refine J.extract rfl (nextA_0 eo) rfl ?_; refine J.nil ?_; refine JX.thenN (hK1 _ _ ?_); refine JC.seq (fun K2 hK2 => ?_); refine JC.cond rfl (fun h0 => ?_) (fun h0 => ?_)
 ·obtain ⟨en, rfl⟩ := Option.isSome_iff_exists.1 h0
  obtain ⟨hem, hnb, hon⟩ := hN
  obtain ⟨p, hp⟩ := hkey en hem
  have hlen : done.length + 1 ≤ es.size := by
   have h := nodup_len (l := (done ++ [en]).map (·.born)) (m := es.toList.map (·.born)) (by rw [List.map_append]; exact List.nodup_append.2 ⟨hnd, by simp, fun a ha b hb e => hnb (by simp at hb; rw [← hb, ← e]; exact ha)⟩) (fun x hx => by
    obtain ⟨y, hy, rfl⟩ := List.mem_map.1 hx
    refine List.mem_map.2 ⟨y, ?_, rfl⟩
    exact (List.mem_append.1 hy).elim (hsub y) (fun h => by rw [List.mem_singleton.1 h]; exact hem))
   simpa using h
  refine JC.skip ?_; refine JX.thenN (hK2 _ _ ?_); refine JC.block ?_; refine JC.seq (fun K3 hK3 => ?_); refine JC.region ?_; refine J.entry rfl (.head _) hon hem hstamp.2.1 (fun w1 hw => by rw [hw.keep b (lt_of_some hb) hbm]; exact hb) rfl ?_; refine J.extract rfl rfl rfl ?_; refine J.name 9 rfl hp ?_; refine J.alloc Ty.z23 rfl rfl (fun b3 => ?_); refine J.storeW (cs := cI zI) (vs := cI p) Ty.s23 rfl rfl rfl rfl rfl (one_cI p) .here ?_; refine J.nil ?_; refine JX.thenN (hK3 _ _ ?_); refine JC.seq (fun K4 hK4 => ?_); refine JC.regionI ?_; refine JI.steps (α := Unit) (os := [_, _]) (rest := [_, _]) (fun _ => [(0, .func (.yield lb) #[] #[]), (1, .pointer (some ⟨Bm, 0, none⟩)), (5, .pointer (some ⟨r0, 0, none⟩)), (10, .func (.yield lb) #[] #[]), (11, .agg (cI p).toArray)]) (fun _ => St w (lst0.map (·.1)) ((b3, cb (cI p) 23) :: (r0, o1) :: lst)) rfl ?_ (fun _ => ?_)
  ·refine J.move rfl rfl ?_; refine J.loadOA (vs := cI p) Ty.a23 Ty.s23 rfl (.head _) rfl rfl rfl ?_
   exact J.nil (JX.qx () ⟨rfl, rfl, rfl, rfl, rfl, trivial⟩ (fun w1 hw => hw))
  refine JI.yield (vs := [.agg (cI p).toArray]) (R := fun v w' => ∃ lst', (v = .bool true ∧ Inv (done ++ [en]) lst') ∧ St w (lst0.map (·.1)) ((b3, cb (cI p) 23) :: (r0, o1) :: lst') w') rfl rfl rfl (fun w2 hw => ?_) (fun v => ?_)
  ·have hw' : St w (lst0.map (·.1)) (lst ++ [(b3, cb (cI p) 23), (r0, o1)]) w2 := hw.perm zp
   obtain ⟨fn1, T1, as1, bd1, hy1, hy2⟩ := hY done en lst w2 hem (by omega) hInv hw'.owns
   rw [hp] at hy1
   refine ⟨fn1, T1, as1, bd1, hy1, hy2.mono ?_⟩
   rintro e1 w1 ⟨rfl, lst', hi', hst'⟩
   exact ⟨_, rfl, lst', ⟨rfl, hi'⟩, (hw'.call hst').perm zp⟩
  refine JI.steps (α := List (Nat × Obj)) (os := [_]) (rest := []) (fun _ => [(0, .func (.yield lb) #[] #[]), (1, .pointer (some ⟨Bm, 0, none⟩)), (5, .pointer (some ⟨r0, 0, none⟩)), (13, .bool false)]) (fun lst' w' => Inv (done ++ [en]) lst' ∧ St w (lst0.map (·.1)) ((b3, cb (cI p) 23) :: (r0, o1) :: lst') w') rfl ?_ (fun lst' => JI.nil ?_)
  ·refine J.ex fun lst' => J.pr fun hv => ?_
   obtain ⟨rfl, hi'⟩ := hv
   refine J.not rfl rfl ?_
   exact J.nil (JX.qx lst' ⟨rfl, rfl, rfl, rfl, trivial⟩ (fun w1 hw => ⟨hi', hw⟩))
  refine JX.pr fun hi' => ?_
  refine JX.thenN (hK4 _ _ ?_)
  first | refine JC.condF rfl ?_ | refine JC.cond rfl (fun h => by first | (exfalso; simp at h; omega) | (simp at h)) (fun _ => ?_)
  refine JC.skip ?_; refine JX.blockN ?_; refine JX.thenN ?_; refine JX.again (⟨done ++ [en], o1, lst'⟩ : KS) ?_ ?_ ?_
  ·simp only [List.length_append, List.length_singleton]; omega
  ·exact ⟨rfl, rfl, rfl, trivial⟩
  ·exact fun w1 hw => ⟨⟨by rw [List.map_append]; exact hon.at, fun x hx => (List.mem_append.1 hx).elim (hsub x) (fun h => by rw [List.mem_singleton.1 h]; exact hem), by rw [List.map_append]; exact List.nodup_append.2 ⟨hnd, by simp, fun a ha b hb e => hnb (by simp at hb; rw [← hb, ← e]; exact ha)⟩, hi'⟩, hw.drop (List.sublist_cons_self _ _)⟩
 ·have hnone : eo = none := by cases eo with | none => rfl | some e => cases h0
  subst hnone
  obtain ⟨rfl, hall⟩ := hN
  have hperm := done_perm hstamp.2.1 hnd hsub hall
  refine JC.exit ?_; refine JX.thenE ?_; refine JX.thenE ?_; refine JX.blockE ?_; refine JX.end0 rfl (fun w1 hw => ?_)
  exact ⟨_, done, lst, rfl, hperm, hInv, hw.drop (List.sublist_cons_self _ _)⟩

end Go.Proofs.Ytoaenmlhehcjfaa
/-
 slices.AppendSeq and Collect of maps.Keys at paths; slices.SortedFunc: contracts.
-/
namespace Go.Proofs.Ytoaenmlhehcjfaa
open Go.J Go.RowKit
set_option linter.unusedVariables false
set_option linter.unusedSimpArgs false
open Go.Sort Go.Shelf
set_option maxRecDepth 4000
theorem vecI9 {v : Value} {xs : List IDV} {lp : List (Nat × Obj)} (h : Vec 23 16 v xs.length (fI xs) lp) : (v = .slice none 0 0 ∧ xs = [] ∧ lp = []) ∨ ∃ b c sp, v = .slice (some ⟨b, 0, none⟩) xs.length c ∧ lp = [(b, cb (fI xs ++ sp) 23)] ∧ (fI xs ++ sp).length = c * 16 ∧ xs.length ≤ c := by
 rcases h.2 with ⟨h1, h2, h3⟩ | h
 ·exact .inl ⟨h1, List.eq_nil_of_length_eq_zero h2, h3⟩
 ·exact .inr h
theorem vecI_mk {xs : List IDV} {b c : Nat} {sp : List Value} (h1 : (fI xs ++ sp).length = c * 16) : Vec 23 16 (.slice (some ⟨b, 0, none⟩) xs.length c) xs.length (fI xs) [(b, cb (fI xs ++ sp) 23)] := by
 refine ⟨fI_length xs, .inr ⟨b, c, sp, rfl, rfl, h1, ?_⟩⟩
 rw [List.length_append, fI_length] at h1
 omega
theorem fI_append9 (xs ys : List IDV) : fI (xs ++ ys) = fI xs ++ fI ys := by simp [fI]
/-- what the rounds keep: the box, the loop's record, the block for deferred calls, the row -/
def AppInv (Bs l D : Nat) (rec : Loop) (ss : List MapEntry) (lst : List (Nat × Obj)) : Prop :=
 ∃ v lp, Vec 23 16 v (ss.map kpv).length (fI (ss.map kpv)) lp ∧ lst = (Bs, cb [v] 101) :: (l, .loop rec) :: (D, .deferred (some [])) :: lp

theorem St.notin {w0 w : World} {l : List (Nat × Obj)} (h : St w0 [] l w) {b : Nat} (hb : b < w0.heap.size) : b ∉ l.map (·.1) := fun hm => by
 obtain ⟨q, hq, he⟩ := List.mem_map.1 hm
 rcases h.apart q hq with h1 | h1
 ·cases h1
 ·omega
theorem rec_back {rec : Loop} (h1 : rec.state = .ready) (h2 : rec.pending = none) : ({ ({ rec with state := .busy } : Loop) with state := .ready, pending := none } : Loop) = rec := by
 cases rec
 simp only at h1 h2
 subst h1
 subst h2
 rfl

theorem appendSeq_spec (Bm b clock : Nat) (es : Array MapEntry) (w : World) (hst : MapKept.Stamped es clock) (hkey : ∀ en, en ∈ es.toList → ∃ p : IDV, en.key = .agg (cI p).toArray) (hm : w.heap[Bm]? = some (cb [.map (some b)] 97)) (hb : w.heap[b]? = some (.map es clock)) (hn : es.size ≤ 1099511627776) :
  Calls Try.prog 77 [.slice none 0 0, .func (.func 72) #[] #[.pointer (some ⟨Bm, 0, none⟩)]].toArray w fun r w' => ∃ x : List MapEntry × Value × List (Nat × Obj), r = .returned x.2.1 ∧ (x.1.Perm es.toList ∧ Vec 23 16 x.2.1 x.1.length (fI (x.1.map kpv)) x.2.2) ∧ St w [] x.2.2 w' := by
 refine calls_of_JM (args := [.slice none 0 0, .func (.func 72) #[] #[.pointer (some ⟨Bm, 0, none⟩)]]) (e := [(0, .slice none 0 0), (1, .func (.func 72) #[] #[.pointer (some ⟨Bm, 0, none⟩)])]) Try.func77 rfl rfl ⟨rfl, rfl, trivial⟩ (St.start w) ?_; refine JC.seq (fun K0 hK0 => ?_); refine JC.region ?_; refine J.box rfl rfl rfl (fun b2 => ?_); refine J.assign rfl rfl ?_; refine J.nil ?_; refine JX.thenN (hK0 _ _ ?_); refine JC.seqRaw ?_; refine JC.seq (fun K2 hK2 => ?_); refine JC.region ?_; refine J.move rfl rfl ?_; refine J.nil ?_; refine JX.thenN (hK2 _ _ ?_); refine JC.block ?_; refine JC.rangeFS rfl Ty.bd72 ?_
 intro fn T lb Dd rec W1 hT hrec hW1
 have hst1 : St w [] ([(b2, cb [.slice none 0 0] 101), (lb, .loop rec), (Dd, .deferred (some []))] ++ []) W1 := hW1.perm zp
 refine Calls.mono (keys1_spec lb Bm b clock es (AppInv b2 lb Dd rec) [(b2, cb [.slice none 0 0] 101), (lb, .loop rec), (Dd, .deferred (some []))] W1 hst hkey (by rw [hst1.keep Bm (lt_of_some hm) (by simp)]; exact hm) (by rw [hst1.keep b (lt_of_some hb) (by simp)]; exact hb) (St.notin (l := [(b2, cb [.slice none 0 0] 101), (lb, .loop rec), (Dd, .deferred (some []))]) hst1 (lt_of_some hm)) (St.notin (l := [(b2, cb [.slice none 0 0] 101), (lb, .loop rec), (Dd, .deferred (some []))]) hst1 (lt_of_some hb)) hst1.owns ⟨.slice none 0 0, [], Vec.nil _ _, rfl⟩ ?_) ?_
 ·intro pre en lst W2 hem hlen hInv hown
  obtain ⟨v, lp, hv, rfl⟩ := hInv
  have hpk := kpv_spec (hkey en hem)
  obtain ⟨p, hp⟩ : ∃ p, kpv en = p := ⟨_, rfl⟩
  rw [hp] at hpk
  refine ⟨rec.fn, _, rec.assign, rec.body, run_yield (hown.own _ (.tail _ (.head _))) (by rw [hrec.params]; rfl), ?_⟩
  rw [hrec.assign, hrec.body, hrec.params, hrec.tmps, hpk]
  refine round1 ?_
  have hT7 := (hT.put (d := 7) rfl (.agg (cI p).toArray)).cov (f := [(7, .agg (cI p).toArray), (2, .pointer (some ⟨b2, 0, none⟩))]) ⟨rfl, rfl, trivial⟩
  refine roundIn_of_J (α := Nat) (β := Value × List (Nat × Obj)) (I := St W2 (((b2, cb [v] 101) :: (lb, .loop rec) :: (Dd, .deferred (some [])) :: lp).map (·.1)) ((b2, cb [v] 101) :: (lb, .loop rec) :: (Dd, .deferred (some [])) :: lp)) (fun b5 => [(2, .pointer (some ⟨b2, 0, none⟩)), (5, .pointer (some ⟨b5, 0, none⟩))])
   (fun b5 => St W2 (((b2, cb [v] 101) :: (lb, .loop rec) :: (Dd, .deferred (some [])) :: lp).map (·.1)) ((b5, cb (cI p) 23) :: (b2, cb [v] 101) :: (lb, .loop rec) :: (Dd, .deferred (some [])) :: lp)) (fun b5 => St W2 (((b2, cb [v] 101) :: (lb, .loop rec) :: (Dd, .deferred (some [])) :: lp).map (·.1)) ((b5, cb (cI p) 23) :: (b2, cb [v] 101) :: (lb, .loop { rec with state := .busy }) :: (Dd, .deferred (some [])) :: lp))
   (fun z w1 => Vec 23 16 z.1 ((pre ++ [en]).map kpv).length (fI ((pre ++ [en]).map kpv)) z.2 ∧ St W2 (((b2, cb [v] 101) :: (lb, .loop rec) :: (Dd, .deferred (some [])) :: lp).map (·.1)) ((b2, cb [z.1] 101) :: (lb, .loop { rec with state := .busy }) :: (Dd, .deferred (some [])) :: z.2) w1) rfl rfl ?_ ?_ ?_ ?_ hT7 hown.st
  ·refine J.alloc Ty.z23 rfl rfl (fun b5 => ?_); refine J.storeW (cs := cI zI) (vs := cI p) Ty.s23 rfl rfl rfl rfl rfl (one_cI p) .here ?_
   exact J.nil (JX.qx b5 ⟨rfl, rfl, trivial⟩ (fun w1 hw => hw))
  ·intro b5 w1 hw
   exact ⟨rec, hw.own _ (.tail _ (.tail _ (.head _))), hrec.state, hw.wrote (.there (.there .here)) (wrote_put (hw.own _ (.tail _ (.tail _ (.head _)))))⟩
  ·intro b5
   refine J.loadO (v := v) Ty.a101 rfl (.tail _ (.head _)) rfl rfl ?_; refine J.loadOA (vs := cI p) Ty.a23 Ty.s23 rfl (.head _) rfl rfl rfl ?_; refine J.buildSl (cs := cI p) Ty.el101 Ty.s23 Ty.z23 rfl rfl rfl rfl (by kernel_rfl) rfl rfl (fun b10 => ?_); refine J.perm (lp ++ [(b10, cb (cI p) 23), (b5, cb (cI p) 23), (b2, cb [v] 101), (lb, .loop { rec with state := .busy }), (Dd, .deferred (some []))]) zp ?_
   have hpl : (pre.map kpv).length < es.size := by rw [List.length_map]; exact hlen
   refine J.append (lp := lp) (xs := fI (pre.map kpv)) (ys := cI p) (k := (pre.map kpv).length) (m := 1) Ty.el101 Ty.s23 Ty.b23 Ty.z23 rfl (.inl ⟨23, Ty.u101⟩) rfl rfl hv (fun w3 hw3 => .inl (Row.own hw3 (List.mem_append_right _ (.head _)) rfl (Nat.le_refl _))) rfl (one_cI p) (by omega) (by omega) rfl (fun v2 lp2 hv2 => ?_)
   obtain ⟨a2, c2, rfl, hc2⟩ := hv2.form
   refine J.perm ((b2, cb [v] 101) :: (lb, .loop { rec with state := .busy }) :: (Dd, .deferred (some [])) :: (lp2 ++ [(b10, cb (cI p) 23), (b5, cb (cI p) 23)])) zp ?_; refine J.storeO (cs := [v]) (vs := [.slice a2 ((pre.map kpv).length + 1) c2]) Ty.s101 rfl rfl rfl rfl (by simp [Value.oneCell']) .here (by simp) ?_
   refine J.nil (JX.qx (.slice a2 ((pre.map kpv).length + 1) c2, lp2) trivial (fun w1 hw => ⟨?_, hw.drop (.cons_cons _ (.cons_cons _ (.cons_cons _ (List.sublist_append_left _ _))))⟩))
   rw [List.map_append, List.length_append, fI_append9, List.map_cons, List.map_nil, hp]
   simpa [fI] using hv2
  ·rintro ⟨v2, lp2⟩ w1 ⟨hv2, hw⟩
   refine ⟨{ rec with state := .busy }, hw.own _ (.tail _ (.head _)), rfl, _, ⟨v2, lp2, hv2, rfl⟩, ?_⟩
   have h := hw.wrote (.there .here) (wrote_put (o' := .loop { ({ rec with state := .busy } : Loop) with state := .ready, pending := none }) (hw.own _ (.tail _ (.head _))))
   rw [rec_back hrec.state hrec.pending] at h ⊢
   exact h
 ·rintro r w3 ⟨v0, done, lst', rfl, hperm, ⟨v, lp, hv, rfl⟩, hst3⟩
  have hst4 := hst1.call hst3
  rw [List.append_nil] at hst4
  refine ⟨v0, rfl, hst4.own _ (.tail _ (.head _)), ?_⟩
  have hst5 := hst4.wrote (.there .here) (wrote_put (o' := .loop { rec with state := .exhausted }) (hst4.own _ (.tail _ (.head _))))
  show (Code.seq _ _).wp _ _ _ _
  refine wp_seq (wp_region_more (α := Unit) (e := [(2, .pointer (some ⟨b2, 0, none⟩))]) (I := St w [] ((b2, cb [v] 101) :: (lb, .loop { rec with state := .exhausted }) :: (Dd, .deferred (some [])) :: lp)) (E := fun _ => [(4, v)]) (I' := fun _ => St w [] ((b2, cb [v] 101) :: (lb, .loop { rec with state := .exhausted }) :: (Dd, .deferred (some [])) :: lp)) ?_ (hT.cov ⟨rfl, trivial⟩) hst5 (fun _ T2 w5 hT2 hw5 => wp_ret ?_))
  ·refine J.loadO (v := v) Ty.a101 rfl (.head _) rfl rfl ?_; refine J.assign rfl rfl ?_
   exact J.nil (JX.qx () ⟨rfl, trivial⟩ (fun w1 hw => hw))
  ·refine ⟨by simp, .inl ⟨Dd, _, rfl, run_takeDeferred (hw5.own _ (.tail _ (.tail _ (.head _)))), ?_⟩⟩
   have hst6 := hw5.wrote (.there (.there .here)) (wrote_put (o' := .deferred none) (hw5.own _ (.tail _ (.tail _ (.head _)))))
   refine ⟨v, ?_, (done, v, lp), rfl, ⟨hperm, ?_⟩, hst6.drop (.cons _ (.cons _ (.cons _ (List.Sublist.refl _))))⟩
   ·rw [results_tmp rfl, Array.getD_eq_getD_getElem?, hT2.2 4 v rfl]; rfl
   ·rw [List.length_map] at hv
    exact hv

theorem collect_spec (Bm b clock : Nat) (es : Array MapEntry) (w : World) (hst : MapKept.Stamped es clock) (hkey : ∀ en, en ∈ es.toList → ∃ p : IDV, en.key = .agg (cI p).toArray) (hm : w.heap[Bm]? = some (cb [.map (some b)] 97)) (hb : w.heap[b]? = some (.map es clock)) (hn : es.size ≤ 1099511627776) :
  Calls Try.prog 70 [.func (.func 72) #[] #[.pointer (some ⟨Bm, 0, none⟩)]].toArray w fun r w' => ∃ x : List MapEntry × Value × List (Nat × Obj), r = .returned x.2.1 ∧ (x.1.Perm es.toList ∧ Vec 23 16 x.2.1 x.1.length (fI (x.1.map kpv)) x.2.2) ∧ St w [] x.2.2 w' := by
 refine calls_of_J (args := [.func (.func 72) #[] #[.pointer (some ⟨Bm, 0, none⟩)]]) (e := [(0, .func (.func 72) #[] #[.pointer (some ⟨Bm, 0, none⟩)])]) Try.func70 rfl rfl ⟨rfl, trivial⟩ (St.start w) ?_; refine JC.seq (fun K0 hK0 => ?_); refine JC.region ?_; refine J.assign rfl rfl ?_; refine J.nil ?_; refine JX.thenN (hK0 _ _ ?_); refine JC.seq (fun K1 hK1 => ?_); refine JC.region ?_; refine J.move rfl rfl ?_; refine J.perm ([] ++ []) (.refl _) ?_; refine J.callS (α := List MapEntry × Value × List (Nat × Obj)) (V := (·.2.1)) (Pr := fun x => x.1.Perm es.toList ∧ Vec 23 16 x.2.1 x.1.length (fI (x.1.map kpv)) x.2.2) (L := (·.2.2)) (l1 := []) Ty.bd77 rfl rfl (fun w1 hw => appendSeq_spec Bm b clock es w1 hst hkey (by rw [hw.keep Bm (lt_of_some hm) (by simp)]; exact hm) (by rw [hw.keep b (lt_of_some hb) (by simp)]; exact hb) hn) (fun x hx => ?_)
 obtain ⟨ss, vs, ls⟩ := x
 simp only [List.append_nil] at hx ⊢
 refine J.assign rfl rfl ?_; refine J.nil ?_; refine JX.thenN (hK1 _ _ ?_); refine JC.ret ?_; refine JX.ret1 rfl rfl (fun w hw => ?_)
 exact ⟨(ss, vs, ls), rfl, hx, hw⟩

theorem sortI_vec (v : Value) (xs : List IDV) (lp : List (Nat × Obj)) (w : World) (hv : Vec 23 16 v xs.length (fI xs) lp) (hw0 : Own w lp) (hlen : xs.length < 4611686018427387904) :
  Calls Try.prog 71 [v, .func (.func 43) #[] #[]].toArray w fun r w' => ∃ x : List IDV × List (Nat × Obj), r = .returned (.tuple #[]) ∧ (x.1.Perm xs ∧ x.1.Pairwise (fun a b => ltI b a = false) ∧ Vec 23 16 v x.1.length (fI x.1) x.2) ∧ St w (lp.map (·.1)) x.2 w' := by
 rcases vecI9 hv with ⟨rfl, rfl, rfl⟩ | ⟨b, c, sp, rfl, rfl, h1, h2⟩
 ·exact (AnyF.slices_SortFunc_none Try.sortI none 0 _ w).mono fun r w' ⟨h1, h2⟩ => ⟨([], []), h1, ⟨.refl _, .nil, Vec.nil _ _⟩, by rw [h2]; exact St.start w⟩
 ·refine (sortI_spec b xs sp c w (hw0.own _ (.head _)) hlen).mono fun r w' ⟨ys, h3, h4, h5⟩ => ?_
  have hl := h4.1.length_eq
  refine ⟨(ys, [_]), h3, ⟨h4.1, h4.2, ?_⟩, h5⟩
  have := vecI_mk (xs := ys) (b := b) (c := c) (sp := sp) (by rw [List.length_append, fI_length, hl, ← fI_length, ← List.length_append]; exact h1)
  rw [hl] at this ⊢
  exact this

theorem sortedFunc_spec (Bm b clock : Nat) (es : Array MapEntry) (w : World) (hst : MapKept.Stamped es clock) (hkey : ∀ en, en ∈ es.toList → ∃ p : IDV, en.key = .agg (cI p).toArray) (hm : w.heap[Bm]? = some (cb [.map (some b)] 97)) (hb : w.heap[b]? = some (.map es clock)) (hn : es.size ≤ 1099511627776) :
  Calls Try.prog 48 [.func (.func 72) #[] #[.pointer (some ⟨Bm, 0, none⟩)], .func (.func 43) #[] #[]].toArray w fun r w' => ∃ x : List IDV × Value × List (Nat × Obj), r = .returned x.2.1 ∧ (x.1.Perm (es.toList.map kpv) ∧ x.1.Pairwise (fun a b => ltI b a = false) ∧ Vec 23 16 x.2.1 x.1.length (fI x.1) x.2.2) ∧ St w [] x.2.2 w' := by
 refine calls_of_J (args := [.func (.func 72) #[] #[.pointer (some ⟨Bm, 0, none⟩)], .func (.func 43) #[] #[]]) (e := [(0, .func (.func 72) #[] #[.pointer (some ⟨Bm, 0, none⟩)]), (1, .func (.func 43) #[] #[])]) Try.func48 rfl rfl ⟨rfl, rfl, trivial⟩ (St.start w) ?_; refine JC.seq (fun K0 hK0 => ?_); refine JC.region ?_; refine J.assign rfl rfl ?_; refine J.nil ?_; refine JX.thenN (hK0 _ _ ?_); refine JC.seq (fun K1 hK1 => ?_); refine JC.region ?_; refine J.move rfl rfl ?_; refine J.perm ([] ++ []) (.refl _) ?_; refine J.callS (α := List MapEntry × Value × List (Nat × Obj)) (V := (·.2.1)) (Pr := fun x => x.1.Perm es.toList ∧ Vec 23 16 x.2.1 x.1.length (fI (x.1.map kpv)) x.2.2) (L := (·.2.2)) (l1 := []) Ty.bd70 rfl rfl (fun w1 hw => collect_spec Bm b clock es w1 hst hkey (by rw [hw.keep Bm (lt_of_some hm) (by simp)]; exact hm) (by rw [hw.keep b (lt_of_some hb) (by simp)]; exact hb) hn) (fun x hx => ?_)
 obtain ⟨ss, vs, ls⟩ := x
 simp only [List.append_nil] at hx ⊢
 refine J.assign rfl rfl ?_; refine J.nil ?_; refine JX.thenN (hK1 _ _ ?_); refine JC.seq (fun K2 hK2 => ?_); refine JC.region ?_; refine J.move rfl rfl ?_; refine J.move rfl rfl ?_
 have hl2 := hx.1.length_eq
 refine J.perm (ls ++ []) (by simp) ?_; refine J.callS (α := List IDV × List (Nat × Obj)) (V := fun _ => .tuple #[]) (Pr := fun x => x.1.Perm (ss.map kpv) ∧ x.1.Pairwise (fun a b => ltI b a = false) ∧ Vec 23 16 vs x.1.length (fI x.1) x.2) (L := (·.2)) (l1 := ls) Ty.bd71 rfl rfl (fun w1 hw => sortI_vec vs (ss.map kpv) ls w1 (by rw [List.length_map]; exact hx.2) hw.owns (by rw [List.length_map]; simp at hl2; omega)) (fun x hs => ?_)
 obtain ⟨ks, lk⟩ := x
 simp only [List.append_nil] at hs ⊢
 refine J.nil ?_; refine JX.thenN (hK2 _ _ ?_); refine JC.seq (fun K3 hK3 => ?_); refine JC.region ?_; refine J.move rfl rfl ?_; refine J.assign rfl rfl ?_; refine J.nil ?_; refine JX.thenN (hK3 _ _ ?_); refine JC.ret ?_; refine JX.ret1 rfl rfl (fun w hw => ?_)
 exact ⟨(ks, vs, lk), rfl, ⟨hs.1.trans (hx.1.map _), hs.2⟩, hw⟩

theorem keys_spec (b : Nat) (w : World) :
  Calls Try.prog 49 [.map (some b)].toArray w fun r w' => ∃ Bm : Nat, r = .returned (.func (.func 72) #[] #[.pointer (some ⟨Bm, 0, none⟩)]) ∧ St w [] [(Bm, cb [.map (some b)] 97)] w' := by
 refine calls_of_J (args := [.map (some b)]) (e := [(0, .map (some b))]) Try.func49 rfl rfl ⟨rfl, trivial⟩ (St.start w) ?_; refine JC.seq (fun K0 hK0 => ?_); refine JC.region ?_; refine J.box rfl rfl rfl (fun b1 => ?_); refine J.assign rfl rfl ?_; refine J.nil ?_; refine JX.thenN (hK0 _ _ ?_); refine JC.seq (fun K1 hK1 => ?_); refine JC.region ?_; refine J.makeFn rfl rfl ?_; refine J.assign rfl rfl ?_; refine J.nil ?_; refine JX.thenN (hK1 _ _ ?_); refine JC.ret ?_; refine JX.ret1 rfl rfl (fun w hw => ?_)
 exact ⟨b1, rfl, hw⟩

end Go.Proofs.Ytoaenmlhehcjfaa
/-
 The vault's All: contract.
-/
namespace Go.Proofs.Ytoaenmlhehcjfaa
open Go.J Go.RowKit
set_option linter.unusedVariables false
set_option linter.unusedSimpArgs false
set_option maxRecDepth 8000
/-- items by their keys -/
def SrtOf (A B : List ItV) : Prop := B.Perm A ∧ B.Pairwise (fun a b => valI a.key < valI b.key)
theorem Vm.kpv {L : List HI} {es : Array MapEntry} {ck : Nat} (h : Vm L es ck) : es.toList.map kpv = L.map (·.key) := by
 refine List.ext_getElem? fun i => ?_
 rw [List.getElem?_map, List.getElem?_map]
 cases he : es.toList[i]? with
 | none =>
  have h1 := congrArg (fun l => l[i]?) h.eq
  simp only [List.getElem?_map, he, Option.map_none] at h1
  cases hL : L[i]? with
  | none => rfl
  | some x => rw [hL] at h1; cases h1
 | some e =>
  obtain ⟨x, hx, h1, _⟩ := h.get' he
  rw [hx]
  have h2 := kpv_spec ⟨x.key, h1⟩
  rw [h1] at h2
  simp only [Option.map_some, cI_eq.1 (agg_inj.1 h2)]
theorem Vm.size {L : List HI} {es : Array MapEntry} {ck : Nat} (h : Vm L es ck) : es.size = L.length := by
 have := congrArg List.length h.eq
 simpa using this
theorem keyed {L : List HI} (hd : L.Pairwise (fun x y => x.key ≠ y.key)) : (L.map (·.key)).map (fun k => ((hget L k).getD zH).it) = L.map HI.it := by
 rw [List.map_map]
 refine List.map_congr_left fun x hx => ?_
 obtain ⟨i, hi⟩ := List.mem_iff_getElem?.1 hx
 show ((hget L x.key).getD zH).it = x.it
 rw [hget_at hd hi]; rfl
theorem hget_in {L : List HI} {k : IDV} (h : k ∈ L.map (·.key)) : ∃ x, hget L k = some x ∧ x ∈ L ∧ x.key = k := by
 obtain ⟨x, hx, rfl⟩ := List.mem_map.1 h
 cases hg : hget L x.key with
 | none => exact absurd rfl (hget_none.1 hg x hx)
 | some y => exact ⟨y, rfl, (hget_some hg).1, (hget_some hg).2⟩
theorem all_srt {L : List HI} (hd : L.Pairwise (fun x y => x.key ≠ y.key)) {ks : List IDV} (hp : ks.Perm (L.map (·.key))) (hs : ks.Pairwise (fun a b => ltI b a = false)) : SrtOf (L.map HI.it) (ks.map (fun k => ((hget L k).getD zH).it)) := by
 refine ⟨(hp.map _).trans (by rw [keyed hd]), ?_⟩
 rw [List.pairwise_map]
 have hn : ks.Nodup := hp.nodup_iff.2 (by rw [List.Nodup, List.pairwise_map]; exact hd)
 refine (hs.and hn).imp_of_mem fun {a b} ha hb h => ?_
 obtain ⟨x, hx, _, hxk⟩ := hget_in (hp.mem_iff.1 ha)
 obtain ⟨y, hy, _, hyk⟩ := hget_in (hp.mem_iff.1 hb)
 rw [hx, hy]
 show valI x.key < valI y.key
 rw [hxk, hyk]
 have h1 := h.1
 rw [Bool.eq_false_iff, ne_eq, ltI_iff] at h1
 have h2 : valI a ≠ valI b := fun e => h.2 (valI_inj e)
 omega
structure AlS where
 i : Nat
 ys : List HI
 v : Value
 lv : List (Nat × Obj)
theorem cHs_len (ys : List HI) : (ys.flatMap cH).length = ys.length * 34 := by
 induction ys with
 | nil => rfl
 | cons y ys ih =>
  rw [List.flatMap_cons, List.length_append, ih, List.length_cons]
  show 34 + _ = _
  omega

set_option maxHeartbeats 1000000 in
theorem vall_spec (vb mb : Nat) (lv : Value) (inc : Int) (L : List HI) (es : Array MapEntry) (ck : Nat) (hT : Vm L es ck) (hV : VOK L) (hLn : L.length ≤ 1000) (w : World) (hw0 : Own w [(vb, vaO lv mb inc), (mb, .map es ck)]) (hrows : ∀ x, x ∈ L → Row w x.sv x.bs.length (x.bs.map u8) ∧ Off [vb, mb] x.sv (x.bs.map u8) ∧ x.bs.length ≤ 1000) :
  Calls Try.prog 20 [.pointer (some ⟨vb, 0, none⟩)].toArray w fun r w' => ∃ x : List HI × Value × List (Nat × Obj), r = .returned x.2.1 ∧ (SrtOf (L.map HI.it) (x.1.map HI.it) ∧ VOK x.1 ∧ Vec 28 34 x.2.1 (x.1).length ((x.1).flatMap cH) x.2.2) ∧ St w [vb, mb] (x.2.2 ++ (lpsH x.1 ++ [(vb, vaO lv mb inc), (mb, .map es ck)])) w' := by
 refine calls_of_J (args := [.pointer (some ⟨vb, 0, none⟩)]) (e := [(0, .pointer (some ⟨vb, 0, none⟩))]) Try.func20 rfl rfl ⟨rfl, trivial⟩ (hw0.st) ?_; refine JC.seq (fun K0 hK0 => ?_); refine JC.region ?_; refine J.assign rfl rfl ?_; refine J.nil ?_; refine JX.thenN (hK0 _ _ ?_); refine JC.seq (fun K1 hK1 => ?_); refine JC.seq (fun K2 hK2 => ?_); refine JC.region ?_; refine J.move rfl rfl ?_; refine J.eqNil Ty.u38 rfl rfl rfl ?_; refine J.nil ?_; refine JX.thenN (hK2 _ _ ?_)
 first | refine JC.condF rfl ?_ | refine JC.cond rfl (fun h => by first | (exfalso; simp at h; omega) | (simp at h)) (fun _ => ?_)
 refine JC.skip ?_; refine JX.thenN (hK1 _ _ ?_); refine JC.seq (fun K3 hK3 => ?_); refine JC.region ?_; refine J.assign rfl rfl ?_; refine J.nil ?_; refine JX.thenN (hK3 _ _ ?_); refine JC.seq (fun K4 hK4 => ?_); refine JC.seq (fun K5 hK5 => ?_); refine JC.region ?_; refine J.move rfl rfl ?_; refine J.nilCheck rfl rfl ?_; refine J.fieldAddr Ty.fd99_1 rfl rfl ?_; refine J.load1 (v := .map (some mb)) Ty.a97 rfl (fun w1 hw => by rw [cell_of (hw.own ((vb, vaO lv mb inc)) zm)]; rfl) rfl ?_; refine J.perm ([] ++ ((vb, vaO lv mb inc) :: (mb, .map es ck) :: [])) (.refl _) ?_; refine J.callS (α := Nat) (V := fun Bm => .func (.func 72) #[] #[.pointer (some ⟨Bm, 0, none⟩)]) (Pr := fun _ => True) (L := fun Bm => [(Bm, cb [.map (some mb)] 97)]) (l1 := []) Ty.bd49 rfl rfl (fun w1 hw => (keys_spec mb w1).mono fun _ _ ⟨Bm, h1, h2⟩ => ⟨Bm, h1, trivial, h2⟩) (fun Bm _ => ?_); refine J.perm ([] ++ ((Bm, cb [.map (some mb)] 97) :: (vb, vaO lv mb inc) :: (mb, .map es ck) :: [])) (.refl _) ?_
 refine J.callS (α := List IDV × Value × List (Nat × Obj)) (V := (·.2.1)) (Pr := fun x => x.1.Perm (es.toList.map kpv) ∧ x.1.Pairwise (fun a b => ltI b a = false) ∧ Vec 23 16 x.2.1 x.1.length (fI x.1) x.2.2) (L := (·.2.2)) (l1 := []) Ty.bd48 rfl rfl (fun w1 hw => sortedFunc_spec Bm mb ck es w1 hT.st (fun en hen => by
  obtain ⟨i, hi⟩ := List.mem_iff_getElem?.1 hen
  obtain ⟨x, _, h1, _⟩ := hT.get' hi
  exact ⟨x.key, h1⟩) (hw.own ((Bm, cb [.map (some mb)] 97)) zm) (hw.own ((mb, .map es ck)) zm) (by rw [hT.size]; omega)) (fun x hx => ?_)
 obtain ⟨ks, vk, lk⟩ := x
 obtain ⟨hkp, hks, hvk⟩ := hx
 try simp only at hkp hks hvk ⊢
 rw [hT.kpv] at hkp
 have hkl : ks.length = L.length := by have := hkp.length_eq; rwa [List.length_map] at this
 obtain ⟨ak, ckk, rfl, hckk⟩ := hvk.form
 refine J.lenS rfl Ty.u101 rfl rfl ?_; refine J.move rfl rfl ?_; refine J.nil ?_; refine JX.thenN (hK5 _ _ ?_); refine JC.block ?_
 refine JC.conseq (JC.cov (f := (fun st => [(0, .pointer (some ⟨vb, 0, none⟩)), (3, st.v), (13, .slice ak ks.length ckk), (14, .int .i64 ((ks.length : Nat) : Int)), (15, .int .i64 ((st.i : Nat) : Int))]) (⟨0, [], .slice none 0 0, []⟩ : AlS)) ⟨rfl, rfl, rfl, rfl, rfl, trivial⟩ (JC.loop (α := AlS) (fun st => [(0, .pointer (some ⟨vb, 0, none⟩)), (3, st.v), (13, .slice ak ks.length ckk), (14, .int .i64 ((ks.length : Nat) : Int)), (15, .int .i64 ((st.i : Nat) : Int))]) (fun st w' => (st.i ≤ ks.length ∧ st.ys.map HI.it = (ks.take st.i).map (fun k => ((hget L k).getD zH).it) ∧ VOK st.ys ∧ Vec 28 34 st.v (st.ys).length ((st.ys).flatMap cH) st.lv) ∧ St w [vb, mb] (st.lv ++ (lpsH st.ys ++ (lk ++ ((Bm, cb [.map (some mb)] 97) :: (vb, vaO lv mb inc) :: (mb, .map es ck) :: [])))) w') (fun st => ks.length - st.i) (⟨0, [], .slice none 0 0, []⟩ : AlS) (fun st => ?_))) (fun w hw => ⟨⟨Nat.zero_le _, rfl, VOK.nil, Vec.nil _ _⟩, hw⟩)
 obtain ⟨i, ys, v10, l10⟩ := st
 refine JC.pr (fun hI => ?_)
 obtain ⟨hi, hys, hok, hv10⟩ := hI
 try simp only at hi hys hok hv10 ⊢
 have hyl : ys.length = i := by
  have := congrArg List.length hys
  rw [List.length_map, List.length_map, List.length_take] at this
  omega
 refine JC.seq (fun K6 hK6 => ?_); refine JC.region ?_; refine J.bin rfl rfl rfl rfl ?_; refine J.nil ?_; refine JX.thenN (hK6 _ _ ?_); refine JC.seq (fun K7 hK7 => ?_); refine JC.cond rfl (fun h1 => ?_) (fun h1 => ?_)
 ·have hlt : i < ks.length := by simp at h1; omega
  obtain ⟨kk, hkk⟩ : ∃ x, ks[i]? = some x := ⟨_, List.getElem?_eq_getElem hlt⟩
  obtain ⟨O, hOg, hOm, hOk⟩ := hget_in (hkp.mem_iff.1 (List.mem_of_getElem? hkk))
  have hO : (hget L kk).getD zH = O := by rw [hOg]; rfl
  obtain ⟨hOr, hOf, hOl⟩ := hrows O hOm
  have hon := (hV O hOm).1
  obtain ⟨qk, hqk⟩ : ∃ q, ak = some ⟨q, 0, none⟩ := by
   rcases hvk.2 with ⟨_, h9, _⟩ | ⟨q, c9, sp, h9, _⟩
   ·omega
   ·simp only [Value.slice.injEq] at h9; exact ⟨q, h9.1⟩
  subst hqk
  refine JC.skip ?_; refine JX.thenN (hK7 _ _ ?_); refine JC.seq (fun K8 hK8 => ?_); refine JC.block ?_; refine JC.seq (fun K9 hK9 => ?_); refine JC.region ?_; refine J.indexAddrS Ty.el101 Ty.s23 rfl rfl (by omega) (by omega) rfl ?_; refine J.loadA (vs := cI kk) Ty.a23 Ty.s23 rfl rfl (fun w1 hw => rowF_at (o := 0) (vec_rowM hvk hw zq) hkk (by simp)) rfl ?_; refine J.alloc Ty.zID rfl rfl (fun b5 => ?_); refine J.storeW (cs := cI zI) (vs := cI kk) Ty.s23 rfl rfl rfl rfl rfl (one_cI _) .here ?_; refine J.nil ?_; refine JX.thenN (hK9 _ _ ?_)
  apply JC.drawX (α := Option Addr × Nat × List (Nat × Obj) × Nat) 9 (fun x => match x with | ⟨a26, c26, l26, x27⟩ => [v10, .pointer (some ⟨vb, 0, none⟩), .pointer (some ⟨vb, 0, none⟩), .pointer (some ⟨vb, 0 + 1, none⟩), .map (some mb), .agg (cI kk).toArray, .agg (cH O).toArray, .agg (cT O.key O.ver (.slice a26 O.bs.length c26)).toArray, .slice (some ⟨x27, 0, none⟩) 1 1]) (fun m x => match x with | ⟨a26, c26, l26, x27⟩ => fun w1 => ((m 7 = true → Vec 5 1 (.slice a26 O.bs.length c26) (O.bs).length ((O.bs).map u8) l26) ∧ (m 8 = true → m 7 = true)) ∧ St w [vb, mb] ((bif m 7 then l26 else []) ++ ((bif m 8 then [(x27, cb (cT O.key O.ver (.slice a26 O.bs.length c26)) 28)] else []) ++ ((b5, cb (cI kk) 23) :: (l10 ++ (lpsH ys ++ (lk ++ ((Bm, cb [.map (some mb)] 97) :: (vb, vaO lv mb inc) :: (mb, .map es ck) :: []))))))) w1) Ty.mixed rfl rfl rfl (by kernel_rfl) rfl rfl ?hinit ?hstep ?htail
  case hinit => exact fun w1 hw => ⟨(none, 0, [], 0), ⟨fun h => (by cases h), fun h => (by cases h)⟩, hw.drew⟩
  case hstep =>
   refine ⟨fun m x hm hp => ?_, fun m x hm hp => ?_, fun m x hm hp => ?_, fun m x hm hp => ?_, fun m x hm hp => ?_, fun m x hm hp => ?_, fun m x hm hp => ?_, fun m x hm hp => ?_, fun m x hm hp => ?_, trivial⟩
   ·obtain ⟨a26, c26, l26, x27⟩ := x
    show J _ _ _ _ _ (_) _
    refine J.pr (fun hF => ?_); refine J.move rfl rfl ?_
    exact J.finX rfl (fun _ hw => ⟨⟨a26, c26, l26, x27⟩, rfl, fun _ _ _ => rfl, hF, hw⟩)
   ·obtain ⟨a26, c26, l26, x27⟩ := x
    show J _ _ _ _ _ (_) _
    refine J.pr (fun hF => ?_); refine J.move rfl rfl ?_
    exact J.finX rfl (fun _ hw => ⟨⟨a26, c26, l26, x27⟩, rfl, fun _ _ _ => rfl, hF, hw⟩)
   ·obtain ⟨a26, c26, l26, x27⟩ := x
    show J _ _ _ _ _ ((20, .pointer (some ⟨vb, 0, none⟩)) :: _) _
    refine J.pr (fun hF => ?_); refine J.nilCheck rfl rfl ?_
    exact J.finX rfl (fun _ hw => ⟨⟨a26, c26, l26, x27⟩, rfl, fun _ _ _ => rfl, hF, hw⟩)
   ·obtain ⟨a26, c26, l26, x27⟩ := x
    show J _ _ _ _ _ ((21, .pointer (some ⟨vb, 0, none⟩)) :: _) _
    refine J.pr (fun hF => ?_); refine J.fieldAddr Ty.fd99_1 rfl rfl ?_
    exact J.finX rfl (fun _ hw => ⟨⟨a26, c26, l26, x27⟩, rfl, fun _ _ _ => rfl, hF, hw⟩)
   ·obtain ⟨a26, c26, l26, x27⟩ := x
    show J _ _ _ _ _ ((22, .pointer (some ⟨vb, 0 + 1, none⟩)) :: _) _
    refine J.pr (fun hF => ?_); refine J.load1 (v := .map (some mb)) Ty.a97 rfl (fun w1 hw => by rw [cell_of (hw.own ((vb, vaO lv mb inc)) zm)]; rfl) rfl ?_
    exact J.finX rfl (fun _ hw => ⟨⟨a26, c26, l26, x27⟩, rfl, fun _ _ _ => rfl, hF, hw⟩)
   ·obtain ⟨a26, c26, l26, x27⟩ := x
    show J _ _ _ _ _ (_) _
    refine J.pr (fun hF => ?_); refine J.loadA (vs := cI kk) Ty.a23 Ty.s23 rfl rfl (fun w1 hw => Cells.of_block (hw.own ((b5, cb (cI kk) 23)) zm) rfl) rfl ?_
    exact J.finX rfl (fun _ hw => ⟨⟨a26, c26, l26, x27⟩, rfl, fun _ _ _ => rfl, hF, hw⟩)
   ·obtain ⟨a26, c26, l26, x27⟩ := x
    show J _ _ _ _ _ ((24, .agg (cI kk).toArray) :: (23, .map (some mb)) :: _) _
    refine J.pr (fun hF => ?_); refine J.lookV1 Ty.u97 Ty.KI Ty.keyI Ty.zIt rfl rfl hT (fun w1 hw => hw.own ((mb, .map es ck)) zm) rfl ?_; refine J.name 25 rfl (show _ = Value.agg (cH O).toArray by rw [hO]) ?_
    exact J.finX rfl (fun _ hw => ⟨⟨a26, c26, l26, x27⟩, rfl, fun _ _ _ => rfl, hF, hw⟩)
   ·obtain ⟨a26, c26, l26, x27⟩ := x
    show J _ _ _ _ _ ((25, .agg (cH O).toArray) :: _) _
    refine J.pr (fun hF => ?_)
    have h8 : m 8 = false := by cases h : m 8 with
     | false => rfl
     | true => rw [hF.2 h] at hm; cases hm
    refine J.conseq (I' := St w [vb, mb] ((b5, cb (cI kk) 23) :: (l10 ++ (lpsH ys ++ (lk ++ ((Bm, cb [.map (some mb)] 97) :: (vb, vaO lv mb inc) :: (mb, .map es ck) :: [])))))) ?_ (fun w1 hw => by simp only [hm, h8, cond_false, List.nil_append] at hw; exact hw)
    refine J.perm ([] ++ ((b5, cb (cI kk) 23) :: (l10 ++ (lpsH ys ++ (lk ++ ((Bm, cb [.map (some mb)] 97) :: (vb, vaO lv mb inc) :: (mb, .map es ck) :: [])))))) (.refl _) ?_; refine J.callS (α := Value × List (Nat × Obj)) (V := fun y => .agg (cT O.key O.ver y.1).toArray) (Pr := fun y => Vec 5 1 y.1 (O.bs).length ((O.bs).map u8) y.2) (L := (·.2)) (l1 := []) Ty.bd47 rfl rfl (fun w1 hw => copied_spec (cH O) O.key O.ver O.bs O.sv w1 rfl (hOr.st hOf hw) (by omega)) (fun y hyn => ?_)
    obtain ⟨vn, ln⟩ := y
    try simp only at hyn ⊢
    obtain ⟨an, cn, rfl, hcn9⟩ := hyn.form
    refine J.nil (JX.finB rfl (fun w1 hw => ⟨⟨⟨an, cn, ln, x27⟩, rfl, fun j h1 h2 => ?_, ?_⟩, trivial⟩))
    ·match j, h1 with
     | 0, _ => (first | rfl | trivial)
     | 1, _ => (first | rfl | trivial)
     | 2, _ => (first | rfl | trivial)
     | 3, _ => (first | rfl | trivial)
     | 4, _ => (first | rfl | trivial)
     | 5, _ => (first | rfl | trivial)
     | 6, _ => (first | rfl | trivial)
     | 7, _ => exact absurd (h2.symm.trans hm) (by decide)
     | 8, _ => (first | rfl | trivial)
     | j + 9, h1 => omega
    show ((true = true → Vec 5 1 (.slice an O.bs.length cn) (O.bs).length ((O.bs).map u8) ln) ∧ (m 8 = true → true = true)) ∧ St w [vb, mb] ((bif true then ln else []) ++ ((bif m 8 then [(x27, cb (cT O.key O.ver (.slice an O.bs.length cn)) 28)] else []) ++ ((b5, cb (cI kk) 23) :: (l10 ++ (lpsH ys ++ (lk ++ ((Bm, cb [.map (some mb)] 97) :: (vb, vaO lv mb inc) :: (mb, .map es ck) :: []))))))) w1
    simp only [hm, h8, cond_true, cond_false, List.nil_append] at hw ⊢
    exact ⟨⟨fun _ => hyn, fun h => (by cases h)⟩, hw.perm zp⟩
   ·obtain ⟨a26, c26, l26, x27⟩ := x
    show J _ _ _ _ _ ((26, .agg (cT O.key O.ver (.slice a26 O.bs.length c26)).toArray) :: _) _
    have hp7 : m 7 = true := predsT hp (by kernel_rfl)
    refine J.pr (fun hF => ?_)
    refine J.conseq (I' := St w [vb, mb] (l26 ++ ((b5, cb (cI kk) 23) :: (l10 ++ (lpsH ys ++ (lk ++ ((Bm, cb [.map (some mb)] 97) :: (vb, vaO lv mb inc) :: (mb, .map es ck) :: []))))))) ?_ (fun w1 hw => by simp only [hm, hp7, cond_true, cond_false, List.nil_append] at hw; exact hw)
    refine J.buildSl (cs := cT O.key O.ver (.slice a26 O.bs.length c26)) Ty.el44 Ty.s28 Ty.zIt rfl rfl rfl rfl (by kernel_rfl) rfl rfl (fun b27 => ?_)
    refine J.nil (JX.finB rfl (fun w1 hw => ⟨⟨⟨a26, c26, l26, b27⟩, rfl, fun j h1 h2 => ?_, ?_⟩, trivial⟩))
    ·match j, h1 with
     | 0, _ => (first | rfl | trivial)
     | 1, _ => (first | rfl | trivial)
     | 2, _ => (first | rfl | trivial)
     | 3, _ => (first | rfl | trivial)
     | 4, _ => (first | rfl | trivial)
     | 5, _ => (first | rfl | trivial)
     | 6, _ => (first | rfl | trivial)
     | 7, _ => (first | rfl | trivial)
     | 8, _ => exact absurd (h2.symm.trans hm) (by decide)
     | j + 9, h1 => omega
    show ((m 7 = true → Vec 5 1 (.slice a26 O.bs.length c26) (O.bs).length ((O.bs).map u8) l26) ∧ (true = true → m 7 = true)) ∧ St w [vb, mb] ((bif m 7 then l26 else []) ++ ((bif true then [(b27, cb (cT O.key O.ver (.slice a26 O.bs.length c26)) 28)] else []) ++ ((b5, cb (cI kk) 23) :: (l10 ++ (lpsH ys ++ (lk ++ ((Bm, cb [.map (some mb)] 97) :: (vb, vaO lv mb inc) :: (mb, .map es ck) :: []))))))) w1
    simp only [hm, hp7, cond_true, cond_false] at hw ⊢
    exact ⟨⟨fun _ => hF.1 hp7, fun _ => (by first | trivial | rfl)⟩, hw.perm zp⟩
  case htail =>
   intro x
   obtain ⟨a26, c26, l26, x27⟩ := x
   show J _ _ _ _ _ ((27, .slice (some ⟨x27, 0, none⟩) 1 1) :: (26, .agg (cT O.key O.ver (.slice a26 O.bs.length c26)).toArray) :: (25, .agg (cH O).toArray) :: (24, .agg (cI kk).toArray) :: (23, .map (some mb)) :: (22, .pointer (some ⟨vb, 0 + 1, none⟩)) :: (21, .pointer (some ⟨vb, 0, none⟩)) :: (20, .pointer (some ⟨vb, 0, none⟩)) :: (19, v10) :: _) (fun w1 => ((true = true → Vec 5 1 (.slice a26 O.bs.length c26) (O.bs).length ((O.bs).map u8) l26) ∧ (true = true → true = true)) ∧ St w [vb, mb] ((bif true then l26 else []) ++ ((bif true then [(x27, cb (cT O.key O.ver (.slice a26 O.bs.length c26)) 28)] else []) ++ ((b5, cb (cI kk) 23) :: (l10 ++ (lpsH ys ++ (lk ++ ((Bm, cb [.map (some mb)] 97) :: (vb, vaO lv mb inc) :: (mb, .map es ck) :: []))))))) w1)
   refine J.pr (fun hF => ?_)
   have hv26 := hF.1 rfl
   refine J.conseq (I' := St w [vb, mb] (l10 ++ ((x27, cb (cT O.key O.ver (.slice a26 O.bs.length c26)) 28) :: (l26 ++ ((b5, cb (cI kk) 23) :: (lpsH ys ++ (lk ++ ((Bm, cb [.map (some mb)] 97) :: (vb, vaO lv mb inc) :: (mb, .map es ck) :: [])))))))) ?_ (fun w1 hw => (by simp only [cond_true] at hw; exact hw.perm zp))
   refine J.append (lp := l10) (xs := ys.flatMap cH) (ys := cT O.key O.ver (.slice a26 O.bs.length c26)) (k := ys.length) (m := 1) Ty.el44 Ty.s28 Ty.b28 Ty.zIt rfl (.inl ⟨28, Ty.u44⟩) rfl rfl hv10 (fun w1 hw => .inl (Row.own (cs := cT O.key O.ver (.slice a26 O.bs.length c26)) (tb := 28) (fr := (0, 0)) hw (List.mem_append_right _ (.head _)) (List.take_of_length_le (Nat.le_refl _)) (Nat.le_refl _))) rfl one_cT (by omega) (by omega) rfl (fun v28 l28 hv28 => ?_)
   rw [show ys.flatMap cH ++ cT O.key O.ver (.slice a26 O.bs.length c26) = (ys ++ [(⟨O.key, O.ver, O.bs, .slice a26 O.bs.length c26, l26⟩ : HI)]).flatMap cH by rw [List.flatMap_append]; rfl, show ys.length + 1 = (ys ++ [(⟨O.key, O.ver, O.bs, .slice a26 O.bs.length c26, l26⟩ : HI)]).length by rw [List.length_append]; rfl] at hv28
   refine J.assign rfl rfl ?_; refine J.nil ?_; refine JX.blockN ?_; refine JX.thenN (hK8 _ _ ?_); refine JC.region ?_
   (first | refine J.addN rfl rfl (by omega) (by omega) rfl ?_ | refine J.bin rfl rfl rfl rfl ?_)
   refine J.move rfl rfl ?_; refine J.nil ?_; refine JX.thenN ?_; refine JX.again (⟨i + 1, ys ++ [⟨O.key, O.ver, O.bs, .slice a26 O.bs.length c26, l26⟩], v28, l28⟩ : AlS) ?_ ?_ ?_
   ·simp only; omega
   ·exact ⟨rfl, rfl, rfl, rfl, rfl, trivial⟩
   ·exact fun w1 hw => ⟨⟨hlt, by simp only; rw [List.map_append, hys, List.take_add_one, hkk, List.map_append]; simp only [Option.toList_some, List.map_cons, List.map_nil, hO, HI.it], fun y hy => by
     rcases List.mem_append.1 hy with hy | hy
     ·exact hok y hy
     ·rw [List.mem_singleton.1 hy]; exact ⟨hon, hv26⟩, hv28⟩, (hw.perm (by simp only [lpsH, List.flatMap_append, List.flatMap_cons, List.flatMap_nil, List.append_nil]; exact zp : List.Perm _ ([(x27, cb (cT O.key O.ver (.slice a26 O.bs.length c26)) 28), (b5, cb (cI kk) 23)] ++ (l28 ++ (lpsH (ys ++ [⟨O.key, O.ver, O.bs, .slice a26 O.bs.length c26, l26⟩]) ++ (lk ++ ((Bm, cb [.map (some mb)] 97) :: (vb, vaO lv mb inc) :: (mb, .map es ck) :: []))))))).drop (List.sublist_append_right _ _)⟩
 ·have hge : i = ks.length := by simp at h1; omega
  rw [hge, List.take_of_length_le (Nat.le_refl _)] at hys
  refine JC.exit ?_; refine JX.thenE ?_; refine JX.thenE ?_; refine JX.blockE ?_; refine JX.thenN (hK4 _ _ ?_); refine JC.seq (fun K10 hK10 => ?_); refine JC.region ?_; refine J.move rfl rfl ?_; refine J.assign rfl rfl ?_; refine J.nil ?_; refine JX.thenN (hK10 _ _ ?_); refine JC.ret ?_; refine JX.ret1 rfl rfl (fun w hw => ?_)
  exact ⟨(ys, v10, l10), rfl, ⟨by simp only; rw [hys]; exact all_srt hT.nodup hkp hks, hok, hv10⟩, (hw.perm (zp : List.Perm _ ((lk ++ [(Bm, cb [.map (some mb)] 97)]) ++ (l10 ++ (lpsH ys ++ [(vb, vaO lv mb inc), (mb, .map es ck)]))))).drop (List.sublist_append_right _ _)⟩

end Go.Proofs.Ytoaenmlhehcjfaa
/-
 The document's Same, the law's one: contracts.
-/
namespace Go.Proofs.Ytoaenmlhehcjfaa
open Go.J Go.RowKit
set_option linter.unusedVariables false
set_option linter.unusedSimpArgs false
set_option maxRecDepth 8000
theorem itemF_at {w : World} {b o k c i q r : Nat} {xs : List HI} {x : HI} {vs : List Value} (h : Row w (.slice (some ⟨b, o, none⟩) k c) k (xs.flatMap cH)) (hx : xs[i]? = some x) (hv : ((cH x).drop r).take vs.length = vs) (hq : q = o + i * 34 + r) : Cells w b q vs := by
 have h1 := rowG_at (c := cH) (sz := 34) (fun _ => rfl) h hx (q := o + i * 34) rfl
 subst hq
 intro j hj
 have e : vs[j]? = ((cH x).drop r)[j]? := by
  have h2 : (((cH x).drop r).take vs.length)[j]? = ((cH x).drop r)[j]? := List.getElem?_take_of_lt hj
  rw [hv] at h2; exact h2
 rw [e, List.getElem?_drop]
 have hl : r + j < (cH x).length := by
  have := congrArg List.length hv
  rw [List.length_take, List.length_drop] at this
  omega
 rw [show o + i * 34 + r + j = o + i * 34 + (r + j) by omega]
 exact h1 (r + j) hl
theorem take_it {xa : List HI} {i : Nat} {x : HI} (h : xa[i]? = some x) : (xa.take (i + 1)).map HI.it = (xa.take i).map HI.it ++ [x.it] := by
 rw [List.take_add_one, h, List.map_append]; rfl
theorem differ {xa bs : List HI} {i : Nat} {x y : HI} (hx : xa[i]? = some x) (hy : bs[i]? = some y) (h : x.it ≠ y.it) : ¬ xa.map HI.it = bs.map HI.it := fun e => by
 have h1 := congrArg (fun l => l[i]?) e
 simp only [List.getElem?_map, hx, hy, Option.map_some, Option.some.injEq] at h1
 exact h h1

set_option maxHeartbeats 1000000 in
theorem rsame_spec (v1 v2 : Value) (xa bs : List HI) (w : World) (hr1 : Row w v1 xa.length (xa.flatMap cH)) (hr2 : Row w v2 bs.length (bs.flatMap cH)) (he1 : (∀ x, x ∈ xa → (∃ a c, x.sv = .slice a x.bs.length c) ∧ Row w x.sv x.bs.length (x.bs.map u8) ∧ okN x.ver.n)) (he2 : (∀ x, x ∈ bs → (∃ a c, x.sv = .slice a x.bs.length c) ∧ Row w x.sv x.bs.length (x.bs.map u8) ∧ okN x.ver.n)) (hl1 : xa.length ≤ 100000) (hl2 : bs.length ≤ 100000) :
  Calls Try.prog 32 [v1, v2].toArray w fun r w' => r = .returned (.bool (decide (xa.map HI.it = bs.map HI.it))) ∧ Bel w w' := by
 obtain ⟨a1, c1, rfl, hc1, _⟩ := id hr1
 obtain ⟨a2, c2, rfl, hc2, _⟩ := id hr2
 refine calls_of_J (args := [.slice a1 xa.length c1, .slice a2 bs.length c2]) (e := [(0, .slice a1 xa.length c1), (1, .slice a2 bs.length c2)]) Try.func32 rfl rfl ⟨rfl, rfl, trivial⟩ (St.start w) ?_; refine JC.seq (fun K0 hK0 => ?_); refine JC.region ?_; refine J.assign rfl rfl ?_; refine J.nil ?_; refine JX.thenN (hK0 _ _ ?_); refine JC.seq (fun K1 hK1 => ?_); refine JC.seq (fun K2 hK2 => ?_); refine JC.region ?_; refine J.move rfl rfl ?_; refine J.lenS rfl Ty.u44 rfl rfl ?_; refine J.move rfl rfl ?_; refine J.lenS rfl Ty.u44 rfl rfl ?_; refine J.bin rfl rfl rfl rfl ?_; refine J.nil ?_; refine JX.thenN (hK2 _ _ ?_); refine JC.cond rfl (fun h0 => ?_) (fun h0 => ?_)
 ·have hg : ¬ xa.map HI.it = bs.map HI.it := fun e => by
   have := congrArg List.length e
   rw [List.length_map, List.length_map] at this
   simp at h0; omega
  refine JC.seq (fun K3 hK3 => ?_); refine JC.region ?_; refine J.assign rfl rfl ?_; refine J.nil ?_; refine JX.thenN (hK3 _ _ ?_); refine JC.ret ?_; refine JX.thenR ?_; refine JX.ret1 rfl rfl (fun w hw => ?_)
  first
  | exact ⟨by rw [decide_eq_true hg], hw.below⟩
  | exact ⟨by rw [decide_eq_false hg], hw.below⟩
 ·have hll : xa.length = bs.length := by simp at h0; omega
  refine JC.skip ?_; refine JX.thenN (hK1 _ _ ?_); refine JC.seq (fun K4 hK4 => ?_); refine JC.seq (fun K5 hK5 => ?_); refine JC.region ?_; refine J.assign rfl rfl ?_; refine J.nil ?_; refine JX.thenN (hK5 _ _ ?_); refine JC.block ?_
  refine JC.conseq (JC.cov (f := (fun i => [(0, .slice a1 xa.length c1), (1, .slice a2 bs.length c2), (5, .int .i64 ((i : Nat) : Int))]) 0) ⟨rfl, rfl, rfl, trivial⟩ (JC.loop (α := Nat) (fun i => [(0, .slice a1 xa.length c1), (1, .slice a2 bs.length c2), (5, .int .i64 ((i : Nat) : Int))]) (fun i w' => (i ≤ xa.length ∧ (xa.take i).map HI.it = (bs.take i).map HI.it) ∧ St w [] [] w') (fun i => xa.length - i) 0 (fun i => ?_))) (fun w hw => ⟨⟨Nat.zero_le _, rfl⟩, hw⟩)
  refine JC.pr (fun hI => ?_)
  obtain ⟨hi, hti⟩ := hI
  refine JC.seq (fun K6 hK6 => ?_); refine JC.seq (fun K7 hK7 => ?_); refine JC.region ?_; refine J.move rfl rfl ?_; refine J.move rfl rfl ?_; refine J.lenS rfl Ty.u44 rfl rfl ?_; refine J.bin rfl rfl rfl rfl ?_; refine J.nil ?_; refine JX.thenN (hK7 _ _ ?_); refine JC.cond rfl (fun h1 => ?_) (fun h1 => ?_)
  ·have hlt : i < xa.length := by simp at h1; omega
   obtain ⟨x, hxg⟩ : ∃ x, xa[i]? = some x := ⟨_, List.getElem?_eq_getElem hlt⟩
   obtain ⟨y, hyg⟩ : ∃ x, bs[i]? = some x := ⟨_, List.getElem?_eq_getElem (by omega)⟩
   obtain ⟨⟨ax, cx, hsx⟩, hxr, hvx⟩ := he1 x (List.mem_of_getElem? hxg)
   obtain ⟨⟨ay, cy, hsy⟩, hyr, hvy⟩ := he2 y (List.mem_of_getElem? hyg)
   obtain ⟨kx, vx, bx, sx, lx⟩ := x
   obtain ⟨ky, vy, by_, sy, ly⟩ := y
   simp only at hsx hsy hxr hyr hvx hvy
   subst hsx hsy
   obtain ⟨q1, o1, c1', hv1, -, -⟩ := hr1.some (by rw [cHs_len]; omega)
   simp only [Value.slice.injEq] at hv1
   obtain ⟨rfl, -, -⟩ := hv1
   obtain ⟨q2, o2, c2', hv2, -, -⟩ := hr2.some (by rw [cHs_len]; omega)
   simp only [Value.slice.injEq] at hv2
   obtain ⟨rfl, -, -⟩ := hv2
   refine JC.skip ?_; refine JX.thenN (hK6 _ _ ?_); refine JC.seq (fun K8 hK8 => ?_); refine JC.block ?_; refine JC.seq (fun K9 hK9 => ?_)
   by_cases e1 : kx = ky
   ·by_cases e2 : vx = vy
    ·by_cases e3 : bx = by_
     ·apply JC.drawX (α := Nat × Unit) 39 (fun x => match x with | ⟨xu, uu⟩ => [.slice (some ⟨q1, o1, none⟩) xa.length c1, .int .i64 ((i : Nat) : Int), .pointer (some ⟨q1, o1 + ((i : Nat) : Int).toNat * 34, none⟩), .pointer (some ⟨q1, o1 + ((i : Nat) : Int).toNat * 34 + 0, none⟩), .agg (cI kx).toArray, .slice (some ⟨q2, o2, none⟩) bs.length c2, .int .i64 ((i : Nat) : Int), .pointer (some ⟨q2, o2 + ((i : Nat) : Int).toNat * 34, none⟩), .pointer (some ⟨q2, o2 + ((i : Nat) : Int).toNat * 34 + 0, none⟩), .agg (cI ky).toArray, .bool false, .bool false, .slice (some ⟨q1, o1, none⟩) xa.length c1, .int .i64 ((i : Nat) : Int), .pointer (some ⟨q1, o1 + ((i : Nat) : Int).toNat * 34, none⟩), .pointer (some ⟨q1, o1 + ((i : Nat) : Int).toNat * 34 + 16, none⟩), .agg (cV vx).toArray, .slice (some ⟨q2, o2, none⟩) bs.length c2, .int .i64 ((i : Nat) : Int), .pointer (some ⟨q2, o2 + ((i : Nat) : Int).toNat * 34, none⟩), .pointer (some ⟨q2, o2 + ((i : Nat) : Int).toNat * 34 + 16, none⟩), .agg (cV vy).toArray, .bool false, .bool false, .bool false, .slice (some ⟨q1, o1, none⟩) xa.length c1, .int .i64 ((i : Nat) : Int), .pointer (some ⟨q1, o1 + ((i : Nat) : Int).toNat * 34, none⟩), .pointer (some ⟨q1, o1 + ((i : Nat) : Int).toNat * 34 + 33, none⟩), (.slice ax bx.length cx), .string (str bx), .slice (some ⟨q2, o2, none⟩) bs.length c2, .int .i64 ((i : Nat) : Int), .pointer (some ⟨q2, o2 + ((i : Nat) : Int).toNat * 34, none⟩), .pointer (some ⟨q2, o2 + ((i : Nat) : Int).toNat * 34 + 33, none⟩), (.slice ay by_.length cy), .string (str by_), .bool false, .bool false]) (fun m x => match x with | ⟨xu, uu⟩ => fun w1 => (True) ∧ St w [] ([]) w1) Ty.mixed rfl rfl rfl (by kernel_rfl) rfl rfl ?hinit ?hstep ?htail
      case hinit => exact fun w1 hw => ⟨(0, ()), trivial, hw.drew⟩
      case hstep =>
       refine ⟨fun m x hm hp => ?_, fun m x hm hp => ?_, fun m x hm hp => ?_, fun m x hm hp => ?_, fun m x hm hp => ?_, fun m x hm hp => ?_, fun m x hm hp => ?_, fun m x hm hp => ?_, fun m x hm hp => ?_, fun m x hm hp => ?_, fun m x hm hp => ?_, fun m x hm hp => ?_, fun m x hm hp => ?_, fun m x hm hp => ?_, fun m x hm hp => ?_, fun m x hm hp => ?_, fun m x hm hp => ?_, fun m x hm hp => ?_, fun m x hm hp => ?_, fun m x hm hp => ?_, fun m x hm hp => ?_, fun m x hm hp => ?_, fun m x hm hp => ?_, fun m x hm hp => ?_, fun m x hm hp => ?_, fun m x hm hp => ?_, fun m x hm hp => ?_, fun m x hm hp => ?_, fun m x hm hp => ?_, fun m x hm hp => ?_, fun m x hm hp => ?_, fun m x hm hp => ?_, fun m x hm hp => ?_, fun m x hm hp => ?_, fun m x hm hp => ?_, fun m x hm hp => ?_, fun m x hm hp => ?_, fun m x hm hp => ?_, fun m x hm hp => ?_, trivial⟩
       ·obtain ⟨xu, uu⟩ := x
        show J _ _ _ _ _ (_) _
        refine J.pr (fun hF => ?_); refine J.move rfl rfl ?_
        exact J.finX rfl (fun _ hw => ⟨⟨xu, uu⟩, rfl, fun _ _ _ => rfl, hF, hw⟩)
       ·obtain ⟨xu, uu⟩ := x
        show J _ _ _ _ _ (_) _
        refine J.pr (fun hF => ?_); refine J.move rfl rfl ?_
        exact J.finX rfl (fun _ hw => ⟨⟨xu, uu⟩, rfl, fun _ _ _ => rfl, hF, hw⟩)
       ·obtain ⟨xu, uu⟩ := x
        show J _ _ _ _ _ ((18, .int .i64 ((i : Nat) : Int)) :: (17, .slice (some ⟨q1, o1, none⟩) xa.length c1) :: _) _
        refine J.pr (fun hF => ?_); refine J.indexAddrS Ty.el44 Ty.s28 rfl rfl (by omega) (by omega) rfl ?_
        exact J.finX rfl (fun _ hw => ⟨⟨xu, uu⟩, rfl, fun _ _ _ => rfl, hF, hw⟩)
       ·obtain ⟨xu, uu⟩ := x
        show J _ _ _ _ _ ((19, .pointer (some ⟨q1, o1 + ((i : Nat) : Int).toNat * 34, none⟩)) :: _) _
        refine J.pr (fun hF => ?_); refine J.fieldAddr Ty.fd28_0 rfl rfl ?_
        exact J.finX rfl (fun _ hw => ⟨⟨xu, uu⟩, rfl, fun _ _ _ => rfl, hF, hw⟩)
       ·obtain ⟨xu, uu⟩ := x
        show J _ _ _ _ _ ((20, .pointer (some ⟨q1, o1 + ((i : Nat) : Int).toNat * 34 + 0, none⟩)) :: _) _
        refine J.pr (fun hF => ?_); refine J.loadA (vs := cI kx) Ty.a23 Ty.s23 rfl rfl (fun w1 hw => itemF_at (r := 0) (hr1.below (hw.drop (List.nil_sublist _)).below) hxg rfl (by rw [Int.toNat_natCast])) rfl ?_
        exact J.finX rfl (fun _ hw => ⟨⟨xu, uu⟩, rfl, fun _ _ _ => rfl, hF, hw⟩)
       ·obtain ⟨xu, uu⟩ := x
        show J _ _ _ _ _ (_) _
        refine J.pr (fun hF => ?_); refine J.move rfl rfl ?_
        exact J.finX rfl (fun _ hw => ⟨⟨xu, uu⟩, rfl, fun _ _ _ => rfl, hF, hw⟩)
       ·obtain ⟨xu, uu⟩ := x
        show J _ _ _ _ _ (_) _
        refine J.pr (fun hF => ?_); refine J.move rfl rfl ?_
        exact J.finX rfl (fun _ hw => ⟨⟨xu, uu⟩, rfl, fun _ _ _ => rfl, hF, hw⟩)
       ·obtain ⟨xu, uu⟩ := x
        show J _ _ _ _ _ ((23, .int .i64 ((i : Nat) : Int)) :: (22, .slice (some ⟨q2, o2, none⟩) bs.length c2) :: _) _
        refine J.pr (fun hF => ?_); refine J.indexAddrS Ty.el44 Ty.s28 rfl rfl (by omega) (by omega) rfl ?_
        exact J.finX rfl (fun _ hw => ⟨⟨xu, uu⟩, rfl, fun _ _ _ => rfl, hF, hw⟩)
       ·obtain ⟨xu, uu⟩ := x
        show J _ _ _ _ _ ((24, .pointer (some ⟨q2, o2 + ((i : Nat) : Int).toNat * 34, none⟩)) :: _) _
        refine J.pr (fun hF => ?_); refine J.fieldAddr Ty.fd28_0 rfl rfl ?_
        exact J.finX rfl (fun _ hw => ⟨⟨xu, uu⟩, rfl, fun _ _ _ => rfl, hF, hw⟩)
       ·obtain ⟨xu, uu⟩ := x
        show J _ _ _ _ _ ((25, .pointer (some ⟨q2, o2 + ((i : Nat) : Int).toNat * 34 + 0, none⟩)) :: _) _
        refine J.pr (fun hF => ?_); refine J.loadA (vs := cI ky) Ty.a23 Ty.s23 rfl rfl (fun w1 hw => itemF_at (r := 0) (hr2.below (hw.drop (List.nil_sublist _)).below) hyg rfl (by rw [Int.toNat_natCast])) rfl ?_
        exact J.finX rfl (fun _ hw => ⟨⟨xu, uu⟩, rfl, fun _ _ _ => rfl, hF, hw⟩)
       ·obtain ⟨xu, uu⟩ := x
        show J _ _ _ _ _ ((26, .agg (cI ky).toArray) :: (21, .agg (cI kx).toArray) :: _) _
        refine J.pr (fun hF => ?_); refine J.neI Ty.QI Ty.keyI rfl rfl rfl ?_; refine J.name 27 rfl (show _ = Value.bool false by simp [e1]) ?_
        exact J.finX rfl (fun _ hw => ⟨⟨xu, uu⟩, rfl, fun _ _ _ => rfl, hF, hw⟩)
       ·obtain ⟨xu, uu⟩ := x
        show J _ _ _ _ _ ((27, .bool false) :: _) _
        refine J.pr (fun hF => ?_); refine J.move rfl rfl ?_
        exact J.finX rfl (fun _ hw => ⟨⟨xu, uu⟩, rfl, fun _ _ _ => rfl, hF, hw⟩)
       ·obtain ⟨xu, uu⟩ := x
        show J _ _ _ _ _ ((28, .bool false) :: _) _
        refine J.pr (fun hF => ?_)
        first | refine J.skip rfl rfl rfl rfl rfl ?_ | refine J.skipU rfl rfl rfl rfl ?_ | (refine J.unguard rfl rfl rfl ?_; refine J.move rfl rfl ?_)
        exact J.finX rfl (fun _ hw => ⟨⟨xu, uu⟩, rfl, fun _ _ _ => rfl, hF, hw⟩)
       ·obtain ⟨xu, uu⟩ := x
        show J _ _ _ _ _ ((28, .bool false) :: _) _
        refine J.pr (fun hF => ?_)
        first | refine J.skip rfl rfl rfl rfl rfl ?_ | refine J.skipU rfl rfl rfl rfl ?_ | (refine J.unguard rfl rfl rfl ?_; refine J.move rfl rfl ?_)
        exact J.finX rfl (fun _ hw => ⟨⟨xu, uu⟩, rfl, fun _ _ _ => rfl, hF, hw⟩)
       ·obtain ⟨xu, uu⟩ := x
        show J _ _ _ _ _ ((28, .bool false) :: (30, .int .i64 ((i : Nat) : Int)) :: (29, .slice (some ⟨q1, o1, none⟩) xa.length c1) :: _) _
        refine J.pr (fun hF => ?_); refine J.unguard rfl rfl rfl ?_; refine J.indexAddrS Ty.el44 Ty.s28 rfl rfl (by omega) (by omega) rfl ?_
        exact J.finX rfl (fun _ hw => ⟨⟨xu, uu⟩, rfl, fun _ _ _ => rfl, hF, hw⟩)
       ·obtain ⟨xu, uu⟩ := x
        show J _ _ _ _ _ ((28, .bool false) :: (31, .pointer (some ⟨q1, o1 + ((i : Nat) : Int).toNat * 34, none⟩)) :: _) _
        refine J.pr (fun hF => ?_)
        first | refine J.skip rfl rfl rfl rfl rfl ?_ | refine J.skipU rfl rfl rfl rfl ?_ | (refine J.unguard rfl rfl rfl ?_; refine J.fieldAddr Ty.fd28_1 rfl rfl ?_)
        exact J.finX rfl (fun _ hw => ⟨⟨xu, uu⟩, rfl, fun _ _ _ => rfl, hF, hw⟩)
       ·obtain ⟨xu, uu⟩ := x
        show J _ _ _ _ _ ((28, .bool false) :: (32, .pointer (some ⟨q1, o1 + ((i : Nat) : Int).toNat * 34 + 16, none⟩)) :: _) _
        refine J.pr (fun hF => ?_); refine J.unguard rfl rfl rfl ?_; refine J.loadA (vs := cV vx) Ty.a25 Ty.s25 rfl rfl (fun w1 hw => itemF_at (r := 16) (hr1.below (hw.drop (List.nil_sublist _)).below) hxg rfl (by rw [Int.toNat_natCast])) rfl ?_
        exact J.finX rfl (fun _ hw => ⟨⟨xu, uu⟩, rfl, fun _ _ _ => rfl, hF, hw⟩)
       ·obtain ⟨xu, uu⟩ := x
        show J _ _ _ _ _ ((28, .bool false) :: _) _
        refine J.pr (fun hF => ?_)
        first | refine J.skip rfl rfl rfl rfl rfl ?_ | refine J.skipU rfl rfl rfl rfl ?_ | (refine J.unguard rfl rfl rfl ?_; refine J.move rfl rfl ?_)
        exact J.finX rfl (fun _ hw => ⟨⟨xu, uu⟩, rfl, fun _ _ _ => rfl, hF, hw⟩)
       ·obtain ⟨xu, uu⟩ := x
        show J _ _ _ _ _ ((28, .bool false) :: _) _
        refine J.pr (fun hF => ?_)
        first | refine J.skip rfl rfl rfl rfl rfl ?_ | refine J.skipU rfl rfl rfl rfl ?_ | (refine J.unguard rfl rfl rfl ?_; refine J.move rfl rfl ?_)
        exact J.finX rfl (fun _ hw => ⟨⟨xu, uu⟩, rfl, fun _ _ _ => rfl, hF, hw⟩)
       ·obtain ⟨xu, uu⟩ := x
        show J _ _ _ _ _ ((28, .bool false) :: (35, .int .i64 ((i : Nat) : Int)) :: (34, .slice (some ⟨q2, o2, none⟩) bs.length c2) :: _) _
        refine J.pr (fun hF => ?_); refine J.unguard rfl rfl rfl ?_; refine J.indexAddrS Ty.el44 Ty.s28 rfl rfl (by omega) (by omega) rfl ?_
        exact J.finX rfl (fun _ hw => ⟨⟨xu, uu⟩, rfl, fun _ _ _ => rfl, hF, hw⟩)
       ·obtain ⟨xu, uu⟩ := x
        show J _ _ _ _ _ ((28, .bool false) :: (36, .pointer (some ⟨q2, o2 + ((i : Nat) : Int).toNat * 34, none⟩)) :: _) _
        refine J.pr (fun hF => ?_)
        first | refine J.skip rfl rfl rfl rfl rfl ?_ | refine J.skipU rfl rfl rfl rfl ?_ | (refine J.unguard rfl rfl rfl ?_; refine J.fieldAddr Ty.fd28_1 rfl rfl ?_)
        exact J.finX rfl (fun _ hw => ⟨⟨xu, uu⟩, rfl, fun _ _ _ => rfl, hF, hw⟩)
       ·obtain ⟨xu, uu⟩ := x
        show J _ _ _ _ _ ((28, .bool false) :: (37, .pointer (some ⟨q2, o2 + ((i : Nat) : Int).toNat * 34 + 16, none⟩)) :: _) _
        refine J.pr (fun hF => ?_); refine J.unguard rfl rfl rfl ?_; refine J.loadA (vs := cV vy) Ty.a25 Ty.s25 rfl rfl (fun w1 hw => itemF_at (r := 16) (hr2.below (hw.drop (List.nil_sublist _)).below) hyg rfl (by rw [Int.toNat_natCast])) rfl ?_
        exact J.finX rfl (fun _ hw => ⟨⟨xu, uu⟩, rfl, fun _ _ _ => rfl, hF, hw⟩)
       ·obtain ⟨xu, uu⟩ := x
        show J _ _ _ _ _ ((28, .bool false) :: (38, .agg (cV vy).toArray) :: (33, .agg (cV vx).toArray) :: _) _
        refine J.pr (fun hF => ?_); refine J.unguard rfl rfl rfl ?_; refine J.neV rfl rfl hvx hvy rfl ?_; refine J.name 39 rfl (show _ = Value.bool false by simp [e2]) ?_
        exact J.finX rfl (fun _ hw => ⟨⟨xu, uu⟩, rfl, fun _ _ _ => rfl, hF, hw⟩)
       ·obtain ⟨xu, uu⟩ := x
        show J _ _ _ _ _ ((39, .bool false) :: (28, .bool false) :: _) _
        refine J.pr (fun hF => ?_)
        (first | refine J.pickT rfl rfl rfl ?_ | refine J.pickF rfl rfl rfl ?_)
        exact J.finX rfl (fun _ hw => ⟨⟨xu, uu⟩, rfl, fun _ _ _ => rfl, hF, hw⟩)
       ·obtain ⟨xu, uu⟩ := x
        show J _ _ _ _ _ ((28, .bool false) :: (40, .bool false) :: _) _
        refine J.pr (fun hF => ?_); refine J.move rfl rfl ?_
        exact J.finX rfl (fun _ hw => ⟨⟨xu, uu⟩, rfl, fun _ _ _ => rfl, hF, hw⟩)
       ·obtain ⟨xu, uu⟩ := x
        show J _ _ _ _ _ ((41, .bool false) :: _) _
        refine J.pr (fun hF => ?_)
        first | refine J.skip rfl rfl rfl rfl rfl ?_ | refine J.skipU rfl rfl rfl rfl ?_ | (refine J.unguard rfl rfl rfl ?_; refine J.move rfl rfl ?_)
        exact J.finX rfl (fun _ hw => ⟨⟨xu, uu⟩, rfl, fun _ _ _ => rfl, hF, hw⟩)
       ·obtain ⟨xu, uu⟩ := x
        show J _ _ _ _ _ ((41, .bool false) :: _) _
        refine J.pr (fun hF => ?_)
        first | refine J.skip rfl rfl rfl rfl rfl ?_ | refine J.skipU rfl rfl rfl rfl ?_ | (refine J.unguard rfl rfl rfl ?_; refine J.move rfl rfl ?_)
        exact J.finX rfl (fun _ hw => ⟨⟨xu, uu⟩, rfl, fun _ _ _ => rfl, hF, hw⟩)
       ·obtain ⟨xu, uu⟩ := x
        show J _ _ _ _ _ ((41, .bool false) :: (43, .int .i64 ((i : Nat) : Int)) :: (42, .slice (some ⟨q1, o1, none⟩) xa.length c1) :: _) _
        refine J.pr (fun hF => ?_); refine J.unguard rfl rfl rfl ?_; refine J.indexAddrS Ty.el44 Ty.s28 rfl rfl (by omega) (by omega) rfl ?_
        exact J.finX rfl (fun _ hw => ⟨⟨xu, uu⟩, rfl, fun _ _ _ => rfl, hF, hw⟩)
       ·obtain ⟨xu, uu⟩ := x
        show J _ _ _ _ _ ((41, .bool false) :: (44, .pointer (some ⟨q1, o1 + ((i : Nat) : Int).toNat * 34, none⟩)) :: _) _
        refine J.pr (fun hF => ?_)
        first | refine J.skip rfl rfl rfl rfl rfl ?_ | refine J.skipU rfl rfl rfl rfl ?_ | (refine J.unguard rfl rfl rfl ?_; refine J.fieldAddr Ty.fd28_2 rfl rfl ?_)
        exact J.finX rfl (fun _ hw => ⟨⟨xu, uu⟩, rfl, fun _ _ _ => rfl, hF, hw⟩)
       ·obtain ⟨xu, uu⟩ := x
        show J _ _ _ _ _ ((41, .bool false) :: (45, .pointer (some ⟨q1, o1 + ((i : Nat) : Int).toNat * 34 + 33, none⟩)) :: _) _
        refine J.pr (fun hF => ?_); refine J.unguard rfl rfl rfl ?_; refine J.load1 (v := (.slice ax bx.length cx)) Ty.a26 rfl (fun w1 hw => (itemF_at (r := 33) (q := o1 + ((i : Nat) : Int).toNat * 34 + 33) (vs := [(.slice ax bx.length cx)]) (hr1.below (hw.drop (List.nil_sublist _)).below) hxg rfl (by rw [Int.toNat_natCast]) 0 Nat.one_pos : _)) rfl ?_
        exact J.finX rfl (fun _ hw => ⟨⟨xu, uu⟩, rfl, fun _ _ _ => rfl, hF, hw⟩)
       ·obtain ⟨xu, uu⟩ := x
        show J _ _ _ _ _ ((41, .bool false) :: (46, (.slice ax bx.length cx)) :: _) _
        refine J.pr (fun hF => ?_); refine J.unguard rfl rfl rfl ?_; refine J.toStr (m := bx.length) (bs := bx) Ty.el26 Ty.u5 Ty.u9 rfl (fun w1 hw => (hxr.below (hw.drop (List.nil_sublist _)).below)) rfl rfl ?_
        exact J.finX rfl (fun _ hw => ⟨⟨xu, uu⟩, rfl, fun _ _ _ => rfl, hF, hw⟩)
       ·obtain ⟨xu, uu⟩ := x
        show J _ _ _ _ _ ((41, .bool false) :: _) _
        refine J.pr (fun hF => ?_)
        first | refine J.skip rfl rfl rfl rfl rfl ?_ | refine J.skipU rfl rfl rfl rfl ?_ | (refine J.unguard rfl rfl rfl ?_; refine J.move rfl rfl ?_)
        exact J.finX rfl (fun _ hw => ⟨⟨xu, uu⟩, rfl, fun _ _ _ => rfl, hF, hw⟩)
       ·obtain ⟨xu, uu⟩ := x
        show J _ _ _ _ _ ((41, .bool false) :: _) _
        refine J.pr (fun hF => ?_)
        first | refine J.skip rfl rfl rfl rfl rfl ?_ | refine J.skipU rfl rfl rfl rfl ?_ | (refine J.unguard rfl rfl rfl ?_; refine J.move rfl rfl ?_)
        exact J.finX rfl (fun _ hw => ⟨⟨xu, uu⟩, rfl, fun _ _ _ => rfl, hF, hw⟩)
       ·obtain ⟨xu, uu⟩ := x
        show J _ _ _ _ _ ((41, .bool false) :: (49, .int .i64 ((i : Nat) : Int)) :: (48, .slice (some ⟨q2, o2, none⟩) bs.length c2) :: _) _
        refine J.pr (fun hF => ?_); refine J.unguard rfl rfl rfl ?_; refine J.indexAddrS Ty.el44 Ty.s28 rfl rfl (by omega) (by omega) rfl ?_
        exact J.finX rfl (fun _ hw => ⟨⟨xu, uu⟩, rfl, fun _ _ _ => rfl, hF, hw⟩)
       ·obtain ⟨xu, uu⟩ := x
        show J _ _ _ _ _ ((41, .bool false) :: (50, .pointer (some ⟨q2, o2 + ((i : Nat) : Int).toNat * 34, none⟩)) :: _) _
        refine J.pr (fun hF => ?_)
        first | refine J.skip rfl rfl rfl rfl rfl ?_ | refine J.skipU rfl rfl rfl rfl ?_ | (refine J.unguard rfl rfl rfl ?_; refine J.fieldAddr Ty.fd28_2 rfl rfl ?_)
        exact J.finX rfl (fun _ hw => ⟨⟨xu, uu⟩, rfl, fun _ _ _ => rfl, hF, hw⟩)
       ·obtain ⟨xu, uu⟩ := x
        show J _ _ _ _ _ ((41, .bool false) :: (51, .pointer (some ⟨q2, o2 + ((i : Nat) : Int).toNat * 34 + 33, none⟩)) :: _) _
        refine J.pr (fun hF => ?_); refine J.unguard rfl rfl rfl ?_; refine J.load1 (v := (.slice ay by_.length cy)) Ty.a26 rfl (fun w1 hw => (itemF_at (r := 33) (q := o2 + ((i : Nat) : Int).toNat * 34 + 33) (vs := [(.slice ay by_.length cy)]) (hr2.below (hw.drop (List.nil_sublist _)).below) hyg rfl (by rw [Int.toNat_natCast]) 0 Nat.one_pos : _)) rfl ?_
        exact J.finX rfl (fun _ hw => ⟨⟨xu, uu⟩, rfl, fun _ _ _ => rfl, hF, hw⟩)
       ·obtain ⟨xu, uu⟩ := x
        show J _ _ _ _ _ ((41, .bool false) :: (52, (.slice ay by_.length cy)) :: _) _
        refine J.pr (fun hF => ?_); refine J.unguard rfl rfl rfl ?_; refine J.toStr (m := by_.length) (bs := by_) Ty.el26 Ty.u5 Ty.u9 rfl (fun w1 hw => (hyr.below (hw.drop (List.nil_sublist _)).below)) rfl rfl ?_
        exact J.finX rfl (fun _ hw => ⟨⟨xu, uu⟩, rfl, fun _ _ _ => rfl, hF, hw⟩)
       ·obtain ⟨xu, uu⟩ := x
        show J _ _ _ _ _ ((41, .bool false) :: (53, .string (str by_)) :: (47, .string (str bx)) :: _) _
        refine J.pr (fun hF => ?_); refine J.unguard rfl rfl rfl ?_; refine J.strNe (xs := bx) (ys := by_) rfl rfl rfl ?_; refine J.name 54 rfl (show _ = Value.bool false by simp [e3]) ?_
        exact J.finX rfl (fun _ hw => ⟨⟨xu, uu⟩, rfl, fun _ _ _ => rfl, hF, hw⟩)
       ·obtain ⟨xu, uu⟩ := x
        show J _ _ _ _ _ ((54, .bool false) :: (41, .bool false) :: _) _
        refine J.pr (fun hF => ?_)
        (first | refine J.pickT rfl rfl rfl ?_ | refine J.pickF rfl rfl rfl ?_)
        exact J.finX rfl (fun _ hw => ⟨⟨xu, uu⟩, rfl, fun _ _ _ => rfl, hF, hw⟩)
      case htail =>
       intro x
       obtain ⟨xu, uu⟩ := x
       show J _ _ _ _ _ ((55, .bool false) :: (54, .bool false) :: (53, .string (str by_)) :: (52, (.slice ay by_.length cy)) :: (51, .pointer (some ⟨q2, o2 + ((i : Nat) : Int).toNat * 34 + 33, none⟩)) :: (50, .pointer (some ⟨q2, o2 + ((i : Nat) : Int).toNat * 34, none⟩)) :: (49, .int .i64 ((i : Nat) : Int)) :: (48, .slice (some ⟨q2, o2, none⟩) bs.length c2) :: (47, .string (str bx)) :: (46, (.slice ax bx.length cx)) :: (45, .pointer (some ⟨q1, o1 + ((i : Nat) : Int).toNat * 34 + 33, none⟩)) :: (44, .pointer (some ⟨q1, o1 + ((i : Nat) : Int).toNat * 34, none⟩)) :: (43, .int .i64 ((i : Nat) : Int)) :: (42, .slice (some ⟨q1, o1, none⟩) xa.length c1) :: (41, .bool false) :: (40, .bool false) :: (39, .bool false) :: (38, .agg (cV vy).toArray) :: (37, .pointer (some ⟨q2, o2 + ((i : Nat) : Int).toNat * 34 + 16, none⟩)) :: (36, .pointer (some ⟨q2, o2 + ((i : Nat) : Int).toNat * 34, none⟩)) :: (35, .int .i64 ((i : Nat) : Int)) :: (34, .slice (some ⟨q2, o2, none⟩) bs.length c2) :: (33, .agg (cV vx).toArray) :: (32, .pointer (some ⟨q1, o1 + ((i : Nat) : Int).toNat * 34 + 16, none⟩)) :: (31, .pointer (some ⟨q1, o1 + ((i : Nat) : Int).toNat * 34, none⟩)) :: (30, .int .i64 ((i : Nat) : Int)) :: (29, .slice (some ⟨q1, o1, none⟩) xa.length c1) :: (28, .bool false) :: (27, .bool false) :: (26, .agg (cI ky).toArray) :: (25, .pointer (some ⟨q2, o2 + ((i : Nat) : Int).toNat * 34 + 0, none⟩)) :: (24, .pointer (some ⟨q2, o2 + ((i : Nat) : Int).toNat * 34, none⟩)) :: (23, .int .i64 ((i : Nat) : Int)) :: (22, .slice (some ⟨q2, o2, none⟩) bs.length c2) :: (21, .agg (cI kx).toArray) :: (20, .pointer (some ⟨q1, o1 + ((i : Nat) : Int).toNat * 34 + 0, none⟩)) :: (19, .pointer (some ⟨q1, o1 + ((i : Nat) : Int).toNat * 34, none⟩)) :: (18, .int .i64 ((i : Nat) : Int)) :: (17, .slice (some ⟨q1, o1, none⟩) xa.length c1) :: _) (fun w1 => (True) ∧ St w [] ([]) w1)
       refine J.pr (fun hF => ?_); refine J.nil ?_; refine JX.thenN (hK9 _ _ ?_)
       first | refine JC.condF rfl ?_ | refine JC.cond rfl (fun h => by first | (exfalso; simp at h; omega) | (simp at h)) (fun _ => ?_)
       refine JC.skip ?_; refine JX.blockN ?_; refine JX.thenN (hK8 _ _ ?_); refine JC.region ?_; refine J.move rfl rfl ?_
       (first | refine J.addN rfl rfl (by omega) (by omega) rfl ?_ | refine J.bin rfl rfl rfl rfl ?_)
       refine J.assign rfl rfl ?_; refine J.nil ?_; refine JX.thenN ?_; refine JX.again (i + 1) ?_ ?_ ?_
       ·omega
       ·exact ⟨rfl, rfl, rfl, trivial⟩
       ·exact fun w1 hw => ⟨⟨hlt, by rw [take_it hxg, take_it hyg, hti]; simp [HI.it, e1, e2, e3]⟩, hw⟩
     ·have hg := differ hxg hyg (by simp [HI.it, e3])
      apply JC.drawX (α := Nat × Unit) 39 (fun x => match x with | ⟨xu, uu⟩ => [.slice (some ⟨q1, o1, none⟩) xa.length c1, .int .i64 ((i : Nat) : Int), .pointer (some ⟨q1, o1 + ((i : Nat) : Int).toNat * 34, none⟩), .pointer (some ⟨q1, o1 + ((i : Nat) : Int).toNat * 34 + 0, none⟩), .agg (cI kx).toArray, .slice (some ⟨q2, o2, none⟩) bs.length c2, .int .i64 ((i : Nat) : Int), .pointer (some ⟨q2, o2 + ((i : Nat) : Int).toNat * 34, none⟩), .pointer (some ⟨q2, o2 + ((i : Nat) : Int).toNat * 34 + 0, none⟩), .agg (cI ky).toArray, .bool false, .bool false, .slice (some ⟨q1, o1, none⟩) xa.length c1, .int .i64 ((i : Nat) : Int), .pointer (some ⟨q1, o1 + ((i : Nat) : Int).toNat * 34, none⟩), .pointer (some ⟨q1, o1 + ((i : Nat) : Int).toNat * 34 + 16, none⟩), .agg (cV vx).toArray, .slice (some ⟨q2, o2, none⟩) bs.length c2, .int .i64 ((i : Nat) : Int), .pointer (some ⟨q2, o2 + ((i : Nat) : Int).toNat * 34, none⟩), .pointer (some ⟨q2, o2 + ((i : Nat) : Int).toNat * 34 + 16, none⟩), .agg (cV vy).toArray, .bool false, .bool false, .bool false, .slice (some ⟨q1, o1, none⟩) xa.length c1, .int .i64 ((i : Nat) : Int), .pointer (some ⟨q1, o1 + ((i : Nat) : Int).toNat * 34, none⟩), .pointer (some ⟨q1, o1 + ((i : Nat) : Int).toNat * 34 + 33, none⟩), (.slice ax bx.length cx), .string (str bx), .slice (some ⟨q2, o2, none⟩) bs.length c2, .int .i64 ((i : Nat) : Int), .pointer (some ⟨q2, o2 + ((i : Nat) : Int).toNat * 34, none⟩), .pointer (some ⟨q2, o2 + ((i : Nat) : Int).toNat * 34 + 33, none⟩), (.slice ay by_.length cy), .string (str by_), .bool true, .bool true]) (fun m x => match x with | ⟨xu, uu⟩ => fun w1 => (True) ∧ St w [] ([]) w1) Ty.mixed rfl rfl rfl (by kernel_rfl) rfl rfl ?hinit ?hstep ?htail
      case hinit => exact fun w1 hw => ⟨(0, ()), trivial, hw.drew⟩
      case hstep =>
       refine ⟨fun m x hm hp => ?_, fun m x hm hp => ?_, fun m x hm hp => ?_, fun m x hm hp => ?_, fun m x hm hp => ?_, fun m x hm hp => ?_, fun m x hm hp => ?_, fun m x hm hp => ?_, fun m x hm hp => ?_, fun m x hm hp => ?_, fun m x hm hp => ?_, fun m x hm hp => ?_, fun m x hm hp => ?_, fun m x hm hp => ?_, fun m x hm hp => ?_, fun m x hm hp => ?_, fun m x hm hp => ?_, fun m x hm hp => ?_, fun m x hm hp => ?_, fun m x hm hp => ?_, fun m x hm hp => ?_, fun m x hm hp => ?_, fun m x hm hp => ?_, fun m x hm hp => ?_, fun m x hm hp => ?_, fun m x hm hp => ?_, fun m x hm hp => ?_, fun m x hm hp => ?_, fun m x hm hp => ?_, fun m x hm hp => ?_, fun m x hm hp => ?_, fun m x hm hp => ?_, fun m x hm hp => ?_, fun m x hm hp => ?_, fun m x hm hp => ?_, fun m x hm hp => ?_, fun m x hm hp => ?_, fun m x hm hp => ?_, fun m x hm hp => ?_, trivial⟩
       ·obtain ⟨xu, uu⟩ := x
        show J _ _ _ _ _ (_) _
        refine J.pr (fun hF => ?_); refine J.move rfl rfl ?_
        exact J.finX rfl (fun _ hw => ⟨⟨xu, uu⟩, rfl, fun _ _ _ => rfl, hF, hw⟩)
       ·obtain ⟨xu, uu⟩ := x
        show J _ _ _ _ _ (_) _
        refine J.pr (fun hF => ?_); refine J.move rfl rfl ?_
        exact J.finX rfl (fun _ hw => ⟨⟨xu, uu⟩, rfl, fun _ _ _ => rfl, hF, hw⟩)
       ·obtain ⟨xu, uu⟩ := x
        show J _ _ _ _ _ ((18, .int .i64 ((i : Nat) : Int)) :: (17, .slice (some ⟨q1, o1, none⟩) xa.length c1) :: _) _
        refine J.pr (fun hF => ?_); refine J.indexAddrS Ty.el44 Ty.s28 rfl rfl (by omega) (by omega) rfl ?_
        exact J.finX rfl (fun _ hw => ⟨⟨xu, uu⟩, rfl, fun _ _ _ => rfl, hF, hw⟩)
       ·obtain ⟨xu, uu⟩ := x
        show J _ _ _ _ _ ((19, .pointer (some ⟨q1, o1 + ((i : Nat) : Int).toNat * 34, none⟩)) :: _) _
        refine J.pr (fun hF => ?_); refine J.fieldAddr Ty.fd28_0 rfl rfl ?_
        exact J.finX rfl (fun _ hw => ⟨⟨xu, uu⟩, rfl, fun _ _ _ => rfl, hF, hw⟩)
       ·obtain ⟨xu, uu⟩ := x
        show J _ _ _ _ _ ((20, .pointer (some ⟨q1, o1 + ((i : Nat) : Int).toNat * 34 + 0, none⟩)) :: _) _
        refine J.pr (fun hF => ?_); refine J.loadA (vs := cI kx) Ty.a23 Ty.s23 rfl rfl (fun w1 hw => itemF_at (r := 0) (hr1.below (hw.drop (List.nil_sublist _)).below) hxg rfl (by rw [Int.toNat_natCast])) rfl ?_
        exact J.finX rfl (fun _ hw => ⟨⟨xu, uu⟩, rfl, fun _ _ _ => rfl, hF, hw⟩)
       ·obtain ⟨xu, uu⟩ := x
        show J _ _ _ _ _ (_) _
        refine J.pr (fun hF => ?_); refine J.move rfl rfl ?_
        exact J.finX rfl (fun _ hw => ⟨⟨xu, uu⟩, rfl, fun _ _ _ => rfl, hF, hw⟩)
       ·obtain ⟨xu, uu⟩ := x
        show J _ _ _ _ _ (_) _
        refine J.pr (fun hF => ?_); refine J.move rfl rfl ?_
        exact J.finX rfl (fun _ hw => ⟨⟨xu, uu⟩, rfl, fun _ _ _ => rfl, hF, hw⟩)
       ·obtain ⟨xu, uu⟩ := x
        show J _ _ _ _ _ ((23, .int .i64 ((i : Nat) : Int)) :: (22, .slice (some ⟨q2, o2, none⟩) bs.length c2) :: _) _
        refine J.pr (fun hF => ?_); refine J.indexAddrS Ty.el44 Ty.s28 rfl rfl (by omega) (by omega) rfl ?_
        exact J.finX rfl (fun _ hw => ⟨⟨xu, uu⟩, rfl, fun _ _ _ => rfl, hF, hw⟩)
       ·obtain ⟨xu, uu⟩ := x
        show J _ _ _ _ _ ((24, .pointer (some ⟨q2, o2 + ((i : Nat) : Int).toNat * 34, none⟩)) :: _) _
        refine J.pr (fun hF => ?_); refine J.fieldAddr Ty.fd28_0 rfl rfl ?_
        exact J.finX rfl (fun _ hw => ⟨⟨xu, uu⟩, rfl, fun _ _ _ => rfl, hF, hw⟩)
       ·obtain ⟨xu, uu⟩ := x
        show J _ _ _ _ _ ((25, .pointer (some ⟨q2, o2 + ((i : Nat) : Int).toNat * 34 + 0, none⟩)) :: _) _
        refine J.pr (fun hF => ?_); refine J.loadA (vs := cI ky) Ty.a23 Ty.s23 rfl rfl (fun w1 hw => itemF_at (r := 0) (hr2.below (hw.drop (List.nil_sublist _)).below) hyg rfl (by rw [Int.toNat_natCast])) rfl ?_
        exact J.finX rfl (fun _ hw => ⟨⟨xu, uu⟩, rfl, fun _ _ _ => rfl, hF, hw⟩)
       ·obtain ⟨xu, uu⟩ := x
        show J _ _ _ _ _ ((26, .agg (cI ky).toArray) :: (21, .agg (cI kx).toArray) :: _) _
        refine J.pr (fun hF => ?_); refine J.neI Ty.QI Ty.keyI rfl rfl rfl ?_; refine J.name 27 rfl (show _ = Value.bool false by simp [e1]) ?_
        exact J.finX rfl (fun _ hw => ⟨⟨xu, uu⟩, rfl, fun _ _ _ => rfl, hF, hw⟩)
       ·obtain ⟨xu, uu⟩ := x
        show J _ _ _ _ _ ((27, .bool false) :: _) _
        refine J.pr (fun hF => ?_); refine J.move rfl rfl ?_
        exact J.finX rfl (fun _ hw => ⟨⟨xu, uu⟩, rfl, fun _ _ _ => rfl, hF, hw⟩)
       ·obtain ⟨xu, uu⟩ := x
        show J _ _ _ _ _ ((28, .bool false) :: _) _
        refine J.pr (fun hF => ?_)
        first | refine J.skip rfl rfl rfl rfl rfl ?_ | refine J.skipU rfl rfl rfl rfl ?_ | (refine J.unguard rfl rfl rfl ?_; refine J.move rfl rfl ?_)
        exact J.finX rfl (fun _ hw => ⟨⟨xu, uu⟩, rfl, fun _ _ _ => rfl, hF, hw⟩)
       ·obtain ⟨xu, uu⟩ := x
        show J _ _ _ _ _ ((28, .bool false) :: _) _
        refine J.pr (fun hF => ?_)
        first | refine J.skip rfl rfl rfl rfl rfl ?_ | refine J.skipU rfl rfl rfl rfl ?_ | (refine J.unguard rfl rfl rfl ?_; refine J.move rfl rfl ?_)
        exact J.finX rfl (fun _ hw => ⟨⟨xu, uu⟩, rfl, fun _ _ _ => rfl, hF, hw⟩)
       ·obtain ⟨xu, uu⟩ := x
        show J _ _ _ _ _ ((28, .bool false) :: (30, .int .i64 ((i : Nat) : Int)) :: (29, .slice (some ⟨q1, o1, none⟩) xa.length c1) :: _) _
        refine J.pr (fun hF => ?_); refine J.unguard rfl rfl rfl ?_; refine J.indexAddrS Ty.el44 Ty.s28 rfl rfl (by omega) (by omega) rfl ?_
        exact J.finX rfl (fun _ hw => ⟨⟨xu, uu⟩, rfl, fun _ _ _ => rfl, hF, hw⟩)
       ·obtain ⟨xu, uu⟩ := x
        show J _ _ _ _ _ ((28, .bool false) :: (31, .pointer (some ⟨q1, o1 + ((i : Nat) : Int).toNat * 34, none⟩)) :: _) _
        refine J.pr (fun hF => ?_)
        first | refine J.skip rfl rfl rfl rfl rfl ?_ | refine J.skipU rfl rfl rfl rfl ?_ | (refine J.unguard rfl rfl rfl ?_; refine J.fieldAddr Ty.fd28_1 rfl rfl ?_)
        exact J.finX rfl (fun _ hw => ⟨⟨xu, uu⟩, rfl, fun _ _ _ => rfl, hF, hw⟩)
       ·obtain ⟨xu, uu⟩ := x
        show J _ _ _ _ _ ((28, .bool false) :: (32, .pointer (some ⟨q1, o1 + ((i : Nat) : Int).toNat * 34 + 16, none⟩)) :: _) _
        refine J.pr (fun hF => ?_); refine J.unguard rfl rfl rfl ?_; refine J.loadA (vs := cV vx) Ty.a25 Ty.s25 rfl rfl (fun w1 hw => itemF_at (r := 16) (hr1.below (hw.drop (List.nil_sublist _)).below) hxg rfl (by rw [Int.toNat_natCast])) rfl ?_
        exact J.finX rfl (fun _ hw => ⟨⟨xu, uu⟩, rfl, fun _ _ _ => rfl, hF, hw⟩)
       ·obtain ⟨xu, uu⟩ := x
        show J _ _ _ _ _ ((28, .bool false) :: _) _
        refine J.pr (fun hF => ?_)
        first | refine J.skip rfl rfl rfl rfl rfl ?_ | refine J.skipU rfl rfl rfl rfl ?_ | (refine J.unguard rfl rfl rfl ?_; refine J.move rfl rfl ?_)
        exact J.finX rfl (fun _ hw => ⟨⟨xu, uu⟩, rfl, fun _ _ _ => rfl, hF, hw⟩)
       ·obtain ⟨xu, uu⟩ := x
        show J _ _ _ _ _ ((28, .bool false) :: _) _
        refine J.pr (fun hF => ?_)
        first | refine J.skip rfl rfl rfl rfl rfl ?_ | refine J.skipU rfl rfl rfl rfl ?_ | (refine J.unguard rfl rfl rfl ?_; refine J.move rfl rfl ?_)
        exact J.finX rfl (fun _ hw => ⟨⟨xu, uu⟩, rfl, fun _ _ _ => rfl, hF, hw⟩)
       ·obtain ⟨xu, uu⟩ := x
        show J _ _ _ _ _ ((28, .bool false) :: (35, .int .i64 ((i : Nat) : Int)) :: (34, .slice (some ⟨q2, o2, none⟩) bs.length c2) :: _) _
        refine J.pr (fun hF => ?_); refine J.unguard rfl rfl rfl ?_; refine J.indexAddrS Ty.el44 Ty.s28 rfl rfl (by omega) (by omega) rfl ?_
        exact J.finX rfl (fun _ hw => ⟨⟨xu, uu⟩, rfl, fun _ _ _ => rfl, hF, hw⟩)
       ·obtain ⟨xu, uu⟩ := x
        show J _ _ _ _ _ ((28, .bool false) :: (36, .pointer (some ⟨q2, o2 + ((i : Nat) : Int).toNat * 34, none⟩)) :: _) _
        refine J.pr (fun hF => ?_)
        first | refine J.skip rfl rfl rfl rfl rfl ?_ | refine J.skipU rfl rfl rfl rfl ?_ | (refine J.unguard rfl rfl rfl ?_; refine J.fieldAddr Ty.fd28_1 rfl rfl ?_)
        exact J.finX rfl (fun _ hw => ⟨⟨xu, uu⟩, rfl, fun _ _ _ => rfl, hF, hw⟩)
       ·obtain ⟨xu, uu⟩ := x
        show J _ _ _ _ _ ((28, .bool false) :: (37, .pointer (some ⟨q2, o2 + ((i : Nat) : Int).toNat * 34 + 16, none⟩)) :: _) _
        refine J.pr (fun hF => ?_); refine J.unguard rfl rfl rfl ?_; refine J.loadA (vs := cV vy) Ty.a25 Ty.s25 rfl rfl (fun w1 hw => itemF_at (r := 16) (hr2.below (hw.drop (List.nil_sublist _)).below) hyg rfl (by rw [Int.toNat_natCast])) rfl ?_
        exact J.finX rfl (fun _ hw => ⟨⟨xu, uu⟩, rfl, fun _ _ _ => rfl, hF, hw⟩)
       ·obtain ⟨xu, uu⟩ := x
        show J _ _ _ _ _ ((28, .bool false) :: (38, .agg (cV vy).toArray) :: (33, .agg (cV vx).toArray) :: _) _
        refine J.pr (fun hF => ?_); refine J.unguard rfl rfl rfl ?_; refine J.neV rfl rfl hvx hvy rfl ?_; refine J.name 39 rfl (show _ = Value.bool false by simp [e2]) ?_
        exact J.finX rfl (fun _ hw => ⟨⟨xu, uu⟩, rfl, fun _ _ _ => rfl, hF, hw⟩)
       ·obtain ⟨xu, uu⟩ := x
        show J _ _ _ _ _ ((39, .bool false) :: (28, .bool false) :: _) _
        refine J.pr (fun hF => ?_)
        (first | refine J.pickT rfl rfl rfl ?_ | refine J.pickF rfl rfl rfl ?_)
        exact J.finX rfl (fun _ hw => ⟨⟨xu, uu⟩, rfl, fun _ _ _ => rfl, hF, hw⟩)
       ·obtain ⟨xu, uu⟩ := x
        show J _ _ _ _ _ ((28, .bool false) :: (40, .bool false) :: _) _
        refine J.pr (fun hF => ?_); refine J.move rfl rfl ?_
        exact J.finX rfl (fun _ hw => ⟨⟨xu, uu⟩, rfl, fun _ _ _ => rfl, hF, hw⟩)
       ·obtain ⟨xu, uu⟩ := x
        show J _ _ _ _ _ ((41, .bool false) :: _) _
        refine J.pr (fun hF => ?_)
        first | refine J.skip rfl rfl rfl rfl rfl ?_ | refine J.skipU rfl rfl rfl rfl ?_ | (refine J.unguard rfl rfl rfl ?_; refine J.move rfl rfl ?_)
        exact J.finX rfl (fun _ hw => ⟨⟨xu, uu⟩, rfl, fun _ _ _ => rfl, hF, hw⟩)
       ·obtain ⟨xu, uu⟩ := x
        show J _ _ _ _ _ ((41, .bool false) :: _) _
        refine J.pr (fun hF => ?_)
        first | refine J.skip rfl rfl rfl rfl rfl ?_ | refine J.skipU rfl rfl rfl rfl ?_ | (refine J.unguard rfl rfl rfl ?_; refine J.move rfl rfl ?_)
        exact J.finX rfl (fun _ hw => ⟨⟨xu, uu⟩, rfl, fun _ _ _ => rfl, hF, hw⟩)
       ·obtain ⟨xu, uu⟩ := x
        show J _ _ _ _ _ ((41, .bool false) :: (43, .int .i64 ((i : Nat) : Int)) :: (42, .slice (some ⟨q1, o1, none⟩) xa.length c1) :: _) _
        refine J.pr (fun hF => ?_); refine J.unguard rfl rfl rfl ?_; refine J.indexAddrS Ty.el44 Ty.s28 rfl rfl (by omega) (by omega) rfl ?_
        exact J.finX rfl (fun _ hw => ⟨⟨xu, uu⟩, rfl, fun _ _ _ => rfl, hF, hw⟩)
       ·obtain ⟨xu, uu⟩ := x
        show J _ _ _ _ _ ((41, .bool false) :: (44, .pointer (some ⟨q1, o1 + ((i : Nat) : Int).toNat * 34, none⟩)) :: _) _
        refine J.pr (fun hF => ?_)
        first | refine J.skip rfl rfl rfl rfl rfl ?_ | refine J.skipU rfl rfl rfl rfl ?_ | (refine J.unguard rfl rfl rfl ?_; refine J.fieldAddr Ty.fd28_2 rfl rfl ?_)
        exact J.finX rfl (fun _ hw => ⟨⟨xu, uu⟩, rfl, fun _ _ _ => rfl, hF, hw⟩)
       ·obtain ⟨xu, uu⟩ := x
        show J _ _ _ _ _ ((41, .bool false) :: (45, .pointer (some ⟨q1, o1 + ((i : Nat) : Int).toNat * 34 + 33, none⟩)) :: _) _
        refine J.pr (fun hF => ?_); refine J.unguard rfl rfl rfl ?_; refine J.load1 (v := (.slice ax bx.length cx)) Ty.a26 rfl (fun w1 hw => (itemF_at (r := 33) (q := o1 + ((i : Nat) : Int).toNat * 34 + 33) (vs := [(.slice ax bx.length cx)]) (hr1.below (hw.drop (List.nil_sublist _)).below) hxg rfl (by rw [Int.toNat_natCast]) 0 Nat.one_pos : _)) rfl ?_
        exact J.finX rfl (fun _ hw => ⟨⟨xu, uu⟩, rfl, fun _ _ _ => rfl, hF, hw⟩)
       ·obtain ⟨xu, uu⟩ := x
        show J _ _ _ _ _ ((41, .bool false) :: (46, (.slice ax bx.length cx)) :: _) _
        refine J.pr (fun hF => ?_); refine J.unguard rfl rfl rfl ?_; refine J.toStr (m := bx.length) (bs := bx) Ty.el26 Ty.u5 Ty.u9 rfl (fun w1 hw => (hxr.below (hw.drop (List.nil_sublist _)).below)) rfl rfl ?_
        exact J.finX rfl (fun _ hw => ⟨⟨xu, uu⟩, rfl, fun _ _ _ => rfl, hF, hw⟩)
       ·obtain ⟨xu, uu⟩ := x
        show J _ _ _ _ _ ((41, .bool false) :: _) _
        refine J.pr (fun hF => ?_)
        first | refine J.skip rfl rfl rfl rfl rfl ?_ | refine J.skipU rfl rfl rfl rfl ?_ | (refine J.unguard rfl rfl rfl ?_; refine J.move rfl rfl ?_)
        exact J.finX rfl (fun _ hw => ⟨⟨xu, uu⟩, rfl, fun _ _ _ => rfl, hF, hw⟩)
       ·obtain ⟨xu, uu⟩ := x
        show J _ _ _ _ _ ((41, .bool false) :: _) _
        refine J.pr (fun hF => ?_)
        first | refine J.skip rfl rfl rfl rfl rfl ?_ | refine J.skipU rfl rfl rfl rfl ?_ | (refine J.unguard rfl rfl rfl ?_; refine J.move rfl rfl ?_)
        exact J.finX rfl (fun _ hw => ⟨⟨xu, uu⟩, rfl, fun _ _ _ => rfl, hF, hw⟩)
       ·obtain ⟨xu, uu⟩ := x
        show J _ _ _ _ _ ((41, .bool false) :: (49, .int .i64 ((i : Nat) : Int)) :: (48, .slice (some ⟨q2, o2, none⟩) bs.length c2) :: _) _
        refine J.pr (fun hF => ?_); refine J.unguard rfl rfl rfl ?_; refine J.indexAddrS Ty.el44 Ty.s28 rfl rfl (by omega) (by omega) rfl ?_
        exact J.finX rfl (fun _ hw => ⟨⟨xu, uu⟩, rfl, fun _ _ _ => rfl, hF, hw⟩)
       ·obtain ⟨xu, uu⟩ := x
        show J _ _ _ _ _ ((41, .bool false) :: (50, .pointer (some ⟨q2, o2 + ((i : Nat) : Int).toNat * 34, none⟩)) :: _) _
        refine J.pr (fun hF => ?_)
        first | refine J.skip rfl rfl rfl rfl rfl ?_ | refine J.skipU rfl rfl rfl rfl ?_ | (refine J.unguard rfl rfl rfl ?_; refine J.fieldAddr Ty.fd28_2 rfl rfl ?_)
        exact J.finX rfl (fun _ hw => ⟨⟨xu, uu⟩, rfl, fun _ _ _ => rfl, hF, hw⟩)
       ·obtain ⟨xu, uu⟩ := x
        show J _ _ _ _ _ ((41, .bool false) :: (51, .pointer (some ⟨q2, o2 + ((i : Nat) : Int).toNat * 34 + 33, none⟩)) :: _) _
        refine J.pr (fun hF => ?_); refine J.unguard rfl rfl rfl ?_; refine J.load1 (v := (.slice ay by_.length cy)) Ty.a26 rfl (fun w1 hw => (itemF_at (r := 33) (q := o2 + ((i : Nat) : Int).toNat * 34 + 33) (vs := [(.slice ay by_.length cy)]) (hr2.below (hw.drop (List.nil_sublist _)).below) hyg rfl (by rw [Int.toNat_natCast]) 0 Nat.one_pos : _)) rfl ?_
        exact J.finX rfl (fun _ hw => ⟨⟨xu, uu⟩, rfl, fun _ _ _ => rfl, hF, hw⟩)
       ·obtain ⟨xu, uu⟩ := x
        show J _ _ _ _ _ ((41, .bool false) :: (52, (.slice ay by_.length cy)) :: _) _
        refine J.pr (fun hF => ?_); refine J.unguard rfl rfl rfl ?_; refine J.toStr (m := by_.length) (bs := by_) Ty.el26 Ty.u5 Ty.u9 rfl (fun w1 hw => (hyr.below (hw.drop (List.nil_sublist _)).below)) rfl rfl ?_
        exact J.finX rfl (fun _ hw => ⟨⟨xu, uu⟩, rfl, fun _ _ _ => rfl, hF, hw⟩)
       ·obtain ⟨xu, uu⟩ := x
        show J _ _ _ _ _ ((41, .bool false) :: (53, .string (str by_)) :: (47, .string (str bx)) :: _) _
        refine J.pr (fun hF => ?_); refine J.unguard rfl rfl rfl ?_; refine J.strNe (xs := bx) (ys := by_) rfl rfl rfl ?_; refine J.name 54 rfl (show _ = Value.bool true by simp [e3]) ?_
        exact J.finX rfl (fun _ hw => ⟨⟨xu, uu⟩, rfl, fun _ _ _ => rfl, hF, hw⟩)
       ·obtain ⟨xu, uu⟩ := x
        show J _ _ _ _ _ ((54, .bool true) :: (41, .bool false) :: _) _
        refine J.pr (fun hF => ?_)
        (first | refine J.pickT rfl rfl rfl ?_ | refine J.pickF rfl rfl rfl ?_)
        exact J.finX rfl (fun _ hw => ⟨⟨xu, uu⟩, rfl, fun _ _ _ => rfl, hF, hw⟩)
      case htail =>
       intro x
       obtain ⟨xu, uu⟩ := x
       show J _ _ _ _ _ ((55, .bool true) :: (54, .bool true) :: (53, .string (str by_)) :: (52, (.slice ay by_.length cy)) :: (51, .pointer (some ⟨q2, o2 + ((i : Nat) : Int).toNat * 34 + 33, none⟩)) :: (50, .pointer (some ⟨q2, o2 + ((i : Nat) : Int).toNat * 34, none⟩)) :: (49, .int .i64 ((i : Nat) : Int)) :: (48, .slice (some ⟨q2, o2, none⟩) bs.length c2) :: (47, .string (str bx)) :: (46, (.slice ax bx.length cx)) :: (45, .pointer (some ⟨q1, o1 + ((i : Nat) : Int).toNat * 34 + 33, none⟩)) :: (44, .pointer (some ⟨q1, o1 + ((i : Nat) : Int).toNat * 34, none⟩)) :: (43, .int .i64 ((i : Nat) : Int)) :: (42, .slice (some ⟨q1, o1, none⟩) xa.length c1) :: (41, .bool false) :: (40, .bool false) :: (39, .bool false) :: (38, .agg (cV vy).toArray) :: (37, .pointer (some ⟨q2, o2 + ((i : Nat) : Int).toNat * 34 + 16, none⟩)) :: (36, .pointer (some ⟨q2, o2 + ((i : Nat) : Int).toNat * 34, none⟩)) :: (35, .int .i64 ((i : Nat) : Int)) :: (34, .slice (some ⟨q2, o2, none⟩) bs.length c2) :: (33, .agg (cV vx).toArray) :: (32, .pointer (some ⟨q1, o1 + ((i : Nat) : Int).toNat * 34 + 16, none⟩)) :: (31, .pointer (some ⟨q1, o1 + ((i : Nat) : Int).toNat * 34, none⟩)) :: (30, .int .i64 ((i : Nat) : Int)) :: (29, .slice (some ⟨q1, o1, none⟩) xa.length c1) :: (28, .bool false) :: (27, .bool false) :: (26, .agg (cI ky).toArray) :: (25, .pointer (some ⟨q2, o2 + ((i : Nat) : Int).toNat * 34 + 0, none⟩)) :: (24, .pointer (some ⟨q2, o2 + ((i : Nat) : Int).toNat * 34, none⟩)) :: (23, .int .i64 ((i : Nat) : Int)) :: (22, .slice (some ⟨q2, o2, none⟩) bs.length c2) :: (21, .agg (cI kx).toArray) :: (20, .pointer (some ⟨q1, o1 + ((i : Nat) : Int).toNat * 34 + 0, none⟩)) :: (19, .pointer (some ⟨q1, o1 + ((i : Nat) : Int).toNat * 34, none⟩)) :: (18, .int .i64 ((i : Nat) : Int)) :: (17, .slice (some ⟨q1, o1, none⟩) xa.length c1) :: _) (fun w1 => (True) ∧ St w [] ([]) w1)
       refine J.pr (fun hF => ?_); refine J.nil ?_; refine JX.thenN (hK9 _ _ ?_)
       first | refine JC.condT rfl ?_ | refine JC.cond rfl (fun _ => ?_) (fun h => by first | (exfalso; simp at h; omega) | (simp at h))
       refine JC.seq (fun K10 hK10 => ?_); refine JC.region ?_; refine J.assign rfl rfl ?_; refine J.nil ?_; refine JX.thenN (hK10 _ _ ?_); refine JC.ret ?_; refine JX.blockR ?_; refine JX.thenR ?_; refine JX.thenR ?_; refine JX.blockR ?_; refine JX.thenR ?_; refine JX.ret1 rfl rfl (fun w hw => ?_)
       first
       | exact ⟨by rw [decide_eq_true hg], hw.below⟩
       | exact ⟨by rw [decide_eq_false hg], hw.below⟩
    ·have hg := differ hxg hyg (by simp [HI.it, e2])
     apply JC.drawX (α := Nat × Unit) 39 (fun x => match x with | ⟨xu, uu⟩ => [.slice (some ⟨q1, o1, none⟩) xa.length c1, .int .i64 ((i : Nat) : Int), .pointer (some ⟨q1, o1 + ((i : Nat) : Int).toNat * 34, none⟩), .pointer (some ⟨q1, o1 + ((i : Nat) : Int).toNat * 34 + 0, none⟩), .agg (cI kx).toArray, .slice (some ⟨q2, o2, none⟩) bs.length c2, .int .i64 ((i : Nat) : Int), .pointer (some ⟨q2, o2 + ((i : Nat) : Int).toNat * 34, none⟩), .pointer (some ⟨q2, o2 + ((i : Nat) : Int).toNat * 34 + 0, none⟩), .agg (cI ky).toArray, .bool false, .bool false, .slice (some ⟨q1, o1, none⟩) xa.length c1, .int .i64 ((i : Nat) : Int), .pointer (some ⟨q1, o1 + ((i : Nat) : Int).toNat * 34, none⟩), .pointer (some ⟨q1, o1 + ((i : Nat) : Int).toNat * 34 + 16, none⟩), .agg (cV vx).toArray, .slice (some ⟨q2, o2, none⟩) bs.length c2, .int .i64 ((i : Nat) : Int), .pointer (some ⟨q2, o2 + ((i : Nat) : Int).toNat * 34, none⟩), .pointer (some ⟨q2, o2 + ((i : Nat) : Int).toNat * 34 + 16, none⟩), .agg (cV vy).toArray, .bool true, .bool true, .bool true, undef, undef, undef, undef, undef, undef, undef, undef, undef, undef, undef, undef, undef, .bool true]) (fun m x => match x with | ⟨xu, uu⟩ => fun w1 => (True) ∧ St w [] ([]) w1) Ty.mixed rfl rfl rfl (by kernel_rfl) rfl rfl ?hinit ?hstep ?htail
     case hinit => exact fun w1 hw => ⟨(0, ()), trivial, hw.drew⟩
     case hstep =>
      refine ⟨fun m x hm hp => ?_, fun m x hm hp => ?_, fun m x hm hp => ?_, fun m x hm hp => ?_, fun m x hm hp => ?_, fun m x hm hp => ?_, fun m x hm hp => ?_, fun m x hm hp => ?_, fun m x hm hp => ?_, fun m x hm hp => ?_, fun m x hm hp => ?_, fun m x hm hp => ?_, fun m x hm hp => ?_, fun m x hm hp => ?_, fun m x hm hp => ?_, fun m x hm hp => ?_, fun m x hm hp => ?_, fun m x hm hp => ?_, fun m x hm hp => ?_, fun m x hm hp => ?_, fun m x hm hp => ?_, fun m x hm hp => ?_, fun m x hm hp => ?_, fun m x hm hp => ?_, fun m x hm hp => ?_, fun m x hm hp => ?_, fun m x hm hp => ?_, fun m x hm hp => ?_, fun m x hm hp => ?_, fun m x hm hp => ?_, fun m x hm hp => ?_, fun m x hm hp => ?_, fun m x hm hp => ?_, fun m x hm hp => ?_, fun m x hm hp => ?_, fun m x hm hp => ?_, fun m x hm hp => ?_, fun m x hm hp => ?_, fun m x hm hp => ?_, trivial⟩
      ·obtain ⟨xu, uu⟩ := x
       show J _ _ _ _ _ (_) _
       refine J.pr (fun hF => ?_); refine J.move rfl rfl ?_
       exact J.finX rfl (fun _ hw => ⟨⟨xu, uu⟩, rfl, fun _ _ _ => rfl, hF, hw⟩)
      ·obtain ⟨xu, uu⟩ := x
       show J _ _ _ _ _ (_) _
       refine J.pr (fun hF => ?_); refine J.move rfl rfl ?_
       exact J.finX rfl (fun _ hw => ⟨⟨xu, uu⟩, rfl, fun _ _ _ => rfl, hF, hw⟩)
      ·obtain ⟨xu, uu⟩ := x
       show J _ _ _ _ _ ((18, .int .i64 ((i : Nat) : Int)) :: (17, .slice (some ⟨q1, o1, none⟩) xa.length c1) :: _) _
       refine J.pr (fun hF => ?_); refine J.indexAddrS Ty.el44 Ty.s28 rfl rfl (by omega) (by omega) rfl ?_
       exact J.finX rfl (fun _ hw => ⟨⟨xu, uu⟩, rfl, fun _ _ _ => rfl, hF, hw⟩)
      ·obtain ⟨xu, uu⟩ := x
       show J _ _ _ _ _ ((19, .pointer (some ⟨q1, o1 + ((i : Nat) : Int).toNat * 34, none⟩)) :: _) _
       refine J.pr (fun hF => ?_); refine J.fieldAddr Ty.fd28_0 rfl rfl ?_
       exact J.finX rfl (fun _ hw => ⟨⟨xu, uu⟩, rfl, fun _ _ _ => rfl, hF, hw⟩)
      ·obtain ⟨xu, uu⟩ := x
       show J _ _ _ _ _ ((20, .pointer (some ⟨q1, o1 + ((i : Nat) : Int).toNat * 34 + 0, none⟩)) :: _) _
       refine J.pr (fun hF => ?_); refine J.loadA (vs := cI kx) Ty.a23 Ty.s23 rfl rfl (fun w1 hw => itemF_at (r := 0) (hr1.below (hw.drop (List.nil_sublist _)).below) hxg rfl (by rw [Int.toNat_natCast])) rfl ?_
       exact J.finX rfl (fun _ hw => ⟨⟨xu, uu⟩, rfl, fun _ _ _ => rfl, hF, hw⟩)
      ·obtain ⟨xu, uu⟩ := x
       show J _ _ _ _ _ (_) _
       refine J.pr (fun hF => ?_); refine J.move rfl rfl ?_
       exact J.finX rfl (fun _ hw => ⟨⟨xu, uu⟩, rfl, fun _ _ _ => rfl, hF, hw⟩)
      ·obtain ⟨xu, uu⟩ := x
       show J _ _ _ _ _ (_) _
       refine J.pr (fun hF => ?_); refine J.move rfl rfl ?_
       exact J.finX rfl (fun _ hw => ⟨⟨xu, uu⟩, rfl, fun _ _ _ => rfl, hF, hw⟩)
      ·obtain ⟨xu, uu⟩ := x
       show J _ _ _ _ _ ((23, .int .i64 ((i : Nat) : Int)) :: (22, .slice (some ⟨q2, o2, none⟩) bs.length c2) :: _) _
       refine J.pr (fun hF => ?_); refine J.indexAddrS Ty.el44 Ty.s28 rfl rfl (by omega) (by omega) rfl ?_
       exact J.finX rfl (fun _ hw => ⟨⟨xu, uu⟩, rfl, fun _ _ _ => rfl, hF, hw⟩)
      ·obtain ⟨xu, uu⟩ := x
       show J _ _ _ _ _ ((24, .pointer (some ⟨q2, o2 + ((i : Nat) : Int).toNat * 34, none⟩)) :: _) _
       refine J.pr (fun hF => ?_); refine J.fieldAddr Ty.fd28_0 rfl rfl ?_
       exact J.finX rfl (fun _ hw => ⟨⟨xu, uu⟩, rfl, fun _ _ _ => rfl, hF, hw⟩)
      ·obtain ⟨xu, uu⟩ := x
       show J _ _ _ _ _ ((25, .pointer (some ⟨q2, o2 + ((i : Nat) : Int).toNat * 34 + 0, none⟩)) :: _) _
       refine J.pr (fun hF => ?_); refine J.loadA (vs := cI ky) Ty.a23 Ty.s23 rfl rfl (fun w1 hw => itemF_at (r := 0) (hr2.below (hw.drop (List.nil_sublist _)).below) hyg rfl (by rw [Int.toNat_natCast])) rfl ?_
       exact J.finX rfl (fun _ hw => ⟨⟨xu, uu⟩, rfl, fun _ _ _ => rfl, hF, hw⟩)
      ·obtain ⟨xu, uu⟩ := x
       show J _ _ _ _ _ ((26, .agg (cI ky).toArray) :: (21, .agg (cI kx).toArray) :: _) _
       refine J.pr (fun hF => ?_); refine J.neI Ty.QI Ty.keyI rfl rfl rfl ?_; refine J.name 27 rfl (show _ = Value.bool false by simp [e1]) ?_
       exact J.finX rfl (fun _ hw => ⟨⟨xu, uu⟩, rfl, fun _ _ _ => rfl, hF, hw⟩)
      ·obtain ⟨xu, uu⟩ := x
       show J _ _ _ _ _ ((27, .bool false) :: _) _
       refine J.pr (fun hF => ?_); refine J.move rfl rfl ?_
       exact J.finX rfl (fun _ hw => ⟨⟨xu, uu⟩, rfl, fun _ _ _ => rfl, hF, hw⟩)
      ·obtain ⟨xu, uu⟩ := x
       show J _ _ _ _ _ ((28, .bool false) :: _) _
       refine J.pr (fun hF => ?_)
       first | refine J.skip rfl rfl rfl rfl rfl ?_ | refine J.skipU rfl rfl rfl rfl ?_ | (refine J.unguard rfl rfl rfl ?_; refine J.move rfl rfl ?_)
       exact J.finX rfl (fun _ hw => ⟨⟨xu, uu⟩, rfl, fun _ _ _ => rfl, hF, hw⟩)
      ·obtain ⟨xu, uu⟩ := x
       show J _ _ _ _ _ ((28, .bool false) :: _) _
       refine J.pr (fun hF => ?_)
       first | refine J.skip rfl rfl rfl rfl rfl ?_ | refine J.skipU rfl rfl rfl rfl ?_ | (refine J.unguard rfl rfl rfl ?_; refine J.move rfl rfl ?_)
       exact J.finX rfl (fun _ hw => ⟨⟨xu, uu⟩, rfl, fun _ _ _ => rfl, hF, hw⟩)
      ·obtain ⟨xu, uu⟩ := x
       show J _ _ _ _ _ ((28, .bool false) :: (30, .int .i64 ((i : Nat) : Int)) :: (29, .slice (some ⟨q1, o1, none⟩) xa.length c1) :: _) _
       refine J.pr (fun hF => ?_); refine J.unguard rfl rfl rfl ?_; refine J.indexAddrS Ty.el44 Ty.s28 rfl rfl (by omega) (by omega) rfl ?_
       exact J.finX rfl (fun _ hw => ⟨⟨xu, uu⟩, rfl, fun _ _ _ => rfl, hF, hw⟩)
      ·obtain ⟨xu, uu⟩ := x
       show J _ _ _ _ _ ((28, .bool false) :: (31, .pointer (some ⟨q1, o1 + ((i : Nat) : Int).toNat * 34, none⟩)) :: _) _
       refine J.pr (fun hF => ?_)
       first | refine J.skip rfl rfl rfl rfl rfl ?_ | refine J.skipU rfl rfl rfl rfl ?_ | (refine J.unguard rfl rfl rfl ?_; refine J.fieldAddr Ty.fd28_1 rfl rfl ?_)
       exact J.finX rfl (fun _ hw => ⟨⟨xu, uu⟩, rfl, fun _ _ _ => rfl, hF, hw⟩)
      ·obtain ⟨xu, uu⟩ := x
       show J _ _ _ _ _ ((28, .bool false) :: (32, .pointer (some ⟨q1, o1 + ((i : Nat) : Int).toNat * 34 + 16, none⟩)) :: _) _
       refine J.pr (fun hF => ?_); refine J.unguard rfl rfl rfl ?_; refine J.loadA (vs := cV vx) Ty.a25 Ty.s25 rfl rfl (fun w1 hw => itemF_at (r := 16) (hr1.below (hw.drop (List.nil_sublist _)).below) hxg rfl (by rw [Int.toNat_natCast])) rfl ?_
       exact J.finX rfl (fun _ hw => ⟨⟨xu, uu⟩, rfl, fun _ _ _ => rfl, hF, hw⟩)
      ·obtain ⟨xu, uu⟩ := x
       show J _ _ _ _ _ ((28, .bool false) :: _) _
       refine J.pr (fun hF => ?_)
       first | refine J.skip rfl rfl rfl rfl rfl ?_ | refine J.skipU rfl rfl rfl rfl ?_ | (refine J.unguard rfl rfl rfl ?_; refine J.move rfl rfl ?_)
       exact J.finX rfl (fun _ hw => ⟨⟨xu, uu⟩, rfl, fun _ _ _ => rfl, hF, hw⟩)
      ·obtain ⟨xu, uu⟩ := x
       show J _ _ _ _ _ ((28, .bool false) :: _) _
       refine J.pr (fun hF => ?_)
       first | refine J.skip rfl rfl rfl rfl rfl ?_ | refine J.skipU rfl rfl rfl rfl ?_ | (refine J.unguard rfl rfl rfl ?_; refine J.move rfl rfl ?_)
       exact J.finX rfl (fun _ hw => ⟨⟨xu, uu⟩, rfl, fun _ _ _ => rfl, hF, hw⟩)
      ·obtain ⟨xu, uu⟩ := x
       show J _ _ _ _ _ ((28, .bool false) :: (35, .int .i64 ((i : Nat) : Int)) :: (34, .slice (some ⟨q2, o2, none⟩) bs.length c2) :: _) _
       refine J.pr (fun hF => ?_); refine J.unguard rfl rfl rfl ?_; refine J.indexAddrS Ty.el44 Ty.s28 rfl rfl (by omega) (by omega) rfl ?_
       exact J.finX rfl (fun _ hw => ⟨⟨xu, uu⟩, rfl, fun _ _ _ => rfl, hF, hw⟩)
      ·obtain ⟨xu, uu⟩ := x
       show J _ _ _ _ _ ((28, .bool false) :: (36, .pointer (some ⟨q2, o2 + ((i : Nat) : Int).toNat * 34, none⟩)) :: _) _
       refine J.pr (fun hF => ?_)
       first | refine J.skip rfl rfl rfl rfl rfl ?_ | refine J.skipU rfl rfl rfl rfl ?_ | (refine J.unguard rfl rfl rfl ?_; refine J.fieldAddr Ty.fd28_1 rfl rfl ?_)
       exact J.finX rfl (fun _ hw => ⟨⟨xu, uu⟩, rfl, fun _ _ _ => rfl, hF, hw⟩)
      ·obtain ⟨xu, uu⟩ := x
       show J _ _ _ _ _ ((28, .bool false) :: (37, .pointer (some ⟨q2, o2 + ((i : Nat) : Int).toNat * 34 + 16, none⟩)) :: _) _
       refine J.pr (fun hF => ?_); refine J.unguard rfl rfl rfl ?_; refine J.loadA (vs := cV vy) Ty.a25 Ty.s25 rfl rfl (fun w1 hw => itemF_at (r := 16) (hr2.below (hw.drop (List.nil_sublist _)).below) hyg rfl (by rw [Int.toNat_natCast])) rfl ?_
       exact J.finX rfl (fun _ hw => ⟨⟨xu, uu⟩, rfl, fun _ _ _ => rfl, hF, hw⟩)
      ·obtain ⟨xu, uu⟩ := x
       show J _ _ _ _ _ ((28, .bool false) :: (38, .agg (cV vy).toArray) :: (33, .agg (cV vx).toArray) :: _) _
       refine J.pr (fun hF => ?_); refine J.unguard rfl rfl rfl ?_; refine J.neV rfl rfl hvx hvy rfl ?_; refine J.name 39 rfl (show _ = Value.bool true by simp [e2]) ?_
       exact J.finX rfl (fun _ hw => ⟨⟨xu, uu⟩, rfl, fun _ _ _ => rfl, hF, hw⟩)
      ·obtain ⟨xu, uu⟩ := x
       show J _ _ _ _ _ ((39, .bool true) :: (28, .bool false) :: _) _
       refine J.pr (fun hF => ?_)
       (first | refine J.pickT rfl rfl rfl ?_ | refine J.pickF rfl rfl rfl ?_)
       exact J.finX rfl (fun _ hw => ⟨⟨xu, uu⟩, rfl, fun _ _ _ => rfl, hF, hw⟩)
      ·obtain ⟨xu, uu⟩ := x
       show J _ _ _ _ _ ((28, .bool false) :: (40, .bool true) :: _) _
       refine J.pr (fun hF => ?_); refine J.move rfl rfl ?_
       exact J.finX rfl (fun _ hw => ⟨⟨xu, uu⟩, rfl, fun _ _ _ => rfl, hF, hw⟩)
      ·obtain ⟨xu, uu⟩ := x
       show J _ _ _ _ _ ((41, .bool true) :: _) _
       refine J.pr (fun hF => ?_)
       first | refine J.skip rfl rfl rfl rfl rfl ?_ | refine J.skipU rfl rfl rfl rfl ?_ | (refine J.unguard rfl rfl rfl ?_; refine J.move rfl rfl ?_)
       exact J.finX rfl (fun _ hw => ⟨⟨xu, uu⟩, rfl, fun _ _ _ => rfl, hF, hw⟩)
      ·obtain ⟨xu, uu⟩ := x
       show J _ _ _ _ _ ((41, .bool true) :: _) _
       refine J.pr (fun hF => ?_)
       first | refine J.skip rfl rfl rfl rfl rfl ?_ | refine J.skipU rfl rfl rfl rfl ?_ | (refine J.unguard rfl rfl rfl ?_; refine J.move rfl rfl ?_)
       exact J.finX rfl (fun _ hw => ⟨⟨xu, uu⟩, rfl, fun _ _ _ => rfl, hF, hw⟩)
      ·obtain ⟨xu, uu⟩ := x
       show J _ _ _ _ _ ((41, .bool true) :: (43, undef) :: (42, undef) :: _) _
       refine J.pr (fun hF => ?_)
       first | refine J.skip rfl rfl rfl rfl rfl ?_ | refine J.skipU rfl rfl rfl rfl ?_ | (refine J.unguard rfl rfl rfl ?_; refine J.indexAddrS Ty.el44 Ty.s28 rfl rfl (by omega) (by omega) rfl ?_)
       exact J.finX rfl (fun _ hw => ⟨⟨xu, uu⟩, rfl, fun _ _ _ => rfl, hF, hw⟩)
      ·obtain ⟨xu, uu⟩ := x
       show J _ _ _ _ _ ((41, .bool true) :: (44, undef) :: _) _
       refine J.pr (fun hF => ?_)
       first | refine J.skip rfl rfl rfl rfl rfl ?_ | refine J.skipU rfl rfl rfl rfl ?_ | (refine J.unguard rfl rfl rfl ?_; refine J.fieldAddr Ty.fd28_2 rfl rfl ?_)
       exact J.finX rfl (fun _ hw => ⟨⟨xu, uu⟩, rfl, fun _ _ _ => rfl, hF, hw⟩)
      ·obtain ⟨xu, uu⟩ := x
       show J _ _ _ _ _ ((41, .bool true) :: (45, undef) :: _) _
       refine J.pr (fun hF => ?_)
       first | refine J.skip rfl rfl rfl rfl rfl ?_ | refine J.skipU rfl rfl rfl rfl ?_ | (refine J.unguard rfl rfl rfl ?_; refine J.loadO Ty.a26 rfl zm (by exact rfl) rfl ?_)
       exact J.finX rfl (fun _ hw => ⟨⟨xu, uu⟩, rfl, fun _ _ _ => rfl, hF, hw⟩)
      ·obtain ⟨xu, uu⟩ := x
       show J _ _ _ _ _ ((41, .bool true) :: (46, undef) :: _) _
       refine J.pr (fun hF => ?_)
       first | refine J.skip rfl rfl rfl rfl rfl ?_ | refine J.skipU rfl rfl rfl rfl ?_ | (refine J.unguard rfl rfl rfl ?_; fail)
       exact J.finX rfl (fun _ hw => ⟨⟨xu, uu⟩, rfl, fun _ _ _ => rfl, hF, hw⟩)
      ·obtain ⟨xu, uu⟩ := x
       show J _ _ _ _ _ ((41, .bool true) :: _) _
       refine J.pr (fun hF => ?_)
       first | refine J.skip rfl rfl rfl rfl rfl ?_ | refine J.skipU rfl rfl rfl rfl ?_ | (refine J.unguard rfl rfl rfl ?_; refine J.move rfl rfl ?_)
       exact J.finX rfl (fun _ hw => ⟨⟨xu, uu⟩, rfl, fun _ _ _ => rfl, hF, hw⟩)
      ·obtain ⟨xu, uu⟩ := x
       show J _ _ _ _ _ ((41, .bool true) :: _) _
       refine J.pr (fun hF => ?_)
       first | refine J.skip rfl rfl rfl rfl rfl ?_ | refine J.skipU rfl rfl rfl rfl ?_ | (refine J.unguard rfl rfl rfl ?_; refine J.move rfl rfl ?_)
       exact J.finX rfl (fun _ hw => ⟨⟨xu, uu⟩, rfl, fun _ _ _ => rfl, hF, hw⟩)
      ·obtain ⟨xu, uu⟩ := x
       show J _ _ _ _ _ ((41, .bool true) :: (49, undef) :: (48, undef) :: _) _
       refine J.pr (fun hF => ?_)
       first | refine J.skip rfl rfl rfl rfl rfl ?_ | refine J.skipU rfl rfl rfl rfl ?_ | (refine J.unguard rfl rfl rfl ?_; refine J.indexAddrS Ty.el44 Ty.s28 rfl rfl (by omega) (by omega) rfl ?_)
       exact J.finX rfl (fun _ hw => ⟨⟨xu, uu⟩, rfl, fun _ _ _ => rfl, hF, hw⟩)
      ·obtain ⟨xu, uu⟩ := x
       show J _ _ _ _ _ ((41, .bool true) :: (50, undef) :: _) _
       refine J.pr (fun hF => ?_)
       first | refine J.skip rfl rfl rfl rfl rfl ?_ | refine J.skipU rfl rfl rfl rfl ?_ | (refine J.unguard rfl rfl rfl ?_; refine J.fieldAddr Ty.fd28_2 rfl rfl ?_)
       exact J.finX rfl (fun _ hw => ⟨⟨xu, uu⟩, rfl, fun _ _ _ => rfl, hF, hw⟩)
      ·obtain ⟨xu, uu⟩ := x
       show J _ _ _ _ _ ((41, .bool true) :: (51, undef) :: _) _
       refine J.pr (fun hF => ?_)
       first | refine J.skip rfl rfl rfl rfl rfl ?_ | refine J.skipU rfl rfl rfl rfl ?_ | (refine J.unguard rfl rfl rfl ?_; refine J.loadO Ty.a26 rfl zm (by exact rfl) rfl ?_)
       exact J.finX rfl (fun _ hw => ⟨⟨xu, uu⟩, rfl, fun _ _ _ => rfl, hF, hw⟩)
      ·obtain ⟨xu, uu⟩ := x
       show J _ _ _ _ _ ((41, .bool true) :: (52, undef) :: _) _
       refine J.pr (fun hF => ?_)
       first | refine J.skip rfl rfl rfl rfl rfl ?_ | refine J.skipU rfl rfl rfl rfl ?_ | (refine J.unguard rfl rfl rfl ?_; fail)
       exact J.finX rfl (fun _ hw => ⟨⟨xu, uu⟩, rfl, fun _ _ _ => rfl, hF, hw⟩)
      ·obtain ⟨xu, uu⟩ := x
       show J _ _ _ _ _ ((41, .bool true) :: (53, undef) :: (47, undef) :: _) _
       refine J.pr (fun hF => ?_)
       first | refine J.skip rfl rfl rfl rfl rfl ?_ | refine J.skipU rfl rfl rfl rfl ?_ | (refine J.unguard rfl rfl rfl ?_; (first | refine J.strNe rfl rfl rfl ?_ | refine J.bin rfl rfl rfl rfl ?_))
       exact J.finX rfl (fun _ hw => ⟨⟨xu, uu⟩, rfl, fun _ _ _ => rfl, hF, hw⟩)
      ·obtain ⟨xu, uu⟩ := x
       show J _ _ _ _ _ ((54, undef) :: (41, .bool true) :: _) _
       refine J.pr (fun hF => ?_)
       (first | refine J.pickT rfl rfl rfl ?_ | refine J.pickF rfl rfl rfl ?_)
       exact J.finX rfl (fun _ hw => ⟨⟨xu, uu⟩, rfl, fun _ _ _ => rfl, hF, hw⟩)
     case htail =>
      intro x
      obtain ⟨xu, uu⟩ := x
      show J _ _ _ _ _ ((55, .bool true) :: (54, undef) :: (53, undef) :: (52, undef) :: (51, undef) :: (50, undef) :: (49, undef) :: (48, undef) :: (47, undef) :: (46, undef) :: (45, undef) :: (44, undef) :: (43, undef) :: (42, undef) :: (41, .bool true) :: (40, .bool true) :: (39, .bool true) :: (38, .agg (cV vy).toArray) :: (37, .pointer (some ⟨q2, o2 + ((i : Nat) : Int).toNat * 34 + 16, none⟩)) :: (36, .pointer (some ⟨q2, o2 + ((i : Nat) : Int).toNat * 34, none⟩)) :: (35, .int .i64 ((i : Nat) : Int)) :: (34, .slice (some ⟨q2, o2, none⟩) bs.length c2) :: (33, .agg (cV vx).toArray) :: (32, .pointer (some ⟨q1, o1 + ((i : Nat) : Int).toNat * 34 + 16, none⟩)) :: (31, .pointer (some ⟨q1, o1 + ((i : Nat) : Int).toNat * 34, none⟩)) :: (30, .int .i64 ((i : Nat) : Int)) :: (29, .slice (some ⟨q1, o1, none⟩) xa.length c1) :: (28, .bool false) :: (27, .bool false) :: (26, .agg (cI ky).toArray) :: (25, .pointer (some ⟨q2, o2 + ((i : Nat) : Int).toNat * 34 + 0, none⟩)) :: (24, .pointer (some ⟨q2, o2 + ((i : Nat) : Int).toNat * 34, none⟩)) :: (23, .int .i64 ((i : Nat) : Int)) :: (22, .slice (some ⟨q2, o2, none⟩) bs.length c2) :: (21, .agg (cI kx).toArray) :: (20, .pointer (some ⟨q1, o1 + ((i : Nat) : Int).toNat * 34 + 0, none⟩)) :: (19, .pointer (some ⟨q1, o1 + ((i : Nat) : Int).toNat * 34, none⟩)) :: (18, .int .i64 ((i : Nat) : Int)) :: (17, .slice (some ⟨q1, o1, none⟩) xa.length c1) :: _) (fun w1 => (True) ∧ St w [] ([]) w1)
      refine J.pr (fun hF => ?_); refine J.nil ?_; refine JX.thenN (hK9 _ _ ?_)
      first | refine JC.condT rfl ?_ | refine JC.cond rfl (fun _ => ?_) (fun h => by first | (exfalso; simp at h; omega) | (simp at h))
      refine JC.seq (fun K11 hK11 => ?_); refine JC.region ?_; refine J.assign rfl rfl ?_; refine J.nil ?_; refine JX.thenN (hK11 _ _ ?_); refine JC.ret ?_; refine JX.blockR ?_; refine JX.thenR ?_; refine JX.thenR ?_; refine JX.blockR ?_; refine JX.thenR ?_; refine JX.ret1 rfl rfl (fun w hw => ?_)
      first
      | exact ⟨by rw [decide_eq_true hg], hw.below⟩
      | exact ⟨by rw [decide_eq_false hg], hw.below⟩
   ·have hg := differ hxg hyg (by simp [HI.it, e1])
    apply JC.drawX (α := Nat × Unit) 39 (fun x => match x with | ⟨xu, uu⟩ => [.slice (some ⟨q1, o1, none⟩) xa.length c1, .int .i64 ((i : Nat) : Int), .pointer (some ⟨q1, o1 + ((i : Nat) : Int).toNat * 34, none⟩), .pointer (some ⟨q1, o1 + ((i : Nat) : Int).toNat * 34 + 0, none⟩), .agg (cI kx).toArray, .slice (some ⟨q2, o2, none⟩) bs.length c2, .int .i64 ((i : Nat) : Int), .pointer (some ⟨q2, o2 + ((i : Nat) : Int).toNat * 34, none⟩), .pointer (some ⟨q2, o2 + ((i : Nat) : Int).toNat * 34 + 0, none⟩), .agg (cI ky).toArray, .bool true, .bool true, undef, undef, undef, undef, undef, undef, undef, undef, undef, undef, undef, .bool true, .bool true, undef, undef, undef, undef, undef, undef, undef, undef, undef, undef, undef, undef, undef, .bool true]) (fun m x => match x with | ⟨xu, uu⟩ => fun w1 => (True) ∧ St w [] ([]) w1) Ty.mixed rfl rfl rfl (by kernel_rfl) rfl rfl ?hinit ?hstep ?htail
    case hinit => exact fun w1 hw => ⟨(0, ()), trivial, hw.drew⟩
    case hstep =>
     refine ⟨fun m x hm hp => ?_, fun m x hm hp => ?_, fun m x hm hp => ?_, fun m x hm hp => ?_, fun m x hm hp => ?_, fun m x hm hp => ?_, fun m x hm hp => ?_, fun m x hm hp => ?_, fun m x hm hp => ?_, fun m x hm hp => ?_, fun m x hm hp => ?_, fun m x hm hp => ?_, fun m x hm hp => ?_, fun m x hm hp => ?_, fun m x hm hp => ?_, fun m x hm hp => ?_, fun m x hm hp => ?_, fun m x hm hp => ?_, fun m x hm hp => ?_, fun m x hm hp => ?_, fun m x hm hp => ?_, fun m x hm hp => ?_, fun m x hm hp => ?_, fun m x hm hp => ?_, fun m x hm hp => ?_, fun m x hm hp => ?_, fun m x hm hp => ?_, fun m x hm hp => ?_, fun m x hm hp => ?_, fun m x hm hp => ?_, fun m x hm hp => ?_, fun m x hm hp => ?_, fun m x hm hp => ?_, fun m x hm hp => ?_, fun m x hm hp => ?_, fun m x hm hp => ?_, fun m x hm hp => ?_, fun m x hm hp => ?_, fun m x hm hp => ?_, trivial⟩
     ·obtain ⟨xu, uu⟩ := x
      show J _ _ _ _ _ (_) _
      refine J.pr (fun hF => ?_); refine J.move rfl rfl ?_
      exact J.finX rfl (fun _ hw => ⟨⟨xu, uu⟩, rfl, fun _ _ _ => rfl, hF, hw⟩)
     ·obtain ⟨xu, uu⟩ := x
      show J _ _ _ _ _ (_) _
      refine J.pr (fun hF => ?_); refine J.move rfl rfl ?_
      exact J.finX rfl (fun _ hw => ⟨⟨xu, uu⟩, rfl, fun _ _ _ => rfl, hF, hw⟩)
     ·obtain ⟨xu, uu⟩ := x
      show J _ _ _ _ _ ((18, .int .i64 ((i : Nat) : Int)) :: (17, .slice (some ⟨q1, o1, none⟩) xa.length c1) :: _) _
      refine J.pr (fun hF => ?_); refine J.indexAddrS Ty.el44 Ty.s28 rfl rfl (by omega) (by omega) rfl ?_
      exact J.finX rfl (fun _ hw => ⟨⟨xu, uu⟩, rfl, fun _ _ _ => rfl, hF, hw⟩)
     ·obtain ⟨xu, uu⟩ := x
      show J _ _ _ _ _ ((19, .pointer (some ⟨q1, o1 + ((i : Nat) : Int).toNat * 34, none⟩)) :: _) _
      refine J.pr (fun hF => ?_); refine J.fieldAddr Ty.fd28_0 rfl rfl ?_
      exact J.finX rfl (fun _ hw => ⟨⟨xu, uu⟩, rfl, fun _ _ _ => rfl, hF, hw⟩)
     ·obtain ⟨xu, uu⟩ := x
      show J _ _ _ _ _ ((20, .pointer (some ⟨q1, o1 + ((i : Nat) : Int).toNat * 34 + 0, none⟩)) :: _) _
      refine J.pr (fun hF => ?_); refine J.loadA (vs := cI kx) Ty.a23 Ty.s23 rfl rfl (fun w1 hw => itemF_at (r := 0) (hr1.below (hw.drop (List.nil_sublist _)).below) hxg rfl (by rw [Int.toNat_natCast])) rfl ?_
      exact J.finX rfl (fun _ hw => ⟨⟨xu, uu⟩, rfl, fun _ _ _ => rfl, hF, hw⟩)
     ·obtain ⟨xu, uu⟩ := x
      show J _ _ _ _ _ (_) _
      refine J.pr (fun hF => ?_); refine J.move rfl rfl ?_
      exact J.finX rfl (fun _ hw => ⟨⟨xu, uu⟩, rfl, fun _ _ _ => rfl, hF, hw⟩)
     ·obtain ⟨xu, uu⟩ := x
      show J _ _ _ _ _ (_) _
      refine J.pr (fun hF => ?_); refine J.move rfl rfl ?_
      exact J.finX rfl (fun _ hw => ⟨⟨xu, uu⟩, rfl, fun _ _ _ => rfl, hF, hw⟩)
     ·obtain ⟨xu, uu⟩ := x
      show J _ _ _ _ _ ((23, .int .i64 ((i : Nat) : Int)) :: (22, .slice (some ⟨q2, o2, none⟩) bs.length c2) :: _) _
      refine J.pr (fun hF => ?_); refine J.indexAddrS Ty.el44 Ty.s28 rfl rfl (by omega) (by omega) rfl ?_
      exact J.finX rfl (fun _ hw => ⟨⟨xu, uu⟩, rfl, fun _ _ _ => rfl, hF, hw⟩)
     ·obtain ⟨xu, uu⟩ := x
      show J _ _ _ _ _ ((24, .pointer (some ⟨q2, o2 + ((i : Nat) : Int).toNat * 34, none⟩)) :: _) _
      refine J.pr (fun hF => ?_); refine J.fieldAddr Ty.fd28_0 rfl rfl ?_
      exact J.finX rfl (fun _ hw => ⟨⟨xu, uu⟩, rfl, fun _ _ _ => rfl, hF, hw⟩)
     ·obtain ⟨xu, uu⟩ := x
      show J _ _ _ _ _ ((25, .pointer (some ⟨q2, o2 + ((i : Nat) : Int).toNat * 34 + 0, none⟩)) :: _) _
      refine J.pr (fun hF => ?_); refine J.loadA (vs := cI ky) Ty.a23 Ty.s23 rfl rfl (fun w1 hw => itemF_at (r := 0) (hr2.below (hw.drop (List.nil_sublist _)).below) hyg rfl (by rw [Int.toNat_natCast])) rfl ?_
      exact J.finX rfl (fun _ hw => ⟨⟨xu, uu⟩, rfl, fun _ _ _ => rfl, hF, hw⟩)
     ·obtain ⟨xu, uu⟩ := x
      show J _ _ _ _ _ ((26, .agg (cI ky).toArray) :: (21, .agg (cI kx).toArray) :: _) _
      refine J.pr (fun hF => ?_); refine J.neI Ty.QI Ty.keyI rfl rfl rfl ?_; refine J.name 27 rfl (show _ = Value.bool true by simp [e1]) ?_
      exact J.finX rfl (fun _ hw => ⟨⟨xu, uu⟩, rfl, fun _ _ _ => rfl, hF, hw⟩)
     ·obtain ⟨xu, uu⟩ := x
      show J _ _ _ _ _ ((27, .bool true) :: _) _
      refine J.pr (fun hF => ?_); refine J.move rfl rfl ?_
      exact J.finX rfl (fun _ hw => ⟨⟨xu, uu⟩, rfl, fun _ _ _ => rfl, hF, hw⟩)
     ·obtain ⟨xu, uu⟩ := x
      show J _ _ _ _ _ ((28, .bool true) :: _) _
      refine J.pr (fun hF => ?_)
      first | refine J.skip rfl rfl rfl rfl rfl ?_ | refine J.skipU rfl rfl rfl rfl ?_ | (refine J.unguard rfl rfl rfl ?_; refine J.move rfl rfl ?_)
      exact J.finX rfl (fun _ hw => ⟨⟨xu, uu⟩, rfl, fun _ _ _ => rfl, hF, hw⟩)
     ·obtain ⟨xu, uu⟩ := x
      show J _ _ _ _ _ ((28, .bool true) :: _) _
      refine J.pr (fun hF => ?_)
      first | refine J.skip rfl rfl rfl rfl rfl ?_ | refine J.skipU rfl rfl rfl rfl ?_ | (refine J.unguard rfl rfl rfl ?_; refine J.move rfl rfl ?_)
      exact J.finX rfl (fun _ hw => ⟨⟨xu, uu⟩, rfl, fun _ _ _ => rfl, hF, hw⟩)
     ·obtain ⟨xu, uu⟩ := x
      show J _ _ _ _ _ ((28, .bool true) :: (30, undef) :: (29, undef) :: _) _
      refine J.pr (fun hF => ?_)
      first | refine J.skip rfl rfl rfl rfl rfl ?_ | refine J.skipU rfl rfl rfl rfl ?_ | (refine J.unguard rfl rfl rfl ?_; refine J.indexAddrS Ty.el44 Ty.s28 rfl rfl (by omega) (by omega) rfl ?_)
      exact J.finX rfl (fun _ hw => ⟨⟨xu, uu⟩, rfl, fun _ _ _ => rfl, hF, hw⟩)
     ·obtain ⟨xu, uu⟩ := x
      show J _ _ _ _ _ ((28, .bool true) :: (31, undef) :: _) _
      refine J.pr (fun hF => ?_)
      first | refine J.skip rfl rfl rfl rfl rfl ?_ | refine J.skipU rfl rfl rfl rfl ?_ | (refine J.unguard rfl rfl rfl ?_; refine J.fieldAddr Ty.fd28_1 rfl rfl ?_)
      exact J.finX rfl (fun _ hw => ⟨⟨xu, uu⟩, rfl, fun _ _ _ => rfl, hF, hw⟩)
     ·obtain ⟨xu, uu⟩ := x
      show J _ _ _ _ _ ((28, .bool true) :: (32, undef) :: _) _
      refine J.pr (fun hF => ?_)
      first | refine J.skip rfl rfl rfl rfl rfl ?_ | refine J.skipU rfl rfl rfl rfl ?_ | (refine J.unguard rfl rfl rfl ?_; refine J.loadOA Ty.a25 Ty.s25 rfl zm (by exact rfl) rfl rfl ?_)
      exact J.finX rfl (fun _ hw => ⟨⟨xu, uu⟩, rfl, fun _ _ _ => rfl, hF, hw⟩)
     ·obtain ⟨xu, uu⟩ := x
      show J _ _ _ _ _ ((28, .bool true) :: _) _
      refine J.pr (fun hF => ?_)
      first | refine J.skip rfl rfl rfl rfl rfl ?_ | refine J.skipU rfl rfl rfl rfl ?_ | (refine J.unguard rfl rfl rfl ?_; refine J.move rfl rfl ?_)
      exact J.finX rfl (fun _ hw => ⟨⟨xu, uu⟩, rfl, fun _ _ _ => rfl, hF, hw⟩)
     ·obtain ⟨xu, uu⟩ := x
      show J _ _ _ _ _ ((28, .bool true) :: _) _
      refine J.pr (fun hF => ?_)
      first | refine J.skip rfl rfl rfl rfl rfl ?_ | refine J.skipU rfl rfl rfl rfl ?_ | (refine J.unguard rfl rfl rfl ?_; refine J.move rfl rfl ?_)
      exact J.finX rfl (fun _ hw => ⟨⟨xu, uu⟩, rfl, fun _ _ _ => rfl, hF, hw⟩)
     ·obtain ⟨xu, uu⟩ := x
      show J _ _ _ _ _ ((28, .bool true) :: (35, undef) :: (34, undef) :: _) _
      refine J.pr (fun hF => ?_)
      first | refine J.skip rfl rfl rfl rfl rfl ?_ | refine J.skipU rfl rfl rfl rfl ?_ | (refine J.unguard rfl rfl rfl ?_; refine J.indexAddrS Ty.el44 Ty.s28 rfl rfl (by omega) (by omega) rfl ?_)
      exact J.finX rfl (fun _ hw => ⟨⟨xu, uu⟩, rfl, fun _ _ _ => rfl, hF, hw⟩)
     ·obtain ⟨xu, uu⟩ := x
      show J _ _ _ _ _ ((28, .bool true) :: (36, undef) :: _) _
      refine J.pr (fun hF => ?_)
      first | refine J.skip rfl rfl rfl rfl rfl ?_ | refine J.skipU rfl rfl rfl rfl ?_ | (refine J.unguard rfl rfl rfl ?_; refine J.fieldAddr Ty.fd28_1 rfl rfl ?_)
      exact J.finX rfl (fun _ hw => ⟨⟨xu, uu⟩, rfl, fun _ _ _ => rfl, hF, hw⟩)
     ·obtain ⟨xu, uu⟩ := x
      show J _ _ _ _ _ ((28, .bool true) :: (37, undef) :: _) _
      refine J.pr (fun hF => ?_)
      first | refine J.skip rfl rfl rfl rfl rfl ?_ | refine J.skipU rfl rfl rfl rfl ?_ | (refine J.unguard rfl rfl rfl ?_; refine J.loadOA Ty.a25 Ty.s25 rfl zm (by exact rfl) rfl rfl ?_)
      exact J.finX rfl (fun _ hw => ⟨⟨xu, uu⟩, rfl, fun _ _ _ => rfl, hF, hw⟩)
     ·obtain ⟨xu, uu⟩ := x
      show J _ _ _ _ _ ((28, .bool true) :: (38, undef) :: (33, undef) :: _) _
      refine J.pr (fun hF => ?_)
      (first | refine J.skip rfl rfl rfl rfl rfl ?_ | refine J.skipU rfl rfl rfl rfl ?_)
      exact J.finX rfl (fun _ hw => ⟨⟨xu, uu⟩, rfl, fun _ _ _ => rfl, hF, hw⟩)
     ·obtain ⟨xu, uu⟩ := x
      show J _ _ _ _ _ ((39, undef) :: (28, .bool true) :: _) _
      refine J.pr (fun hF => ?_)
      (first | refine J.pickT rfl rfl rfl ?_ | refine J.pickF rfl rfl rfl ?_)
      exact J.finX rfl (fun _ hw => ⟨⟨xu, uu⟩, rfl, fun _ _ _ => rfl, hF, hw⟩)
     ·obtain ⟨xu, uu⟩ := x
      show J _ _ _ _ _ ((28, .bool true) :: (40, .bool true) :: _) _
      refine J.pr (fun hF => ?_); refine J.move rfl rfl ?_
      exact J.finX rfl (fun _ hw => ⟨⟨xu, uu⟩, rfl, fun _ _ _ => rfl, hF, hw⟩)
     ·obtain ⟨xu, uu⟩ := x
      show J _ _ _ _ _ ((41, .bool true) :: _) _
      refine J.pr (fun hF => ?_)
      first | refine J.skip rfl rfl rfl rfl rfl ?_ | refine J.skipU rfl rfl rfl rfl ?_ | (refine J.unguard rfl rfl rfl ?_; refine J.move rfl rfl ?_)
      exact J.finX rfl (fun _ hw => ⟨⟨xu, uu⟩, rfl, fun _ _ _ => rfl, hF, hw⟩)
     ·obtain ⟨xu, uu⟩ := x
      show J _ _ _ _ _ ((41, .bool true) :: _) _
      refine J.pr (fun hF => ?_)
      first | refine J.skip rfl rfl rfl rfl rfl ?_ | refine J.skipU rfl rfl rfl rfl ?_ | (refine J.unguard rfl rfl rfl ?_; refine J.move rfl rfl ?_)
      exact J.finX rfl (fun _ hw => ⟨⟨xu, uu⟩, rfl, fun _ _ _ => rfl, hF, hw⟩)
     ·obtain ⟨xu, uu⟩ := x
      show J _ _ _ _ _ ((41, .bool true) :: (43, undef) :: (42, undef) :: _) _
      refine J.pr (fun hF => ?_)
      first | refine J.skip rfl rfl rfl rfl rfl ?_ | refine J.skipU rfl rfl rfl rfl ?_ | (refine J.unguard rfl rfl rfl ?_; refine J.indexAddrS Ty.el44 Ty.s28 rfl rfl (by omega) (by omega) rfl ?_)
      exact J.finX rfl (fun _ hw => ⟨⟨xu, uu⟩, rfl, fun _ _ _ => rfl, hF, hw⟩)
     ·obtain ⟨xu, uu⟩ := x
      show J _ _ _ _ _ ((41, .bool true) :: (44, undef) :: _) _
      refine J.pr (fun hF => ?_)
      first | refine J.skip rfl rfl rfl rfl rfl ?_ | refine J.skipU rfl rfl rfl rfl ?_ | (refine J.unguard rfl rfl rfl ?_; refine J.fieldAddr Ty.fd28_2 rfl rfl ?_)
      exact J.finX rfl (fun _ hw => ⟨⟨xu, uu⟩, rfl, fun _ _ _ => rfl, hF, hw⟩)
     ·obtain ⟨xu, uu⟩ := x
      show J _ _ _ _ _ ((41, .bool true) :: (45, undef) :: _) _
      refine J.pr (fun hF => ?_)
      first | refine J.skip rfl rfl rfl rfl rfl ?_ | refine J.skipU rfl rfl rfl rfl ?_ | (refine J.unguard rfl rfl rfl ?_; refine J.loadO Ty.a26 rfl zm (by exact rfl) rfl ?_)
      exact J.finX rfl (fun _ hw => ⟨⟨xu, uu⟩, rfl, fun _ _ _ => rfl, hF, hw⟩)
     ·obtain ⟨xu, uu⟩ := x
      show J _ _ _ _ _ ((41, .bool true) :: (46, undef) :: _) _
      refine J.pr (fun hF => ?_)
      first | refine J.skip rfl rfl rfl rfl rfl ?_ | refine J.skipU rfl rfl rfl rfl ?_ | (refine J.unguard rfl rfl rfl ?_; fail)
      exact J.finX rfl (fun _ hw => ⟨⟨xu, uu⟩, rfl, fun _ _ _ => rfl, hF, hw⟩)
     ·obtain ⟨xu, uu⟩ := x
      show J _ _ _ _ _ ((41, .bool true) :: _) _
      refine J.pr (fun hF => ?_)
      first | refine J.skip rfl rfl rfl rfl rfl ?_ | refine J.skipU rfl rfl rfl rfl ?_ | (refine J.unguard rfl rfl rfl ?_; refine J.move rfl rfl ?_)
      exact J.finX rfl (fun _ hw => ⟨⟨xu, uu⟩, rfl, fun _ _ _ => rfl, hF, hw⟩)
     ·obtain ⟨xu, uu⟩ := x
      show J _ _ _ _ _ ((41, .bool true) :: _) _
      refine J.pr (fun hF => ?_)
      first | refine J.skip rfl rfl rfl rfl rfl ?_ | refine J.skipU rfl rfl rfl rfl ?_ | (refine J.unguard rfl rfl rfl ?_; refine J.move rfl rfl ?_)
      exact J.finX rfl (fun _ hw => ⟨⟨xu, uu⟩, rfl, fun _ _ _ => rfl, hF, hw⟩)
     ·obtain ⟨xu, uu⟩ := x
      show J _ _ _ _ _ ((41, .bool true) :: (49, undef) :: (48, undef) :: _) _
      refine J.pr (fun hF => ?_)
      first | refine J.skip rfl rfl rfl rfl rfl ?_ | refine J.skipU rfl rfl rfl rfl ?_ | (refine J.unguard rfl rfl rfl ?_; refine J.indexAddrS Ty.el44 Ty.s28 rfl rfl (by omega) (by omega) rfl ?_)
      exact J.finX rfl (fun _ hw => ⟨⟨xu, uu⟩, rfl, fun _ _ _ => rfl, hF, hw⟩)
     ·obtain ⟨xu, uu⟩ := x
      show J _ _ _ _ _ ((41, .bool true) :: (50, undef) :: _) _
      refine J.pr (fun hF => ?_)
      first | refine J.skip rfl rfl rfl rfl rfl ?_ | refine J.skipU rfl rfl rfl rfl ?_ | (refine J.unguard rfl rfl rfl ?_; refine J.fieldAddr Ty.fd28_2 rfl rfl ?_)
      exact J.finX rfl (fun _ hw => ⟨⟨xu, uu⟩, rfl, fun _ _ _ => rfl, hF, hw⟩)
     ·obtain ⟨xu, uu⟩ := x
      show J _ _ _ _ _ ((41, .bool true) :: (51, undef) :: _) _
      refine J.pr (fun hF => ?_)
      first | refine J.skip rfl rfl rfl rfl rfl ?_ | refine J.skipU rfl rfl rfl rfl ?_ | (refine J.unguard rfl rfl rfl ?_; refine J.loadO Ty.a26 rfl zm (by exact rfl) rfl ?_)
      exact J.finX rfl (fun _ hw => ⟨⟨xu, uu⟩, rfl, fun _ _ _ => rfl, hF, hw⟩)
     ·obtain ⟨xu, uu⟩ := x
      show J _ _ _ _ _ ((41, .bool true) :: (52, undef) :: _) _
      refine J.pr (fun hF => ?_)
      first | refine J.skip rfl rfl rfl rfl rfl ?_ | refine J.skipU rfl rfl rfl rfl ?_ | (refine J.unguard rfl rfl rfl ?_; fail)
      exact J.finX rfl (fun _ hw => ⟨⟨xu, uu⟩, rfl, fun _ _ _ => rfl, hF, hw⟩)
     ·obtain ⟨xu, uu⟩ := x
      show J _ _ _ _ _ ((41, .bool true) :: (53, undef) :: (47, undef) :: _) _
      refine J.pr (fun hF => ?_)
      first | refine J.skip rfl rfl rfl rfl rfl ?_ | refine J.skipU rfl rfl rfl rfl ?_ | (refine J.unguard rfl rfl rfl ?_; (first | refine J.strNe rfl rfl rfl ?_ | refine J.bin rfl rfl rfl rfl ?_))
      exact J.finX rfl (fun _ hw => ⟨⟨xu, uu⟩, rfl, fun _ _ _ => rfl, hF, hw⟩)
     ·obtain ⟨xu, uu⟩ := x
      show J _ _ _ _ _ ((54, undef) :: (41, .bool true) :: _) _
      refine J.pr (fun hF => ?_)
      (first | refine J.pickT rfl rfl rfl ?_ | refine J.pickF rfl rfl rfl ?_)
      exact J.finX rfl (fun _ hw => ⟨⟨xu, uu⟩, rfl, fun _ _ _ => rfl, hF, hw⟩)
    case htail =>
     intro x
     obtain ⟨xu, uu⟩ := x
     show J _ _ _ _ _ ((55, .bool true) :: (54, undef) :: (53, undef) :: (52, undef) :: (51, undef) :: (50, undef) :: (49, undef) :: (48, undef) :: (47, undef) :: (46, undef) :: (45, undef) :: (44, undef) :: (43, undef) :: (42, undef) :: (41, .bool true) :: (40, .bool true) :: (39, undef) :: (38, undef) :: (37, undef) :: (36, undef) :: (35, undef) :: (34, undef) :: (33, undef) :: (32, undef) :: (31, undef) :: (30, undef) :: (29, undef) :: (28, .bool true) :: (27, .bool true) :: (26, .agg (cI ky).toArray) :: (25, .pointer (some ⟨q2, o2 + ((i : Nat) : Int).toNat * 34 + 0, none⟩)) :: (24, .pointer (some ⟨q2, o2 + ((i : Nat) : Int).toNat * 34, none⟩)) :: (23, .int .i64 ((i : Nat) : Int)) :: (22, .slice (some ⟨q2, o2, none⟩) bs.length c2) :: (21, .agg (cI kx).toArray) :: (20, .pointer (some ⟨q1, o1 + ((i : Nat) : Int).toNat * 34 + 0, none⟩)) :: (19, .pointer (some ⟨q1, o1 + ((i : Nat) : Int).toNat * 34, none⟩)) :: (18, .int .i64 ((i : Nat) : Int)) :: (17, .slice (some ⟨q1, o1, none⟩) xa.length c1) :: _) (fun w1 => (True) ∧ St w [] ([]) w1)
     refine J.pr (fun hF => ?_); refine J.nil ?_; refine JX.thenN (hK9 _ _ ?_)
     first | refine JC.condT rfl ?_ | refine JC.cond rfl (fun _ => ?_) (fun h => by first | (exfalso; simp at h; omega) | (simp at h))
     refine JC.seq (fun K12 hK12 => ?_); refine JC.region ?_; refine J.assign rfl rfl ?_; refine J.nil ?_; refine JX.thenN (hK12 _ _ ?_); refine JC.ret ?_; refine JX.blockR ?_; refine JX.thenR ?_; refine JX.thenR ?_; refine JX.blockR ?_; refine JX.thenR ?_; refine JX.ret1 rfl rfl (fun w hw => ?_)
     first
     | exact ⟨by rw [decide_eq_true hg], hw.below⟩
     | exact ⟨by rw [decide_eq_false hg], hw.below⟩
  ·have hge : i = xa.length := by simp at h1; omega
   have hg : xa.map HI.it = bs.map HI.it := by
    rw [hge, List.take_of_length_le (Nat.le_refl _), List.take_of_length_le (by omega)] at hti
    exact hti
   refine JC.exit ?_; refine JX.thenE ?_; refine JX.thenE ?_; refine JX.blockE ?_; refine JX.thenN (hK4 _ _ ?_); refine JC.seq (fun K13 hK13 => ?_); refine JC.region ?_; refine J.assign rfl rfl ?_; refine J.nil ?_; refine JX.thenN (hK13 _ _ ?_); refine JC.ret ?_; refine JX.ret1 rfl rfl (fun w hw => ?_)
   first
   | exact ⟨by rw [decide_eq_true hg], hw.below⟩
   | exact ⟨by rw [decide_eq_false hg], hw.below⟩

end Go.Proofs.Ytoaenmlhehcjfaa
/-
 The law's holds: contract.
-/
namespace Go.Proofs.Ytoaenmlhehcjfaa
open Go.J Go.RowKit
set_option linter.unusedVariables false
set_option linter.unusedSimpArgs false
set_option maxRecDepth 8000

end Go.Proofs.Ytoaenmlhehcjfaa
/-
 Plain laws of merging; VaultNewest: the walk.
-/
namespace Go.Proofs.Ytoaenmlhehcjfaa
open Go.J Go.RowKit
set_option linter.unusedVariables false
set_option linter.unusedSimpArgs false
set_option maxRecDepth 8000
theorem newB_iff {a b : WV} : newB a b = true ↔ b.n < a.n ∨ (a.n = b.n ∧ valI b.who < valI a.who) := by
 unfold newB
 rw [Bool.or_eq_true, Bool.and_eq_true, decide_eq_true_eq, decide_eq_true_eq, decide_eq_true_eq]
theorem newB_le {x y t : WV} (h1 : newB x y = true) (h2 : newB t y = false) : newB t x = false := by
 rw [Bool.eq_false_iff, ne_eq, newB_iff] at h2 ⊢
 rw [newB_iff] at h1
 omega
theorem newB_self (x : WV) : newB x x = false := by
 rw [Bool.eq_false_iff, ne_eq, newB_iff]
 omega
theorem hget_set {L : List HI} (hd : L.Pairwise (fun x y => x.key ≠ y.key)) (x : HI) (k : IDV) : hget (hset L x) k = if k = x.key then some x else hget L k := by
 cases h : hget L x.key with
 | none =>
  have e : hset L x = L ++ [x] := by unfold hset; rw [h]; rfl
  rw [e]
  unfold hget
  rw [List.find?_append]
  by_cases hk : k = x.key
  ·subst hk
   rw [if_pos rfl]
   have h0 : L.find? (fun h => decide (h.key = x.key)) = none := h
   rw [h0]
   simp
  ·rw [if_neg hk]
   have : [x].find? (fun h => decide (h.key = k)) = none := by simp [Ne.symm hk]
   rw [this, Option.or_none]
 | some y =>
  obtain ⟨l1, l2, h1, h2⟩ := hset_split hd h
  have hyk := (hget_some h).2
  rw [h2]
  by_cases hk : k = x.key
  ·subst hk
   rw [if_pos rfl]
   unfold hget
   rw [List.find?_append]
   have hn : l1.find? (fun h => decide (h.key = x.key)) = none := List.find?_eq_none.2 fun z hz => by
    rw [h1] at hd
    have := (List.pairwise_append.1 hd).2.2 z hz y (.head _)
    simp only [decide_eq_true_eq]
    exact fun e => this (e.trans hyk.symm)
   rw [hn]
   simp
  ·rw [if_neg hk, h1]
   unfold hget
   rw [List.find?_append, List.find?_append, List.find?_cons, List.find?_cons]
   have e1 : decide (x.key = k) = false := decide_eq_false (Ne.symm hk)
   have e2 : decide (y.key = k) = false := decide_eq_false (fun e => hk (by rw [← e, hyk]))
   rw [e1, e2]
/-- of each key a version is kept that isn't older than any that was taken; and what is kept was handed in -/
structure Kept (L sure tried : List HI) : Prop where
 sure : ∀ x, x ∈ sure → ∃ y, hget L x.key = some y ∧ newB x.ver y.ver = false
 tried : ∀ x, x ∈ L → x.it ∈ tried.map HI.it
theorem Kept.nil : Kept [] [] [] := ⟨fun _ h => (by cases h), fun _ h => (by cases h)⟩
theorem Kept.more {L sure tried : List HI} (h : Kept L sure tried) (t : HI) : Kept L sure (tried ++ [t]) := ⟨h.sure, fun x hx => by rw [List.map_append]; exact List.mem_append_left _ (h.tried x hx)⟩
theorem Kept.old {L sure tried : List HI} (h : Kept L sure tried) (t : HI) (ht : ∃ y, hget L t.key = some y ∧ newB t.ver y.ver = false) : Kept L (sure ++ [t]) (tried ++ [t]) := ⟨fun x hx => by
 rcases List.mem_append.1 hx with hx | hx
 ·exact h.sure x hx
 ·rw [List.mem_singleton.1 hx]; exact ht, (h.more t).tried⟩
/-- a newer version is kept -/
theorem Kept.set {L sure tried : List HI} (hd : L.Pairwise (fun x y => x.key ≠ y.key)) (h : Kept L sure tried) (x t : HI) (ht : x.it = t.it) (hn : ∀ y, hget L x.key = some y → newB x.ver y.ver = true) : Kept (hset L x) (sure ++ [t]) (tried ++ [t]) := by
 have hk : x.key = t.key := congrArg ItV.key ht
 have hv : x.ver = t.ver := congrArg ItV.ver ht
 refine ⟨fun z hz => ?_, fun z hz => ?_⟩
 ·rw [hget_set hd]
  rcases List.mem_append.1 hz with hz | hz
  ·obtain ⟨y, hy1, hy2⟩ := h.sure z hz
   by_cases hkz : z.key = x.key
   ·rw [if_pos hkz]
    exact ⟨x, rfl, newB_le (hn y (by rw [← hkz]; exact hy1)) hy2⟩
   ·rw [if_neg hkz]; exact ⟨y, hy1, hy2⟩
  ·rw [List.mem_singleton.1 hz, if_pos hk.symm]
   exact ⟨x, rfl, by rw [hv]; exact newB_self _⟩
 ·rw [List.map_append]
  rcases hset_mem hz with rfl | hz
  ·exact List.mem_append_right _ (by rw [ht]; exact .head _)
  ·exact List.mem_append_left _ (h.tried z hz)
theorem row_off {w w1 : World} {l : List (Nat × Obj)} {v : Value} {k : Nat} {xs : List Value} {T : List Nat} (h : Row w v k xs) (hw : St w [] l w1) (hT : ∀ b, b ∈ T → b ∈ l.map (·.1)) : Off T v xs := by
 obtain ⟨a, c, rfl, hc, h⟩ := h
 by_cases hx : xs = []
 ·exact .inl hx
 ·rcases h with h | ⟨b, o, rfl, hcl⟩
  ·exact absurd h hx
  ·refine .inr fun b' o' k' c' e => ?_
   simp only [Value.slice.injEq, Option.some.injEq, Addr.mk.injEq] at e
   rw [← e.1.1]
   exact fun hm => St.notin hw (hcl.lt hx) (hT _ hm)
structure NwS where
 i : Nat
 q : LogP
 dn : Bool
 σ : DS
 L : List HI
 es : Array MapEntry
 ck : Nat
 tk : List HI
 v5 : Value
 l5 : List (Nat × Obj)
structure NwI (w : World) (st : NwS) : Prop where
 i : st.i ≤ 61
 log : LogI 900 st.q st.σ
 k0 : 0 ≤ st.σ.k
 k : st.σ.k ≤ 100 + 19 * st.i
 gen : st.q.gen ≤ st.i + 1
 vm : Vm st.L st.es st.ck
 ok : VOK st.L
 len : st.L.length ≤ st.i
 short : ∀ x, x ∈ st.L → x.bs.length ≤ 64
 kept : Kept st.L st.tk st.tk
 tkl : st.tk.length ≤ st.i
 tke : ∀ x, x ∈ st.tk → (∃ a c, x.sv = .slice a x.bs.length c) ∧ Row w x.sv x.bs.length (x.bs.map u8) ∧ okN x.ver.n
 vec : Vec 28 34 st.v5 st.tk.length (st.tk.flatMap cH) st.l5

def QN1 : LogP := ⟨1, 1, 1, [incB 1]⟩

def toHI (x : ItX) : HI := ⟨x.key, x.ver, x.v.xs, x.v.v, []⟩
end Go.Proofs.Ytoaenmlhehcjfaa
/-
 Plain laws of what a vault keeps, wherever power fails.
-/
namespace Go.Proofs.Ytoaenmlhehcjfaa
open Go.J Go.RowKit
set_option linter.unusedVariables false
set_option linter.unusedSimpArgs false
set_option maxRecDepth 8000
/-- the same on plain items -/
structure KeptV (L : List ItV) (sure tried : List HI) : Prop where
 sure : ∀ x, x ∈ sure → ∃ y, getV L x.key = some y ∧ newB x.ver y.ver = false
 tried : ∀ x, x ∈ L → x ∈ tried.map HI.it
theorem KeptV.of {L : List HI} {sure tried : List HI} (h : Kept L sure tried) : KeptV (L.map HI.it) sure tried := ⟨fun x hx => by
 obtain ⟨y, h1, h2⟩ := h.sure x hx
 exact ⟨y.it, by rw [hget_it, h1]; rfl, h2⟩, fun x hx => by
 obtain ⟨z, hz, rfl⟩ := List.mem_map.1 hx
 exact h.tried z hz⟩
theorem KeptV.to {L : List HI} {sure tried : List HI} (h : KeptV (L.map HI.it) sure tried) : Kept L sure tried := ⟨fun x hx => by
 obtain ⟨y, h1, h2⟩ := h.sure x hx
 rw [hget_it] at h1
 obtain ⟨z, hz, rfl⟩ := Option.map_eq_some_iff.1 h1
 exact ⟨z, hz, h2⟩, fun x hx => h.tried _ (List.mem_map.2 ⟨x, hx, rfl⟩)⟩
/-- a version above the kept one is put, whatever the two lists get of it -/
theorem Kept.put {L sure tried : List HI} (hd : L.Pairwise (fun x y => x.key ≠ y.key)) (h : Kept L sure tried) (x s t : HI) (hs : s.it = x.it) (ht : x.it = t.it) (hn : ∀ y, hget L x.key = some y → newB x.ver y.ver = true) : Kept (hset L x) (sure ++ [s]) (tried ++ [t]) := by
 have h0 := h.set hd x t ht hn
 refine ⟨fun z hz => ?_, h0.tried⟩
 rcases List.mem_append.1 hz with hz | hz
 ·exact h0.sure z (List.mem_append_left _ hz)
 ·rw [List.mem_singleton.1 hz]
  have hk : s.key = x.key := congrArg ItV.key hs
  have hv : s.ver = x.ver := congrArg ItV.ver hs
  refine ⟨x, ?_, by rw [hv]; exact newB_self _⟩
  rw [hget_set hd, if_pos hk]
end Go.Proofs.Ytoaenmlhehcjfaa
/-
 VaultBegins: the walk.
-/
namespace Go.Proofs.Ytoaenmlhehcjfaa
open Go.J Go.RowKit
set_option linter.unusedVariables false
set_option linter.unusedSimpArgs false
set_option maxRecDepth 8000
section
variable {P : Program} {ops : Array Oper} {Q : Exit → Act → World → Prop} {n : Nat} {e : Env} {I I' : World → Prop} {rest : List Oper}
variable {d t yt : Nat} {p : String} {af : Array Edge} {x y z : Operand}
theorem J.remV {ty : TypeId} {a b : Int} (hx : ev e x = some (.int .u64 a)) (hy : ev e y = some (.int .u64 b)) (h1 : 0 ≤ a) (h3 : 0 < b) (hd : Nat.blt d n = true)
  (h : J P ops Q n rest ((d, .int .u64 (a % b)) :: e) I) : J P ops Q n (⟨some d, .binOp .rem ty x y yt, t, p, af, none⟩ :: rest) e I := by
 refine J.bin (v := .int .u64 (a.tmod b)) hx hy ?_ hd ?_
 ·simp only [binI, if_true]
  rw [if_neg (by omega)]
 ·rw [Int.tmod_eq_emod_of_nonneg h1]; exact h
end
theorem LogI.power {n : Nat} {q : LogP} {σ : DS} (h : LogI n q σ) (p : Int) (hp : p < 9223372036854775808) : LogI n q ⟨σ.B, p, σ.k⟩ := ⟨h.len, h.open_, hp⟩
structure BgS where
 i : Nat
 last : Nat
 q : LogP
 σ : DS
structure BgI (n : Nat) (st : BgS) : Prop where
 log : LogI n st.q st.σ
 held : heldV st.q.recs = some (st.last, [])
 used : st.q.used ≤ st.i
 gen : st.q.gen ≤ st.i
 last : st.last ≤ st.i
 k0 : 0 ≤ st.σ.k
 k : st.σ.k ≤ 19 * st.i
/-- one beginning more -/
theorem BgI.ok {n : Nat} {st : BgS} (h : BgI n st) {σ' : DS} (hl : LogI n ⟨st.q.gen + 1, st.q.used + 1, st.q.cnt + 1, st.q.recs ++ [incB (st.last + 1)]⟩ σ') (hi : st.i ≤ 1000) (hk : st.σ.k ≤ σ'.k) (hk2 : σ'.k ≤ st.σ.k + 19) :
  BgI n ⟨st.i + 1, st.last + 1, ⟨st.q.gen + 1, st.q.used + 1, st.q.cnt + 1, st.q.recs ++ [incB (st.last + 1)]⟩, σ'⟩ := by
 have h1 := h.used
 have h2 := h.gen
 have h3 := h.last
 have h4 := h.k0
 have h5 := h.k
 exact ⟨hl, held_inc h.held (by omega), by simp only; omega, by simp only; omega, by simp only; omega, by simp only; omega, by simp only; omega⟩
theorem BgI.bad {n : Nat} {st : BgS} (h : BgI n st) {σ' : DS} (hl : LogI n st.q σ') (hk : st.σ.k ≤ σ'.k) (hk2 : σ'.k ≤ st.σ.k + 19) : BgI n ⟨st.i + 1, st.last, st.q, σ'⟩ := by
 have h1 := h.used
 have h2 := h.gen
 have h3 := h.last
 have h4 := h.k0
 have h5 := h.k
 exact ⟨hl, h.held, by simp only; omega, by simp only; omega, by simp only; omega, by simp only; omega, by simp only; omega⟩

end Go.Proofs.Ytoaenmlhehcjfaa
/-
 VaultKeeps: the walk.
-/
namespace Go.Proofs.Ytoaenmlhehcjfaa
open Go.J Go.RowKit
set_option linter.unusedVariables false
set_option linter.unusedSimpArgs false
set_option maxRecDepth 8000
structure KpS where
 k : Nat
 at_ : Nat
 q : LogP
 σ : DS
 Lp : List ItV
 sure : List HI
 tried : List HI
 v6 : Value
 l6 : List (Nat × Obj)
 v7 : Value
 l7 : List (Nat × Obj)
structure KpI (w : World) (st : KpS) : Prop where
 k : st.k ≤ 16
 at_ : st.at_ ≤ 60
 log : LogI 900 st.q st.σ
 held : heldV st.q.recs = some (st.k, st.Lp)
 k0 : 0 ≤ st.σ.k
 kb : st.σ.k ≤ 19 * (st.at_ + st.k)
 gen : st.q.gen ≤ st.at_ + st.k
 used : st.q.used ≤ 3 * st.at_ + st.k
 kept : KeptV st.Lp st.sure st.tried
 len : st.Lp.length ≤ st.at_
 short : ∀ x, x ∈ st.Lp → x.bs.length ≤ 64
 sl : st.sure.length ≤ st.at_
 tl : st.tried.length ≤ st.at_
 sf : ∀ x, x ∈ st.sure → ∃ a c, x.sv = .slice a x.bs.length c
 te : ∀ x, x ∈ st.tried → (∃ a c, x.sv = .slice a x.bs.length c) ∧ Row w x.sv x.bs.length (x.bs.map u8) ∧ okN x.ver.n
 vec6 : Vec 28 34 st.v6 st.sure.length (st.sure.flatMap cH) st.l6
 vec7 : Vec 28 34 st.v7 st.tried.length (st.tried.flatMap cH) st.l7
structure KqS where
 at_ : Nat
 q : LogP
 dn : Bool
 σ : DS
 L : List HI
 es : Array MapEntry
 ck : Nat
 sure : List HI
 tried : List HI
 v6 : Value
 l6 : List (Nat × Obj)
 v7 : Value
 l7 : List (Nat × Obj)
structure KqI (w : World) (k : Nat) (st : KqS) : Prop where
 at_ : st.at_ ≤ 60
 log : LogI 900 st.q st.σ
 held : heldV st.q.recs = some (k + 1, st.L.map HI.it)
 k0 : 0 ≤ st.σ.k
 kb : st.σ.k ≤ 19 * (st.at_ + k + 1)
 gen : st.q.gen ≤ st.at_ + k + 1
 used : st.q.used ≤ 3 * st.at_ + k + 1
 vm : Vm st.L st.es st.ck
 ok : VOK st.L
 len : st.L.length ≤ st.at_
 short : ∀ x, x ∈ st.L → x.bs.length ≤ 64
 kept : Kept st.L st.sure st.tried
 sl : st.sure.length ≤ st.at_
 tl : st.tried.length ≤ st.at_
 sf : ∀ x, x ∈ st.sure → ∃ a c, x.sv = .slice a x.bs.length c
 te : ∀ x, x ∈ st.tried → (∃ a c, x.sv = .slice a x.bs.length c) ∧ Row w x.sv x.bs.length (x.bs.map u8) ∧ okN x.ver.n
 vec6 : Vec 28 34 st.v6 st.sure.length (st.sure.flatMap cH) st.l6
 vec7 : Vec 28 34 st.v7 st.tried.length (st.tried.flatMap cH) st.l7
theorem okN_up {n : Int} (h1 : 0 ≤ n) (h2 : n < 9223372036854775808) : okN n := by
 obtain ⟨m, rfl⟩ : ∃ m : Nat, n = (m : Int) := ⟨n.toNat, by omega⟩
 exact okN_of (by omega)
end Go.Proofs.Ytoaenmlhehcjfaa
/-
 The document's Read: contract.
-/
namespace Go.Proofs.Ytoaenmlhehcjfaa
open Go.J Go.RowKit
set_option linter.unusedVariables false
set_option linter.unusedSimpArgs false
set_option maxRecDepth 8000
theorem getT_endle (bs : List UInt8) (at_ most : Nat) : (getT bs at_ most).2.1 ≤ bs.length := by
 have h := getN_end bs at_
 unfold getT
 split
 ·exact Nat.zero_le _
 ·split
  ·exact Nat.zero_le _
  ·split
   ·exact Nat.zero_le _
   ·simp only; omega
inductive RdR where
 | no (n : Int)
 | inc (n : Nat)
 | item (h : HI)
def RdR.val : RdR → Value
 | .no n => .tuple #[.agg (cH zH).toArray, .int .i64 n, .bool false]
 | .inc n => .tuple #[.agg (cH zH).toArray, .int .i64 ((n : Nat) : Int), .bool true]
 | .item h => .tuple #[.agg (cH h).toArray, .int .i64 0, .bool true]
def RdR.lst : RdR → List (Nat × Obj)
 | .item h => h.lp
 | _ => []
def RdR.Pr (bs : List UInt8) : RdR → Prop
 | .no _ => readP 0 bs = none
 | .inc n => readP 0 bs = some (.inl n)
 | .item h => readP 0 bs = some (.inr h.it) ∧ okV h.ver.n ∧ Vec 5 1 h.sv h.bs.length (h.bs.map u8) h.lp

set_option maxHeartbeats 1000000 in
theorem rread18_spec (v : Value) (bs : List UInt8) (w : World) (hr : Row w v bs.length (bs.map u8)) (hl : bs.length ≤ 2000) :
  Calls Try.prog 74 [v].toArray w fun r w' => ∃ z : RdR, r = .returned z.val ∧ z.Pr bs ∧ St w [] z.lst w' := by
 obtain ⟨a, c, rfl, hc, _⟩ := id hr
 refine calls_of_J (args := [.slice a bs.length c]) (e := [(0, .slice a bs.length c)]) Try.func74 rfl rfl ⟨rfl, trivial⟩ (St.start w) ?_; refine JC.seq (fun K0 hK0 => ?_); refine JC.region ?_; refine J.alloc Ty.zIt rfl rfl (fun b2 => ?_); refine J.assign rfl rfl ?_; refine J.assign rfl rfl ?_; refine J.nil ?_; refine JX.thenN (hK0 _ _ ?_); refine JC.seq (fun K1 hK1 => ?_); refine JC.region ?_; refine J.move rfl rfl ?_
 obtain ⟨⟨n0, p0, e0⟩, hN0⟩ : ∃ x, getN bs 0 = x := ⟨_, rfl⟩
 have hn0b := getN_end bs 0
 have hn0u := getN_u64 bs 0
 rw [hN0] at hn0b hn0u
 simp only at hn0b hn0u
 refine J.callB (v := .tuple #[.int .u64 ((n0 : Nat) : Int), .int .i64 ((p0 : Nat) : Int), .int .i64 e0]) (fun w1 w2 hw hb => hw.step hb) Ty.bd80 rfl rfl (fun w1 hw => by have h9 := rgetNum_spec _ bs 0 w1 (hr.below (hw.drop (List.nil_sublist _)).below) (by omega) (by omega); rw [hN0] at h9; exact h9) ?_; refine J.move rfl rfl ?_; refine J.extract rfl rfl rfl ?_; refine J.extract rfl rfl rfl ?_; refine J.extract rfl rfl rfl ?_; refine J.assign rfl rfl ?_; refine J.assign rfl rfl ?_; refine J.assign rfl rfl ?_; refine J.nil ?_; refine JX.thenN (hK1 _ _ ?_); refine JC.seq (fun K2 hK2 => ?_); refine JC.seq (fun K3 hK3 => ?_)
 by_cases xa : e0 ≠ 0
 ·have hg : readP 0 bs = none := readP_0 hN0 (.inl xa)
  refine JC.region ?_; refine J.move rfl rfl ?_; refine J.bin rfl rfl rfl rfl ?_; refine J.name 22 rfl (show _ = Value.bool true by simp [xa]) ?_; refine J.move rfl rfl ?_
  first | refine J.skip rfl rfl rfl rfl rfl ?_ | refine J.skipU rfl rfl rfl rfl ?_ | (refine J.unguard rfl rfl rfl ?_; refine J.move rfl rfl ?_)
  first | refine J.skip rfl rfl rfl rfl rfl ?_ | refine J.skipU rfl rfl rfl rfl ?_ | (refine J.unguard rfl rfl rfl ?_; refine J.bin rfl rfl rfl rfl ?_)
  (first | refine J.pickT rfl rfl rfl ?_ | refine J.pickF rfl rfl rfl ?_)
  refine J.move rfl rfl ?_
  first | refine J.skip rfl rfl rfl rfl rfl ?_ | refine J.skipU rfl rfl rfl rfl ?_ | (refine J.unguard rfl rfl rfl ?_; refine J.move rfl rfl ?_)
  first | refine J.skip rfl rfl rfl rfl rfl ?_ | refine J.skipU rfl rfl rfl rfl ?_ | (refine J.unguard rfl rfl rfl ?_; refine J.bin rfl rfl rfl rfl ?_)
  (first | refine J.pickT rfl rfl rfl ?_ | refine J.pickF rfl rfl rfl ?_)
  refine J.nil ?_; refine JX.thenN (hK3 _ _ ?_)
  first | refine JC.condT rfl ?_ | refine JC.cond rfl (fun _ => ?_) (fun h => by first | (exfalso; simp at h; omega) | (simp at h))
  refine JC.seq (fun K4 hK4 => ?_); refine JC.region ?_; refine J.buildS (cs := cH zH) Ty.pl28 Ty.zIt rfl (by kernel_rfl) rfl ?_; refine J.storeW (cs := cH zH) (vs := cH zH) Ty.s28 rfl rfl rfl rfl rfl (one_cH (x := zH) rfl) zu ?_; refine J.assign rfl rfl ?_; refine J.assign rfl rfl ?_; refine J.nil ?_; refine JX.thenN (hK4 _ _ ?_); refine JC.ret ?_; refine JX.thenR ?_; refine JX.retCTT (vs := cH zH) rfl rfl rfl rfl Ty.a28 Ty.s28 rfl (fun w1 hw => Cells.of_block (hw.own (b2, cb (cH zH) 28) zm) rfl) (fun w1 hw => ?_)
  exact ⟨.no 0, rfl, hg, hw.drop (List.nil_sublist _)⟩
 ·by_cases xb : n0 < 1
  ·have hg : readP 0 bs = none := readP_0 hN0 (.inr ⟨by omega, by omega⟩)
   refine JC.region ?_; refine J.move rfl rfl ?_; refine J.bin rfl rfl rfl rfl ?_; refine J.name 22 rfl (show _ = Value.bool false by have xz : e0 = 0 := (by omega); simp [xz]) ?_; refine J.move rfl rfl ?_
   first | refine J.skip rfl rfl rfl rfl rfl ?_ | refine J.skipU rfl rfl rfl rfl ?_ | (refine J.unguard rfl rfl rfl ?_; refine J.move rfl rfl ?_)
   refine J.unguard rfl rfl rfl ?_; refine J.bin rfl rfl rfl rfl ?_; refine J.name 25 rfl (show _ = Value.bool true by simp; omega) ?_
   (first | refine J.pickT rfl rfl rfl ?_ | refine J.pickF rfl rfl rfl ?_)
   refine J.move rfl rfl ?_
   first | refine J.skip rfl rfl rfl rfl rfl ?_ | refine J.skipU rfl rfl rfl rfl ?_ | (refine J.unguard rfl rfl rfl ?_; refine J.move rfl rfl ?_)
   first | refine J.skip rfl rfl rfl rfl rfl ?_ | refine J.skipU rfl rfl rfl rfl ?_ | (refine J.unguard rfl rfl rfl ?_; refine J.bin rfl rfl rfl rfl ?_)
   (first | refine J.pickT rfl rfl rfl ?_ | refine J.pickF rfl rfl rfl ?_)
   refine J.nil ?_; refine JX.thenN (hK3 _ _ ?_)
   first | refine JC.condT rfl ?_ | refine JC.cond rfl (fun _ => ?_) (fun h => by first | (exfalso; simp at h; omega) | (simp at h))
   refine JC.seq (fun K5 hK5 => ?_); refine JC.region ?_; refine J.buildS (cs := cH zH) Ty.pl28 Ty.zIt rfl (by kernel_rfl) rfl ?_; refine J.storeW (cs := cH zH) (vs := cH zH) Ty.s28 rfl rfl rfl rfl rfl (one_cH (x := zH) rfl) zu ?_; refine J.assign rfl rfl ?_; refine J.assign rfl rfl ?_; refine J.nil ?_; refine JX.thenN (hK5 _ _ ?_); refine JC.ret ?_; refine JX.thenR ?_; refine JX.retCTT (vs := cH zH) rfl rfl rfl rfl Ty.a28 Ty.s28 rfl (fun w1 hw => Cells.of_block (hw.own (b2, cb (cH zH) 28) zm) rfl) (fun w1 hw => ?_)
   exact ⟨.no 0, rfl, hg, hw.drop (List.nil_sublist _)⟩
  ·by_cases xc : 2 < n0
   ·have hg : readP 0 bs = none := readP_0 hN0 (.inr ⟨by omega, by omega⟩)
    refine JC.region ?_; refine J.move rfl rfl ?_; refine J.bin rfl rfl rfl rfl ?_; refine J.name 22 rfl (show _ = Value.bool false by have xz : e0 = 0 := (by omega); simp [xz]) ?_; refine J.move rfl rfl ?_
    first | refine J.skip rfl rfl rfl rfl rfl ?_ | refine J.skipU rfl rfl rfl rfl ?_ | (refine J.unguard rfl rfl rfl ?_; refine J.move rfl rfl ?_)
    refine J.unguard rfl rfl rfl ?_; refine J.bin rfl rfl rfl rfl ?_; refine J.name 25 rfl (show _ = Value.bool false by simp; omega) ?_
    (first | refine J.pickT rfl rfl rfl ?_ | refine J.pickF rfl rfl rfl ?_)
    refine J.move rfl rfl ?_
    first | refine J.skip rfl rfl rfl rfl rfl ?_ | refine J.skipU rfl rfl rfl rfl ?_ | (refine J.unguard rfl rfl rfl ?_; refine J.move rfl rfl ?_)
    refine J.unguard rfl rfl rfl ?_; refine J.bin rfl rfl rfl rfl ?_; refine J.name 29 rfl (show _ = Value.bool true by simp; omega) ?_
    (first | refine J.pickT rfl rfl rfl ?_ | refine J.pickF rfl rfl rfl ?_)
    refine J.nil ?_; refine JX.thenN (hK3 _ _ ?_)
    first | refine JC.condT rfl ?_ | refine JC.cond rfl (fun _ => ?_) (fun h => by first | (exfalso; simp at h; omega) | (simp at h))
    refine JC.seq (fun K6 hK6 => ?_); refine JC.region ?_; refine J.buildS (cs := cH zH) Ty.pl28 Ty.zIt rfl (by kernel_rfl) rfl ?_; refine J.storeW (cs := cH zH) (vs := cH zH) Ty.s28 rfl rfl rfl rfl rfl (one_cH (x := zH) rfl) zu ?_; refine J.assign rfl rfl ?_; refine J.assign rfl rfl ?_; refine J.nil ?_; refine JX.thenN (hK6 _ _ ?_); refine JC.ret ?_; refine JX.thenR ?_; refine JX.retCTT (vs := cH zH) rfl rfl rfl rfl Ty.a28 Ty.s28 rfl (fun w1 hw => Cells.of_block (hw.own (b2, cb (cH zH) 28) zm) rfl) (fun w1 hw => ?_)
    exact ⟨.no 0, rfl, hg, hw.drop (List.nil_sublist _)⟩
   ·have hz0 : e0 = 0 := by omega
    rw [hz0] at hN0
    refine JC.region ?_; refine J.move rfl rfl ?_; refine J.bin rfl rfl rfl rfl ?_; refine J.name 22 rfl (show _ = Value.bool false by have xz : e0 = 0 := (by omega); simp [xz]) ?_; refine J.move rfl rfl ?_
    first | refine J.skip rfl rfl rfl rfl rfl ?_ | refine J.skipU rfl rfl rfl rfl ?_ | (refine J.unguard rfl rfl rfl ?_; refine J.move rfl rfl ?_)
    refine J.unguard rfl rfl rfl ?_; refine J.bin rfl rfl rfl rfl ?_; refine J.name 25 rfl (show _ = Value.bool false by simp; omega) ?_
    (first | refine J.pickT rfl rfl rfl ?_ | refine J.pickF rfl rfl rfl ?_)
    refine J.move rfl rfl ?_
    first | refine J.skip rfl rfl rfl rfl rfl ?_ | refine J.skipU rfl rfl rfl rfl ?_ | (refine J.unguard rfl rfl rfl ?_; refine J.move rfl rfl ?_)
    refine J.unguard rfl rfl rfl ?_; refine J.bin rfl rfl rfl rfl ?_; refine J.name 29 rfl (show _ = Value.bool false by simp; omega) ?_
    (first | refine J.pickT rfl rfl rfl ?_ | refine J.pickF rfl rfl rfl ?_)
    refine J.nil ?_; refine JX.thenN (hK3 _ _ ?_)
    first | refine JC.condF rfl ?_ | refine JC.cond rfl (fun h => by first | (exfalso; simp at h; omega) | (simp at h)) (fun _ => ?_)
    refine JC.skip ?_; refine JX.thenN (hK2 _ _ ?_); refine JC.seq (fun K7 hK7 => ?_); refine JC.seq (fun K8 hK8 => ?_); refine JC.region ?_; refine J.move rfl rfl ?_; refine J.bin rfl rfl rfl rfl ?_; refine J.nil ?_; refine JX.thenN (hK8 _ _ ?_); refine JC.cond rfl (fun h1 => ?_) (fun h1 => ?_)
    ·have hk1 : n0 = 1 := by simp at h1; omega
     subst hk1
     refine JC.seq (fun K9 hK9 => ?_); refine JC.region ?_; refine J.move rfl rfl ?_; refine J.move rfl rfl ?_
     obtain ⟨⟨n1, p1, e1⟩, hN1⟩ : ∃ x, getN bs p0 = x := ⟨_, rfl⟩
     have hn1b := getN_end bs p0
     have hn1u := getN_u64 bs p0
     rw [hN1] at hn1b hn1u
     simp only at hn1b hn1u
     refine J.callB (v := .tuple #[.int .u64 ((n1 : Nat) : Int), .int .i64 ((p1 : Nat) : Int), .int .i64 e1]) (fun w1 w2 hw hb => hw.step hb) Ty.bd80 rfl rfl (fun w1 hw => by have h9 := rgetNum_spec _ bs p0 w1 (hr.below (hw.drop (List.nil_sublist _)).below) (by omega) (by omega); rw [hN1] at h9; exact h9) ?_; refine J.move rfl rfl ?_; refine J.extract rfl rfl rfl ?_; refine J.extract rfl rfl rfl ?_; refine J.extract rfl rfl rfl ?_; refine J.assign rfl rfl ?_; refine J.assign rfl rfl ?_; refine J.assign rfl rfl ?_; refine J.nil ?_; refine JX.thenN (hK9 _ _ ?_); refine JC.seq (fun K10 hK10 => ?_)
     by_cases ya : e1 = 0
     ·by_cases yb : p1 = bs.length
      ·by_cases yc : 1 ≤ n1
       ·by_cases yd : n1 ≤ 1048576
        ·have hg : readP 0 bs = some (.inl n1) := readP_inc hN0 hN1 ya (by omega) (by omega) (by omega)
         have hn62 : n1 % 4611686018427387904 = n1 := Nat.mod_eq_of_lt (by omega)
         refine JC.region ?_; refine J.buildS (cs := cH zH) Ty.pl28 Ty.zIt rfl (by kernel_rfl) rfl ?_; refine J.move rfl rfl ?_; refine J.remV rfl rfl (by omega) (by omega) rfl ?_; refine J.name 43 rfl (show _ = Value.int .u64 ((n1 % 4611686018427387904 : Nat) : Int) from congrArg (Value.int .u64) (by omega)) ?_; refine J.convInt Ty.u81 Ty.u2 rfl rfl ?_; refine J.name 44 rfl (show _ = Value.int .i64 ((n1 % 4611686018427387904 : Nat) : Int) from congrArg (Value.int .i64) (wrap_i64 (by omega) (by omega))) ?_; refine J.move rfl rfl ?_; refine J.bin rfl rfl rfl rfl ?_; refine J.name 46 rfl (show _ = Value.bool true by simp [ya]) ?_; refine J.move rfl rfl ?_
         first | refine J.skip rfl rfl rfl rfl rfl ?_ | refine J.skipU rfl rfl rfl rfl ?_ | (refine J.unguard rfl rfl rfl ?_; refine J.move rfl rfl ?_)
         first | refine J.skip rfl rfl rfl rfl rfl ?_ | refine J.skipU rfl rfl rfl rfl ?_ | (refine J.unguard rfl rfl rfl ?_; refine J.move rfl rfl ?_)
         first | refine J.skip rfl rfl rfl rfl rfl ?_ | refine J.skipU rfl rfl rfl rfl ?_ | (refine J.unguard rfl rfl rfl ?_; refine J.lenS rfl Ty.u26 rfl rfl ?_)
         refine J.unguard rfl rfl rfl ?_; refine J.bin rfl rfl rfl rfl ?_; refine J.name 51 rfl (show _ = Value.bool true by simp; omega) ?_
         (first | refine J.pickT rfl rfl rfl ?_ | refine J.pickF rfl rfl rfl ?_)
         refine J.move rfl rfl ?_
         first | refine J.skip rfl rfl rfl rfl rfl ?_ | refine J.skipU rfl rfl rfl rfl ?_ | (refine J.unguard rfl rfl rfl ?_; refine J.move rfl rfl ?_)
         refine J.unguard rfl rfl rfl ?_; refine J.bin rfl rfl rfl rfl ?_; refine J.name 55 rfl (show _ = Value.bool true by simp; omega) ?_
         (first | refine J.pickT rfl rfl rfl ?_ | refine J.pickF rfl rfl rfl ?_)
         refine J.move rfl rfl ?_
         first | refine J.skip rfl rfl rfl rfl rfl ?_ | refine J.skipU rfl rfl rfl rfl ?_ | (refine J.unguard rfl rfl rfl ?_; refine J.move rfl rfl ?_)
         refine J.unguard rfl rfl rfl ?_; refine J.bin rfl rfl rfl rfl ?_; refine J.name 59 rfl (show _ = Value.bool true by simp; omega) ?_
         (first | refine J.pickT rfl rfl rfl ?_ | refine J.pickF rfl rfl rfl ?_)
         refine J.storeW (cs := cH zH) (vs := cH zH) Ty.s28 rfl rfl rfl rfl rfl (one_cH (x := zH) rfl) zu ?_; refine J.assign rfl rfl ?_; refine J.assign rfl rfl ?_; refine J.nil ?_; refine JX.thenN (hK10 _ _ ?_); refine JC.ret ?_; refine JX.thenR ?_; refine JX.retCTT (vs := cH zH) rfl rfl rfl rfl Ty.a28 Ty.s28 rfl (fun w1 hw => Cells.of_block (hw.own (b2, cb (cH zH) 28) zm) rfl) (fun w1 hw => ?_)
         exact ⟨.inc n1, by rw [hn62]; rfl, hg, hw.drop (List.sublist_cons_self _ _)⟩
        ·have hg : readP 0 bs = none := readP_1 hN0 hN1 (.inr (.inr (.inl (by omega))))
         refine JC.region ?_; refine J.buildS (cs := cH zH) Ty.pl28 Ty.zIt rfl (by kernel_rfl) rfl ?_; refine J.move rfl rfl ?_; refine J.remV rfl rfl (by omega) (by omega) rfl ?_; refine J.name 43 rfl (show _ = Value.int .u64 ((n1 % 4611686018427387904 : Nat) : Int) from congrArg (Value.int .u64) (by omega)) ?_; refine J.convInt Ty.u81 Ty.u2 rfl rfl ?_; refine J.name 44 rfl (show _ = Value.int .i64 ((n1 % 4611686018427387904 : Nat) : Int) from congrArg (Value.int .i64) (wrap_i64 (by omega) (by omega))) ?_; refine J.move rfl rfl ?_; refine J.bin rfl rfl rfl rfl ?_; refine J.name 46 rfl (show _ = Value.bool true by simp [ya]) ?_; refine J.move rfl rfl ?_
         first | refine J.skip rfl rfl rfl rfl rfl ?_ | refine J.skipU rfl rfl rfl rfl ?_ | (refine J.unguard rfl rfl rfl ?_; refine J.move rfl rfl ?_)
         first | refine J.skip rfl rfl rfl rfl rfl ?_ | refine J.skipU rfl rfl rfl rfl ?_ | (refine J.unguard rfl rfl rfl ?_; refine J.move rfl rfl ?_)
         first | refine J.skip rfl rfl rfl rfl rfl ?_ | refine J.skipU rfl rfl rfl rfl ?_ | (refine J.unguard rfl rfl rfl ?_; refine J.lenS rfl Ty.u26 rfl rfl ?_)
         refine J.unguard rfl rfl rfl ?_; refine J.bin rfl rfl rfl rfl ?_; refine J.name 51 rfl (show _ = Value.bool true by simp; omega) ?_
         (first | refine J.pickT rfl rfl rfl ?_ | refine J.pickF rfl rfl rfl ?_)
         refine J.move rfl rfl ?_
         first | refine J.skip rfl rfl rfl rfl rfl ?_ | refine J.skipU rfl rfl rfl rfl ?_ | (refine J.unguard rfl rfl rfl ?_; refine J.move rfl rfl ?_)
         refine J.unguard rfl rfl rfl ?_; refine J.bin rfl rfl rfl rfl ?_; refine J.name 55 rfl (show _ = Value.bool true by simp; omega) ?_
         (first | refine J.pickT rfl rfl rfl ?_ | refine J.pickF rfl rfl rfl ?_)
         refine J.move rfl rfl ?_
         first | refine J.skip rfl rfl rfl rfl rfl ?_ | refine J.skipU rfl rfl rfl rfl ?_ | (refine J.unguard rfl rfl rfl ?_; refine J.move rfl rfl ?_)
         refine J.unguard rfl rfl rfl ?_; refine J.bin rfl rfl rfl rfl ?_; refine J.name 59 rfl (show _ = Value.bool false by simp; omega) ?_
         (first | refine J.pickT rfl rfl rfl ?_ | refine J.pickF rfl rfl rfl ?_)
         refine J.storeW (cs := cH zH) (vs := cH zH) Ty.s28 rfl rfl rfl rfl rfl (one_cH (x := zH) rfl) zu ?_; refine J.assign rfl rfl ?_; refine J.assign rfl rfl ?_; refine J.nil ?_; refine JX.thenN (hK10 _ _ ?_); refine JC.ret ?_; refine JX.thenR ?_; refine JX.retCTT (vs := cH zH) rfl rfl rfl rfl Ty.a28 Ty.s28 rfl (fun w1 hw => Cells.of_block (hw.own (b2, cb (cH zH) 28) zm) rfl) (fun w1 hw => ?_)
         exact ⟨.no ((n1 % 4611686018427387904 : Nat) : Int), rfl, hg, hw.drop (List.sublist_cons_self _ _)⟩
       ·have hg : readP 0 bs = none := readP_1 hN0 hN1 (.inr (.inr (.inr (by omega))))
        refine JC.region ?_; refine J.buildS (cs := cH zH) Ty.pl28 Ty.zIt rfl (by kernel_rfl) rfl ?_; refine J.move rfl rfl ?_; refine J.remV rfl rfl (by omega) (by omega) rfl ?_; refine J.name 43 rfl (show _ = Value.int .u64 ((n1 % 4611686018427387904 : Nat) : Int) from congrArg (Value.int .u64) (by omega)) ?_; refine J.convInt Ty.u81 Ty.u2 rfl rfl ?_; refine J.name 44 rfl (show _ = Value.int .i64 ((n1 % 4611686018427387904 : Nat) : Int) from congrArg (Value.int .i64) (wrap_i64 (by omega) (by omega))) ?_; refine J.move rfl rfl ?_; refine J.bin rfl rfl rfl rfl ?_; refine J.name 46 rfl (show _ = Value.bool true by simp [ya]) ?_; refine J.move rfl rfl ?_
        first | refine J.skip rfl rfl rfl rfl rfl ?_ | refine J.skipU rfl rfl rfl rfl ?_ | (refine J.unguard rfl rfl rfl ?_; refine J.move rfl rfl ?_)
        first | refine J.skip rfl rfl rfl rfl rfl ?_ | refine J.skipU rfl rfl rfl rfl ?_ | (refine J.unguard rfl rfl rfl ?_; refine J.move rfl rfl ?_)
        first | refine J.skip rfl rfl rfl rfl rfl ?_ | refine J.skipU rfl rfl rfl rfl ?_ | (refine J.unguard rfl rfl rfl ?_; refine J.lenS rfl Ty.u26 rfl rfl ?_)
        refine J.unguard rfl rfl rfl ?_; refine J.bin rfl rfl rfl rfl ?_; refine J.name 51 rfl (show _ = Value.bool true by simp; omega) ?_
        (first | refine J.pickT rfl rfl rfl ?_ | refine J.pickF rfl rfl rfl ?_)
        refine J.move rfl rfl ?_
        first | refine J.skip rfl rfl rfl rfl rfl ?_ | refine J.skipU rfl rfl rfl rfl ?_ | (refine J.unguard rfl rfl rfl ?_; refine J.move rfl rfl ?_)
        refine J.unguard rfl rfl rfl ?_; refine J.bin rfl rfl rfl rfl ?_; refine J.name 55 rfl (show _ = Value.bool false by simp; omega) ?_
        (first | refine J.pickT rfl rfl rfl ?_ | refine J.pickF rfl rfl rfl ?_)
        refine J.move rfl rfl ?_
        first | refine J.skip rfl rfl rfl rfl rfl ?_ | refine J.skipU rfl rfl rfl rfl ?_ | (refine J.unguard rfl rfl rfl ?_; refine J.move rfl rfl ?_)
        first | refine J.skip rfl rfl rfl rfl rfl ?_ | refine J.skipU rfl rfl rfl rfl ?_ | (refine J.unguard rfl rfl rfl ?_; refine J.bin rfl rfl rfl rfl ?_)
        (first | refine J.pickT rfl rfl rfl ?_ | refine J.pickF rfl rfl rfl ?_)
        refine J.storeW (cs := cH zH) (vs := cH zH) Ty.s28 rfl rfl rfl rfl rfl (one_cH (x := zH) rfl) zu ?_; refine J.assign rfl rfl ?_; refine J.assign rfl rfl ?_; refine J.nil ?_; refine JX.thenN (hK10 _ _ ?_); refine JC.ret ?_; refine JX.thenR ?_; refine JX.retCTT (vs := cH zH) rfl rfl rfl rfl Ty.a28 Ty.s28 rfl (fun w1 hw => Cells.of_block (hw.own (b2, cb (cH zH) 28) zm) rfl) (fun w1 hw => ?_)
        exact ⟨.no ((n1 % 4611686018427387904 : Nat) : Int), rfl, hg, hw.drop (List.sublist_cons_self _ _)⟩
      ·have hg : readP 0 bs = none := readP_1 hN0 hN1 (.inr (.inl (by omega)))
       refine JC.region ?_; refine J.buildS (cs := cH zH) Ty.pl28 Ty.zIt rfl (by kernel_rfl) rfl ?_; refine J.move rfl rfl ?_; refine J.remV rfl rfl (by omega) (by omega) rfl ?_; refine J.name 43 rfl (show _ = Value.int .u64 ((n1 % 4611686018427387904 : Nat) : Int) from congrArg (Value.int .u64) (by omega)) ?_; refine J.convInt Ty.u81 Ty.u2 rfl rfl ?_; refine J.name 44 rfl (show _ = Value.int .i64 ((n1 % 4611686018427387904 : Nat) : Int) from congrArg (Value.int .i64) (wrap_i64 (by omega) (by omega))) ?_; refine J.move rfl rfl ?_; refine J.bin rfl rfl rfl rfl ?_; refine J.name 46 rfl (show _ = Value.bool true by simp [ya]) ?_; refine J.move rfl rfl ?_
       first | refine J.skip rfl rfl rfl rfl rfl ?_ | refine J.skipU rfl rfl rfl rfl ?_ | (refine J.unguard rfl rfl rfl ?_; refine J.move rfl rfl ?_)
       first | refine J.skip rfl rfl rfl rfl rfl ?_ | refine J.skipU rfl rfl rfl rfl ?_ | (refine J.unguard rfl rfl rfl ?_; refine J.move rfl rfl ?_)
       first | refine J.skip rfl rfl rfl rfl rfl ?_ | refine J.skipU rfl rfl rfl rfl ?_ | (refine J.unguard rfl rfl rfl ?_; refine J.lenS rfl Ty.u26 rfl rfl ?_)
       refine J.unguard rfl rfl rfl ?_; refine J.bin rfl rfl rfl rfl ?_; refine J.name 51 rfl (show _ = Value.bool false by simp; omega) ?_
       (first | refine J.pickT rfl rfl rfl ?_ | refine J.pickF rfl rfl rfl ?_)
       refine J.move rfl rfl ?_
       first | refine J.skip rfl rfl rfl rfl rfl ?_ | refine J.skipU rfl rfl rfl rfl ?_ | (refine J.unguard rfl rfl rfl ?_; refine J.move rfl rfl ?_)
       first | refine J.skip rfl rfl rfl rfl rfl ?_ | refine J.skipU rfl rfl rfl rfl ?_ | (refine J.unguard rfl rfl rfl ?_; refine J.bin rfl rfl rfl rfl ?_)
       (first | refine J.pickT rfl rfl rfl ?_ | refine J.pickF rfl rfl rfl ?_)
       refine J.move rfl rfl ?_
       first | refine J.skip rfl rfl rfl rfl rfl ?_ | refine J.skipU rfl rfl rfl rfl ?_ | (refine J.unguard rfl rfl rfl ?_; refine J.move rfl rfl ?_)
       first | refine J.skip rfl rfl rfl rfl rfl ?_ | refine J.skipU rfl rfl rfl rfl ?_ | (refine J.unguard rfl rfl rfl ?_; refine J.bin rfl rfl rfl rfl ?_)
       (first | refine J.pickT rfl rfl rfl ?_ | refine J.pickF rfl rfl rfl ?_)
       refine J.storeW (cs := cH zH) (vs := cH zH) Ty.s28 rfl rfl rfl rfl rfl (one_cH (x := zH) rfl) zu ?_; refine J.assign rfl rfl ?_; refine J.assign rfl rfl ?_; refine J.nil ?_; refine JX.thenN (hK10 _ _ ?_); refine JC.ret ?_; refine JX.thenR ?_; refine JX.retCTT (vs := cH zH) rfl rfl rfl rfl Ty.a28 Ty.s28 rfl (fun w1 hw => Cells.of_block (hw.own (b2, cb (cH zH) 28) zm) rfl) (fun w1 hw => ?_)
       exact ⟨.no ((n1 % 4611686018427387904 : Nat) : Int), rfl, hg, hw.drop (List.sublist_cons_self _ _)⟩
     ·have hg : readP 0 bs = none := readP_1 hN0 hN1 (.inl (by omega))
      refine JC.region ?_; refine J.buildS (cs := cH zH) Ty.pl28 Ty.zIt rfl (by kernel_rfl) rfl ?_; refine J.move rfl rfl ?_; refine J.remV rfl rfl (by omega) (by omega) rfl ?_; refine J.name 43 rfl (show _ = Value.int .u64 ((n1 % 4611686018427387904 : Nat) : Int) from congrArg (Value.int .u64) (by omega)) ?_; refine J.convInt Ty.u81 Ty.u2 rfl rfl ?_; refine J.name 44 rfl (show _ = Value.int .i64 ((n1 % 4611686018427387904 : Nat) : Int) from congrArg (Value.int .i64) (wrap_i64 (by omega) (by omega))) ?_; refine J.move rfl rfl ?_; refine J.bin rfl rfl rfl rfl ?_; refine J.name 46 rfl (show _ = Value.bool false by simp [ya]) ?_; refine J.move rfl rfl ?_
      first | refine J.skip rfl rfl rfl rfl rfl ?_ | refine J.skipU rfl rfl rfl rfl ?_ | (refine J.unguard rfl rfl rfl ?_; refine J.move rfl rfl ?_)
      first | refine J.skip rfl rfl rfl rfl rfl ?_ | refine J.skipU rfl rfl rfl rfl ?_ | (refine J.unguard rfl rfl rfl ?_; refine J.move rfl rfl ?_)
      first | refine J.skip rfl rfl rfl rfl rfl ?_ | refine J.skipU rfl rfl rfl rfl ?_ | (refine J.unguard rfl rfl rfl ?_; refine J.lenS rfl Ty.u26 rfl rfl ?_)
      first | refine J.skip rfl rfl rfl rfl rfl ?_ | refine J.skipU rfl rfl rfl rfl ?_ | (refine J.unguard rfl rfl rfl ?_; refine J.bin rfl rfl rfl rfl ?_)
      (first | refine J.pickT rfl rfl rfl ?_ | refine J.pickF rfl rfl rfl ?_)
      refine J.move rfl rfl ?_
      first | refine J.skip rfl rfl rfl rfl rfl ?_ | refine J.skipU rfl rfl rfl rfl ?_ | (refine J.unguard rfl rfl rfl ?_; refine J.move rfl rfl ?_)
      first | refine J.skip rfl rfl rfl rfl rfl ?_ | refine J.skipU rfl rfl rfl rfl ?_ | (refine J.unguard rfl rfl rfl ?_; refine J.bin rfl rfl rfl rfl ?_)
      (first | refine J.pickT rfl rfl rfl ?_ | refine J.pickF rfl rfl rfl ?_)
      refine J.move rfl rfl ?_
      first | refine J.skip rfl rfl rfl rfl rfl ?_ | refine J.skipU rfl rfl rfl rfl ?_ | (refine J.unguard rfl rfl rfl ?_; refine J.move rfl rfl ?_)
      first | refine J.skip rfl rfl rfl rfl rfl ?_ | refine J.skipU rfl rfl rfl rfl ?_ | (refine J.unguard rfl rfl rfl ?_; refine J.bin rfl rfl rfl rfl ?_)
      (first | refine J.pickT rfl rfl rfl ?_ | refine J.pickF rfl rfl rfl ?_)
      refine J.storeW (cs := cH zH) (vs := cH zH) Ty.s28 rfl rfl rfl rfl rfl (one_cH (x := zH) rfl) zu ?_; refine J.assign rfl rfl ?_; refine J.assign rfl rfl ?_; refine J.nil ?_; refine JX.thenN (hK10 _ _ ?_); refine JC.ret ?_; refine JX.thenR ?_; refine JX.retCTT (vs := cH zH) rfl rfl rfl rfl Ty.a28 Ty.s28 rfl (fun w1 hw => Cells.of_block (hw.own (b2, cb (cH zH) 28) zm) rfl) (fun w1 hw => ?_)
      exact ⟨.no ((n1 % 4611686018427387904 : Nat) : Int), rfl, hg, hw.drop (List.sublist_cons_self _ _)⟩
    ·have hk2 : n0 = 2 := by simp at h1; omega
     subst hk2
     refine JC.skip ?_; refine JX.thenN (hK7 _ _ ?_); refine JC.seq (fun K11 hK11 => ?_); refine JC.region ?_; refine J.move rfl rfl ?_; refine J.move rfl rfl ?_
     obtain ⟨⟨k1, p1, e1⟩, hK1⟩ : ∃ x, getI bs p0 = x := ⟨_, rfl⟩
     have hk1b := getI_end bs p0
     rw [hK1] at hk1b
     simp only at hk1b
     refine J.callB (v := .tuple #[.agg (cI k1).toArray, .int .i64 ((p1 : Nat) : Int), .int .i64 e1]) (fun w1 w2 hw hb => hw.step hb) Ty.bd81 rfl rfl (fun w1 hw => by have h9 := rgetID_spec _ bs p0 w1 (hr.below (hw.drop (List.nil_sublist _)).below) (by omega) (by omega); rw [hK1] at h9; exact h9) ?_; refine J.move rfl rfl ?_; refine J.extract rfl rfl rfl ?_; refine J.extract rfl rfl rfl ?_; refine J.extract rfl rfl rfl ?_; refine J.alloc Ty.zID rfl rfl (fun b11 => ?_); refine J.storeW (cs := cI zI) (vs := cI k1) Ty.s23 rfl rfl rfl rfl rfl (one_cI _) .here ?_; refine J.assign rfl rfl ?_; refine J.assign rfl rfl ?_; refine J.nil ?_; refine JX.thenN (hK11 _ _ ?_); refine JC.seq (fun K12 hK12 => ?_); refine JC.seq (fun K13 hK13 => ?_); refine JC.region ?_; refine J.move rfl rfl ?_; refine J.bin rfl rfl rfl rfl ?_; refine J.nil ?_; refine JX.thenN (hK13 _ _ ?_); refine JC.cond rfl (fun h2 => ?_) (fun h2 => ?_)
     ·have hg : readP 0 bs = none := readP_k1 hN0 hK1 (by simpa using h2)
      refine JC.seq (fun K14 hK14 => ?_); refine JC.region ?_; refine J.buildS (cs := cH zH) Ty.pl28 Ty.zIt rfl (by kernel_rfl) rfl ?_; refine J.storeW (cs := cH zH) (vs := cH zH) Ty.s28 rfl rfl rfl rfl rfl (one_cH (x := zH) rfl) zu ?_; refine J.assign rfl rfl ?_; refine J.assign rfl rfl ?_; refine J.nil ?_; refine JX.thenN (hK14 _ _ ?_); refine JC.ret ?_; refine JX.thenR ?_; refine JX.retCTT (vs := cH zH) rfl rfl rfl rfl Ty.a28 Ty.s28 rfl (fun w1 hw => Cells.of_block (hw.own (b2, cb (cH zH) 28) zm) rfl) (fun w1 hw => ?_)
      exact ⟨.no 0, rfl, hg, hw.drop (List.nil_sublist _)⟩
     ·have hz1 : e1 = 0 := by simpa using h2
      refine JC.skip ?_; refine JX.thenN (hK12 _ _ ?_); refine JC.seq (fun K15 hK15 => ?_); refine JC.region ?_; refine J.move rfl rfl ?_; refine J.move rfl rfl ?_
      obtain ⟨⟨n2, p2, e2⟩, hN2⟩ : ∃ x, getN bs p1 = x := ⟨_, rfl⟩
      have hn2b := getN_end bs p1
      have hn2u := getN_u64 bs p1
      rw [hN2] at hn2b hn2u
      simp only at hn2b hn2u
      refine J.callB (v := .tuple #[.int .u64 ((n2 : Nat) : Int), .int .i64 ((p2 : Nat) : Int), .int .i64 e2]) (fun w1 w2 hw hb => hw.step hb) Ty.bd80 rfl rfl (fun w1 hw => by have h9 := rgetNum_spec _ bs p1 w1 (hr.below (hw.drop (List.nil_sublist _)).below) (by omega) (by omega); rw [hN2] at h9; exact h9) ?_; refine J.move rfl rfl ?_; refine J.extract rfl rfl rfl ?_; refine J.extract rfl rfl rfl ?_; refine J.extract rfl rfl rfl ?_; refine J.assign rfl rfl ?_; refine J.assign rfl rfl ?_; refine J.assign rfl rfl ?_; refine J.nil ?_; refine JX.thenN (hK15 _ _ ?_); refine JC.seq (fun K16 hK16 => ?_); refine JC.seq (fun K17 hK17 => ?_)
      by_cases xa : e2 ≠ 0
      ·have hg : readP 0 bs = none := readP_n2 hN0 hK1 hz1 hN2 (.inl xa)
       refine JC.region ?_; refine J.move rfl rfl ?_; refine J.bin rfl rfl rfl rfl ?_; refine J.name 79 rfl (show _ = Value.bool true by simp [xa]) ?_; refine J.move rfl rfl ?_
       first | refine J.skip rfl rfl rfl rfl rfl ?_ | refine J.skipU rfl rfl rfl rfl ?_ | (refine J.unguard rfl rfl rfl ?_; refine J.move rfl rfl ?_)
       first | refine J.skip rfl rfl rfl rfl rfl ?_ | refine J.skipU rfl rfl rfl rfl ?_ | (refine J.unguard rfl rfl rfl ?_; refine J.bin rfl rfl rfl rfl ?_)
       (first | refine J.pickT rfl rfl rfl ?_ | refine J.pickF rfl rfl rfl ?_)
       refine J.move rfl rfl ?_
       first | refine J.skip rfl rfl rfl rfl rfl ?_ | refine J.skipU rfl rfl rfl rfl ?_ | (refine J.unguard rfl rfl rfl ?_; refine J.move rfl rfl ?_)
       first | refine J.skip rfl rfl rfl rfl rfl ?_ | refine J.skipU rfl rfl rfl rfl ?_ | (refine J.unguard rfl rfl rfl ?_; refine J.bin rfl rfl rfl rfl ?_)
       (first | refine J.pickT rfl rfl rfl ?_ | refine J.pickF rfl rfl rfl ?_)
       refine J.nil ?_; refine JX.thenN (hK17 _ _ ?_)
       first | refine JC.condT rfl ?_ | refine JC.cond rfl (fun _ => ?_) (fun h => by first | (exfalso; simp at h; omega) | (simp at h))
       refine JC.seq (fun K18 hK18 => ?_); refine JC.region ?_; refine J.buildS (cs := cH zH) Ty.pl28 Ty.zIt rfl (by kernel_rfl) rfl ?_; refine J.storeW (cs := cH zH) (vs := cH zH) Ty.s28 rfl rfl rfl rfl rfl (one_cH (x := zH) rfl) zu ?_; refine J.assign rfl rfl ?_; refine J.assign rfl rfl ?_; refine J.nil ?_; refine JX.thenN (hK18 _ _ ?_); refine JC.ret ?_; refine JX.thenR ?_; refine JX.retCTT (vs := cH zH) rfl rfl rfl rfl Ty.a28 Ty.s28 rfl (fun w1 hw => Cells.of_block (hw.own (b2, cb (cH zH) 28) zm) rfl) (fun w1 hw => ?_)
       exact ⟨.no 0, rfl, hg, hw.drop (List.nil_sublist _)⟩
      ·by_cases xb9 : n2 < 1
       ·have hg : readP 0 bs = none := readP_n2 hN0 hK1 hz1 hN2 (.inr (.inl xb9))
        refine JC.region ?_; refine J.move rfl rfl ?_; refine J.bin rfl rfl rfl rfl ?_; refine J.name 79 rfl (show _ = Value.bool false by have xz : e2 = 0 := (by omega); simp [xz]) ?_; refine J.move rfl rfl ?_
        first | refine J.skip rfl rfl rfl rfl rfl ?_ | refine J.skipU rfl rfl rfl rfl ?_ | (refine J.unguard rfl rfl rfl ?_; refine J.move rfl rfl ?_)
        refine J.unguard rfl rfl rfl ?_; refine J.bin rfl rfl rfl rfl ?_; refine J.name 82 rfl (show _ = Value.bool true by simp; omega) ?_
        (first | refine J.pickT rfl rfl rfl ?_ | refine J.pickF rfl rfl rfl ?_)
        refine J.move rfl rfl ?_
        first | refine J.skip rfl rfl rfl rfl rfl ?_ | refine J.skipU rfl rfl rfl rfl ?_ | (refine J.unguard rfl rfl rfl ?_; refine J.move rfl rfl ?_)
        first | refine J.skip rfl rfl rfl rfl rfl ?_ | refine J.skipU rfl rfl rfl rfl ?_ | (refine J.unguard rfl rfl rfl ?_; refine J.bin rfl rfl rfl rfl ?_)
        (first | refine J.pickT rfl rfl rfl ?_ | refine J.pickF rfl rfl rfl ?_)
        refine J.nil ?_; refine JX.thenN (hK17 _ _ ?_)
        first | refine JC.condT rfl ?_ | refine JC.cond rfl (fun _ => ?_) (fun h => by first | (exfalso; simp at h; omega) | (simp at h))
        refine JC.seq (fun K19 hK19 => ?_); refine JC.region ?_; refine J.buildS (cs := cH zH) Ty.pl28 Ty.zIt rfl (by kernel_rfl) rfl ?_; refine J.storeW (cs := cH zH) (vs := cH zH) Ty.s28 rfl rfl rfl rfl rfl (one_cH (x := zH) rfl) zu ?_; refine J.assign rfl rfl ?_; refine J.assign rfl rfl ?_; refine J.nil ?_; refine JX.thenN (hK19 _ _ ?_); refine JC.ret ?_; refine JX.thenR ?_; refine JX.retCTT (vs := cH zH) rfl rfl rfl rfl Ty.a28 Ty.s28 rfl (fun w1 hw => Cells.of_block (hw.own (b2, cb (cH zH) 28) zm) rfl) (fun w1 hw => ?_)
        exact ⟨.no 0, rfl, hg, hw.drop (List.nil_sublist _)⟩
       ·by_cases xc9 : 4611686018427387904 ≤ n2
        ·have hg : readP 0 bs = none := readP_n2 hN0 hK1 hz1 hN2 (.inr (.inr xc9))
         refine JC.region ?_; refine J.move rfl rfl ?_; refine J.bin rfl rfl rfl rfl ?_; refine J.name 79 rfl (show _ = Value.bool false by have xz : e2 = 0 := (by omega); simp [xz]) ?_; refine J.move rfl rfl ?_
         first | refine J.skip rfl rfl rfl rfl rfl ?_ | refine J.skipU rfl rfl rfl rfl ?_ | (refine J.unguard rfl rfl rfl ?_; refine J.move rfl rfl ?_)
         refine J.unguard rfl rfl rfl ?_; refine J.bin rfl rfl rfl rfl ?_; refine J.name 82 rfl (show _ = Value.bool false by simp; omega) ?_
         (first | refine J.pickT rfl rfl rfl ?_ | refine J.pickF rfl rfl rfl ?_)
         refine J.move rfl rfl ?_
         first | refine J.skip rfl rfl rfl rfl rfl ?_ | refine J.skipU rfl rfl rfl rfl ?_ | (refine J.unguard rfl rfl rfl ?_; refine J.move rfl rfl ?_)
         refine J.unguard rfl rfl rfl ?_; refine J.bin rfl rfl rfl rfl ?_; refine J.name 86 rfl (show _ = Value.bool true by simp; omega) ?_
         (first | refine J.pickT rfl rfl rfl ?_ | refine J.pickF rfl rfl rfl ?_)
         refine J.nil ?_; refine JX.thenN (hK17 _ _ ?_)
         first | refine JC.condT rfl ?_ | refine JC.cond rfl (fun _ => ?_) (fun h => by first | (exfalso; simp at h; omega) | (simp at h))
         refine JC.seq (fun K20 hK20 => ?_); refine JC.region ?_; refine J.buildS (cs := cH zH) Ty.pl28 Ty.zIt rfl (by kernel_rfl) rfl ?_; refine J.storeW (cs := cH zH) (vs := cH zH) Ty.s28 rfl rfl rfl rfl rfl (one_cH (x := zH) rfl) zu ?_; refine J.assign rfl rfl ?_; refine J.assign rfl rfl ?_; refine J.nil ?_; refine JX.thenN (hK20 _ _ ?_); refine JC.ret ?_; refine JX.thenR ?_; refine JX.retCTT (vs := cH zH) rfl rfl rfl rfl Ty.a28 Ty.s28 rfl (fun w1 hw => Cells.of_block (hw.own (b2, cb (cH zH) 28) zm) rfl) (fun w1 hw => ?_)
         exact ⟨.no 0, rfl, hg, hw.drop (List.nil_sublist _)⟩
        ·have xa0 : e2 = 0 := by omega
         rw [xa0] at hN2
         refine JC.region ?_; refine J.move rfl rfl ?_; refine J.bin rfl rfl rfl rfl ?_; refine J.name 79 rfl (show _ = Value.bool false by have xz : e2 = 0 := (by omega); simp [xz]) ?_; refine J.move rfl rfl ?_
         first | refine J.skip rfl rfl rfl rfl rfl ?_ | refine J.skipU rfl rfl rfl rfl ?_ | (refine J.unguard rfl rfl rfl ?_; refine J.move rfl rfl ?_)
         refine J.unguard rfl rfl rfl ?_; refine J.bin rfl rfl rfl rfl ?_; refine J.name 82 rfl (show _ = Value.bool false by simp; omega) ?_
         (first | refine J.pickT rfl rfl rfl ?_ | refine J.pickF rfl rfl rfl ?_)
         refine J.move rfl rfl ?_
         first | refine J.skip rfl rfl rfl rfl rfl ?_ | refine J.skipU rfl rfl rfl rfl ?_ | (refine J.unguard rfl rfl rfl ?_; refine J.move rfl rfl ?_)
         refine J.unguard rfl rfl rfl ?_; refine J.bin rfl rfl rfl rfl ?_; refine J.name 86 rfl (show _ = Value.bool false by simp; omega) ?_
         (first | refine J.pickT rfl rfl rfl ?_ | refine J.pickF rfl rfl rfl ?_)
         refine J.nil ?_; refine JX.thenN (hK17 _ _ ?_)
         first | refine JC.condF rfl ?_ | refine JC.cond rfl (fun h => by first | (exfalso; simp at h; omega) | (simp at h)) (fun _ => ?_)
         refine JC.skip ?_; refine JX.thenN (hK16 _ _ ?_); refine JC.seq (fun K21 hK21 => ?_); refine JC.region ?_; refine J.move rfl rfl ?_; refine J.move rfl rfl ?_
         obtain ⟨⟨k3, p3, e3⟩, hK3⟩ : ∃ x, getI bs p2 = x := ⟨_, rfl⟩
         have hk3b := getI_end bs p2
         rw [hK3] at hk3b
         simp only at hk3b
         refine J.callB (v := .tuple #[.agg (cI k3).toArray, .int .i64 ((p3 : Nat) : Int), .int .i64 e3]) (fun w1 w2 hw hb => hw.step hb) Ty.bd81 rfl rfl (fun w1 hw => by have h9 := rgetID_spec _ bs p2 w1 (hr.below (hw.drop (List.nil_sublist _)).below) (by omega) (by omega); rw [hK3] at h9; exact h9) ?_; refine J.move rfl rfl ?_; refine J.extract rfl rfl rfl ?_; refine J.extract rfl rfl rfl ?_; refine J.extract rfl rfl rfl ?_; refine J.alloc Ty.zID rfl rfl (fun b13 => ?_); refine J.storeW (cs := cI zI) (vs := cI k3) Ty.s23 rfl rfl rfl rfl rfl (one_cI _) .here ?_; refine J.assign rfl rfl ?_; refine J.assign rfl rfl ?_; refine J.nil ?_; refine JX.thenN (hK21 _ _ ?_); refine JC.seq (fun K22 hK22 => ?_); refine JC.seq (fun K23 hK23 => ?_); refine JC.region ?_; refine J.move rfl rfl ?_; refine J.bin rfl rfl rfl rfl ?_; refine J.nil ?_; refine JX.thenN (hK23 _ _ ?_); refine JC.cond rfl (fun h4 => ?_) (fun h4 => ?_)
         ·have hg : readP 0 bs = none := readP_k3 hN0 hK1 hz1 hN2 xb9 xc9 hK3 (by simpa using h4)
          refine JC.seq (fun K24 hK24 => ?_); refine JC.region ?_; refine J.buildS (cs := cH zH) Ty.pl28 Ty.zIt rfl (by kernel_rfl) rfl ?_; refine J.storeW (cs := cH zH) (vs := cH zH) Ty.s28 rfl rfl rfl rfl rfl (one_cH (x := zH) rfl) zu ?_; refine J.assign rfl rfl ?_; refine J.assign rfl rfl ?_; refine J.nil ?_; refine JX.thenN (hK24 _ _ ?_); refine JC.ret ?_; refine JX.thenR ?_; refine JX.retCTT (vs := cH zH) rfl rfl rfl rfl Ty.a28 Ty.s28 rfl (fun w1 hw => Cells.of_block (hw.own (b2, cb (cH zH) 28) zm) rfl) (fun w1 hw => ?_)
          exact ⟨.no 0, rfl, hg, hw.drop (List.nil_sublist _)⟩
         ·have hz3 : e3 = 0 := by simpa using h4
          refine JC.skip ?_; refine JX.thenN (hK22 _ _ ?_); refine JC.seq (fun K25 hK25 => ?_); refine JC.region ?_; refine J.move rfl rfl ?_; refine J.move rfl rfl ?_
          obtain ⟨⟨t4, p4, e4⟩, hT4⟩ : ∃ x, getT bs p3 64 = x := ⟨_, rfl⟩
          have ht4l := getT_len bs p3 64
          have ht4e := getT_endle bs p3 64
          rw [hT4] at ht4l ht4e
          simp only at ht4l ht4e
          refine J.perm ([] ++ ((b13, cb (cI k3) 23) :: (b11, cb (cI k1) 23) :: (b2, cb (cH zH) 28) :: [])) zp ?_; refine J.callS (α := Value × List (Nat × Obj)) (V := fun x => .tuple #[x.1, .int .i64 ((p4 : Nat) : Int), .int .i64 e4]) (Pr := fun x => Vec 5 1 x.1 (t4).length ((t4).map u8) x.2) (L := (·.2)) (l1 := []) Ty.bd82 rfl rfl (fun w1 hw => by have h9 := rgetText_spec _ bs p3 64 w1 (hr.below (hw.drop (List.nil_sublist _)).below) (by omega) (by omega) (by omega); rw [hT4] at h9; exact h9) (fun x hv4 => ?_)
          obtain ⟨v4, l4⟩ := x
          try simp only at hv4 ⊢
          obtain ⟨a4, c4, rfl, hc4⟩ := hv4.form
          refine J.perm ((b2, cb (cH zH) 28) :: (b13, cb (cI k3) 23) :: (b11, cb (cI k1) 23) :: l4) zp ?_; refine J.move rfl rfl ?_; refine J.extract rfl rfl rfl ?_; refine J.extract rfl rfl rfl ?_; refine J.extract rfl rfl rfl ?_; refine J.assign rfl rfl ?_; refine J.assign rfl rfl ?_; refine J.assign rfl rfl ?_; refine J.nil ?_; refine JX.thenN (hK25 _ _ ?_); refine JC.seq (fun K26 hK26 => ?_); refine JC.seq (fun K27 hK27 => ?_)
          by_cases xd : e4 ≠ 0
          ·have hg : readP 0 bs = none := readP_t4 hN0 hK1 hz1 hN2 xb9 xc9 hK3 hz3 hT4 (.inl xd)
           refine JC.region ?_; refine J.move rfl rfl ?_; refine J.bin rfl rfl rfl rfl ?_; refine J.name 107 rfl (show _ = Value.bool true by simp [xd]) ?_; refine J.move rfl rfl ?_
           first | refine J.skip rfl rfl rfl rfl rfl ?_ | refine J.skipU rfl rfl rfl rfl ?_ | (refine J.unguard rfl rfl rfl ?_; refine J.move rfl rfl ?_)
           first | refine J.skip rfl rfl rfl rfl rfl ?_ | refine J.skipU rfl rfl rfl rfl ?_ | (refine J.unguard rfl rfl rfl ?_; refine J.move rfl rfl ?_)
           first | refine J.skip rfl rfl rfl rfl rfl ?_ | refine J.skipU rfl rfl rfl rfl ?_ | (refine J.unguard rfl rfl rfl ?_; refine J.lenS rfl Ty.u26 rfl rfl ?_)
           first | refine J.skip rfl rfl rfl rfl rfl ?_ | refine J.skipU rfl rfl rfl rfl ?_ | (refine J.unguard rfl rfl rfl ?_; refine J.bin rfl rfl rfl rfl ?_)
           (first | refine J.pickT rfl rfl rfl ?_ | refine J.pickF rfl rfl rfl ?_)
           refine J.nil ?_; refine JX.thenN (hK27 _ _ ?_)
           first | refine JC.condT rfl ?_ | refine JC.cond rfl (fun _ => ?_) (fun h => by first | (exfalso; simp at h; omega) | (simp at h))
           refine JC.seq (fun K28 hK28 => ?_); refine JC.region ?_; refine J.buildS (cs := cH zH) Ty.pl28 Ty.zIt rfl (by kernel_rfl) rfl ?_; refine J.storeW (cs := cH zH) (vs := cH zH) Ty.s28 rfl rfl rfl rfl rfl (one_cH (x := zH) rfl) zu ?_; refine J.assign rfl rfl ?_; refine J.assign rfl rfl ?_; refine J.nil ?_; refine JX.thenN (hK28 _ _ ?_); refine JC.ret ?_; refine JX.thenR ?_; refine JX.retCTT (vs := cH zH) rfl rfl rfl rfl Ty.a28 Ty.s28 rfl (fun w1 hw => Cells.of_block (hw.own (b2, cb (cH zH) 28) zm) rfl) (fun w1 hw => ?_)
           exact ⟨.no 0, rfl, hg, hw.drop (List.nil_sublist _)⟩
          ·by_cases xe : p4 ≠ bs.length
           ·have hg : readP 0 bs = none := readP_t4 hN0 hK1 hz1 hN2 xb9 xc9 hK3 hz3 hT4 (.inr (by omega))
            refine JC.region ?_; refine J.move rfl rfl ?_; refine J.bin rfl rfl rfl rfl ?_; refine J.name 107 rfl (show _ = Value.bool false by have xz : e4 = 0 := (by omega); simp [xz]) ?_; refine J.move rfl rfl ?_
            first | refine J.skip rfl rfl rfl rfl rfl ?_ | refine J.skipU rfl rfl rfl rfl ?_ | (refine J.unguard rfl rfl rfl ?_; refine J.move rfl rfl ?_)
            first | refine J.skip rfl rfl rfl rfl rfl ?_ | refine J.skipU rfl rfl rfl rfl ?_ | (refine J.unguard rfl rfl rfl ?_; refine J.move rfl rfl ?_)
            first | refine J.skip rfl rfl rfl rfl rfl ?_ | refine J.skipU rfl rfl rfl rfl ?_ | (refine J.unguard rfl rfl rfl ?_; refine J.lenS rfl Ty.u26 rfl rfl ?_)
            refine J.unguard rfl rfl rfl ?_; refine J.bin rfl rfl rfl rfl ?_; refine J.name 112 rfl (show _ = Value.bool true by simp; omega) ?_
            (first | refine J.pickT rfl rfl rfl ?_ | refine J.pickF rfl rfl rfl ?_)
            refine J.nil ?_; refine JX.thenN (hK27 _ _ ?_)
            first | refine JC.condT rfl ?_ | refine JC.cond rfl (fun _ => ?_) (fun h => by first | (exfalso; simp at h; omega) | (simp at h))
            refine JC.seq (fun K29 hK29 => ?_); refine JC.region ?_; refine J.buildS (cs := cH zH) Ty.pl28 Ty.zIt rfl (by kernel_rfl) rfl ?_; refine J.storeW (cs := cH zH) (vs := cH zH) Ty.s28 rfl rfl rfl rfl rfl (one_cH (x := zH) rfl) zu ?_; refine J.assign rfl rfl ?_; refine J.assign rfl rfl ?_; refine J.nil ?_; refine JX.thenN (hK29 _ _ ?_); refine JC.ret ?_; refine JX.thenR ?_; refine JX.retCTT (vs := cH zH) rfl rfl rfl rfl Ty.a28 Ty.s28 rfl (fun w1 hw => Cells.of_block (hw.own (b2, cb (cH zH) 28) zm) rfl) (fun w1 hw => ?_)
            exact ⟨.no 0, rfl, hg, hw.drop (List.nil_sublist _)⟩
           ·have hg : readP 0 bs = some (.inr ⟨k1, ⟨((n2 : Nat) : Int), k3⟩, t4⟩) := readP_item hN0 hK1 hz1 hN2 xb9 xc9 hK3 hz3 hT4 (by omega) (by omega)
            refine JC.region ?_; refine J.move rfl rfl ?_; refine J.bin rfl rfl rfl rfl ?_; refine J.name 107 rfl (show _ = Value.bool false by have xz : e4 = 0 := (by omega); simp [xz]) ?_; refine J.move rfl rfl ?_
            first | refine J.skip rfl rfl rfl rfl rfl ?_ | refine J.skipU rfl rfl rfl rfl ?_ | (refine J.unguard rfl rfl rfl ?_; refine J.move rfl rfl ?_)
            first | refine J.skip rfl rfl rfl rfl rfl ?_ | refine J.skipU rfl rfl rfl rfl ?_ | (refine J.unguard rfl rfl rfl ?_; refine J.move rfl rfl ?_)
            first | refine J.skip rfl rfl rfl rfl rfl ?_ | refine J.skipU rfl rfl rfl rfl ?_ | (refine J.unguard rfl rfl rfl ?_; refine J.lenS rfl Ty.u26 rfl rfl ?_)
            refine J.unguard rfl rfl rfl ?_; refine J.bin rfl rfl rfl rfl ?_; refine J.name 112 rfl (show _ = Value.bool false by simp; omega) ?_
            (first | refine J.pickT rfl rfl rfl ?_ | refine J.pickF rfl rfl rfl ?_)
            refine J.nil ?_; refine JX.thenN (hK27 _ _ ?_)
            first | refine JC.condF rfl ?_ | refine JC.cond rfl (fun h => by first | (exfalso; simp at h; omega) | (simp at h)) (fun _ => ?_)
            refine JC.skip ?_; refine JX.thenN (hK26 _ _ ?_); refine JC.seq (fun K30 hK30 => ?_); refine JC.region ?_; refine J.loadA (vs := cI k1) Ty.a23 Ty.s23 rfl rfl (fun w1 hw => Cells.of_block (hw.own (b11, cb (cI k1) 23) zm) rfl) rfl ?_; refine J.move rfl rfl ?_; refine J.convInt Ty.u81 Ty.u2 rfl rfl ?_; refine J.name 117 rfl (show _ = Value.int .i64 ((n2 : Nat) : Int) from congrArg (Value.int .i64) (wrap_i64 (by omega) (by omega))) ?_; refine J.loadA (vs := cI k3) Ty.a23 Ty.s23 rfl rfl (fun w1 hw => Cells.of_block (hw.own (b13, cb (cI k3) 23) zm) rfl) rfl ?_; refine J.buildS (cs := cV ⟨((n2 : Nat) : Int), k3⟩) Ty.pl25 Ty.zVr rfl (by kernel_rfl) rfl ?_; refine J.move rfl rfl ?_; refine J.buildS (cs := cT k1 ⟨((n2 : Nat) : Int), k3⟩ (.slice a4 t4.length c4)) Ty.pl28 Ty.zIt rfl (by kernel_rfl) rfl ?_; refine J.perm ((b2, cb (cH zH) 28) :: ((b13, cb (cI k3) 23) :: (b11, cb (cI k1) 23) :: l4)) zp ?_; refine J.storeW (cs := cH zH) (vs := cT k1 ⟨((n2 : Nat) : Int), k3⟩ (.slice a4 t4.length c4)) Ty.s28 rfl rfl rfl rfl rfl one_cT .here ?_; refine J.assign rfl rfl ?_; refine J.assign rfl rfl ?_; refine J.nil ?_; refine JX.thenN (hK30 _ _ ?_); refine JC.ret ?_; refine JX.retCTT (vs := cT k1 ⟨((n2 : Nat) : Int), k3⟩ (.slice a4 t4.length c4)) rfl rfl rfl rfl Ty.a28 Ty.s28 rfl (fun w1 hw => Cells.of_block (hw.own (b2, cb (cT k1 ⟨((n2 : Nat) : Int), k3⟩ (.slice a4 t4.length c4)) 28) zm) rfl) (fun w1 hw => ?_)
            exact ⟨.item ⟨k1, ⟨((n2 : Nat) : Int), k3⟩, t4, .slice a4 t4.length c4, l4⟩, rfl, ⟨hg, ⟨by simp only; omega, by simp only; omega⟩, hv4⟩, (hw.perm (zp : List.Perm _ (((b2, cb (cT k1 ⟨((n2 : Nat) : Int), k3⟩ (.slice a4 t4.length c4)) 28) :: (b13, cb (cI k3) 23) :: (b11, cb (cI k1) 23) :: []) ++ l4))).drop (List.sublist_append_right _ _)⟩

end Go.Proofs.Ytoaenmlhehcjfaa
