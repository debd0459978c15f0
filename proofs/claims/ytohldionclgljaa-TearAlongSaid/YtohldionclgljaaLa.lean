/-
  The document's identities as two words: Wide, Less: contracts.
-/
import Derived.Test.YtohldionclgljaaKc
namespace Go.Proofs.Ytohldionclgljaa
open Go.J Go.RowKit
set_option linter.unusedVariables false
set_option linter.unusedSimpArgs false
set_option maxRecDepth 4000
theorem valB_append : ∀ (xs ys : List UInt8), valB (xs ++ ys) = valB xs * 256 ^ ys.length + valB ys
  | [], ys => by simp [valB]
  | x :: xs, ys => by
    simp only [List.cons_append, valB, valB_append xs ys, List.length_append, Nat.pow_add]
    rw [Nat.add_mul, Nat.mul_assoc, Nat.add_assoc]
theorem valB_snoc (xs : List UInt8) (b : UInt8) : valB (xs ++ [b]) = valB xs * 256 + b.toNat := by
  rw [valB_append]; simp [valB]
def hiI (a : IDV) : Nat := valB ((bI a).take 8)
def loI (a : IDV) : Nat := valB ((bI a).drop 8)
theorem valI_hl (a : IDV) : valI a = hiI a * 2 ^ 64 + loI a := by
  have : bI a = (bI a).take 8 ++ (bI a).drop 8 := (List.take_append_drop 8 _).symm
  unfold valI
  rw [this, valB_append, show ((bI a).drop 8).length = 8 from rfl, show (256 : Nat) ^ 8 = 2 ^ 64 by decide]
  rfl
theorem hiI_lt (a : IDV) : hiI a < 18446744073709551616 := by
  have := valB_lt ((bI a).take 8)
  simpa [hiI] using this
theorem loI_lt (a : IDV) : loI a < 18446744073709551616 := by
  have := valB_lt ((bI a).drop 8)
  simpa [loI] using this
theorem valB_take_lt (l : List UInt8) (k : Nat) : valB (l.take k) < 256 ^ k := by
  have h := valB_lt (l.take k)
  refine Nat.lt_of_lt_of_le h (Nat.pow_le_pow_right (by omega) ?_)
  rw [List.length_take]; omega
theorem valB_take_succ {l : List UInt8} {k : Nat} (h : k < l.length) : valB (l.take (k + 1)) = valB (l.take k) * 256 + (l[k]).toNat := by
  rw [take_add_one h, valB_snoc]
theorem muladd_u64 (n x : Nat) : Value.int .u64 (IntKind.u64.wrap (IntKind.u64.wrap ((n : Int) * 256) + IntKind.u64.wrap (x : Int))) = .int .u64 (((n * 256 + x) % 18446744073709551616 : Nat) : Int) := by
  congr 1
  rw [wrap_u64m, wrap_u64m, wrap_u64m]; omega
theorem take_bound {l : List UInt8} {k : Nat} (hk : k < 8) (h : k < l.length) : (valB (l.take k) * 256 + (l[k]).toNat) % 18446744073709551616 = valB (l.take (k + 1)) := by
  rw [← valB_take_succ h]
  refine Nat.mod_eq_of_lt (Nat.lt_of_lt_of_le (valB_take_lt l (k + 1)) ?_)
  exact Nat.le_trans (Nat.pow_le_pow_right (by omega) (show k + 1 ≤ 8 by omega)) (by decide)
theorem less_hl (a b : IDV) : (decide (hiI a < hiI b) || (decide (hiI a = hiI b) && decide (loI a < loI b))) = decide (valI a < valI b) := by
  have h1 := loI_lt a
  have h2 := loI_lt b
  rw [← Bool.decide_and, ← Bool.decide_or]
  refine decide_eq_decide.2 ?_
  rw [valI_hl a, valI_hl b]
  omega

theorem wide_spec (a : IDV) (w : World) :
    Calls Try.prog 70 [.agg (cI a).toArray].toArray w fun r w' => r = .returned (.tuple #[.int .u64 ((hiI a : Nat) : Int), .int .u64 ((loI a : Nat) : Int)]) ∧ Bel w w' := by
  refine calls_of_J (args := [.agg (cI a).toArray]) (e := [(0, .agg (cI a).toArray)]) Try.func70 rfl rfl ⟨rfl, trivial⟩ (St.start w) ?_
  refine JC.seq (fun K0 hK0 => ?_)
  refine JC.region ?_
  refine J.box rfl rfl rfl (fun b1 => ?_)
  refine J.assign rfl rfl ?_
  refine J.assign rfl rfl ?_
  refine J.nil ?_
  refine JX.thenN (hK0 _ _ ?_)
  refine JC.seq (fun K1 hK1 => ?_)
  refine JC.region ?_
  refine J.assign rfl rfl ?_
  refine J.assign rfl rfl ?_
  refine J.nil ?_
  refine JX.thenN (hK1 _ _ ?_)
  refine JC.seq (fun K2 hK2 => ?_)
  refine JC.seq (fun K3 hK3 => ?_)
  refine JC.region ?_
  refine J.assign rfl rfl ?_
  refine J.nil ?_
  refine JX.thenN (hK3 _ _ ?_)
  refine JC.block ?_
  refine JC.conseq (JC.cov (f := (fun k => [(1, .pointer (some ⟨b1, 0, none⟩)), (4, .int .u64 ((valB ((bI a).take k) : Nat) : Int)), (5, .int .u64 ((valB (((bI a).drop 8).take k) : Nat) : Int)), (6, .int .i64 ((k : Nat) : Int))]) 0) ⟨rfl, rfl, rfl, rfl, trivial⟩ (JC.loop (α := Nat) (fun k => [(1, .pointer (some ⟨b1, 0, none⟩)), (4, .int .u64 ((valB ((bI a).take k) : Nat) : Int)), (5, .int .u64 ((valB (((bI a).drop 8).take k) : Nat) : Int)), (6, .int .i64 ((k : Nat) : Int))]) (fun k w' => (k ≤ 8) ∧ St w [] [(b1, cb (cI a) 23)] w') (fun k => 8 - k) 0 (fun k => ?_))) (fun w hw => ⟨by omega, hw⟩)
  refine JC.pr (fun hk8 => ?_)
  refine JC.seq (fun K4 hK4 => ?_)
  refine JC.seq (fun K5 hK5 => ?_)
  refine JC.region ?_
  refine J.move rfl rfl ?_
  refine J.bin rfl rfl rfl rfl ?_
  refine J.nil ?_
  refine JX.thenN (hK5 _ _ ?_)
  refine JC.cond rfl (fun h0 => ?_) (fun h0 => ?_)
  · skip
    have hlt : k < 8 := by simp at h0; omega
    refine JC.skip ?_
    refine JX.thenN (hK4 _ _ ?_)
    refine JC.seq (fun K6 hK6 => ?_)
    refine JC.block ?_
    refine JC.seq (fun K7 hK7 => ?_)
    refine JC.region ?_
    refine J.move rfl rfl ?_
    refine J.bin rfl rfl rfl rfl ?_
    refine J.move rfl rfl ?_
    refine J.indexAddrA Ty.ar23 Ty.s5 rfl rfl (by omega) (by omega) rfl ?_
    refine J.load1 (v := u8 ((bI a)[k]'(by show _ < 16; omega))) Ty.a5 rfl (fun w1 hw => (cell_of (hw.own _ (.head _))).trans (by rw [show 0 + ((k : Int) : Int).toNat * 1 = k by omega]; show ((bI a).map u8)[k]? = _; rw [List.getElem?_map, List.getElem?_eq_getElem (show k < (bI a).length by show _ < 16; omega)]; rfl)) rfl ?_
    refine J.convInt Ty.u5 Ty.u119 rfl rfl ?_
    refine J.bin rfl rfl rfl rfl ?_
    refine J.name 17 rfl ((muladd_u64 _ ((bI a)[k]'(by show _ < 16; omega)).toNat).trans (by rw [take_bound hlt])) ?_
    refine J.assign rfl rfl ?_
    refine J.nil ?_
    refine JX.thenN (hK7 _ _ ?_)
    refine JC.region ?_
    refine J.move rfl rfl ?_
    refine J.bin rfl rfl rfl rfl ?_
    refine J.move rfl rfl ?_
    (first | refine J.addN rfl rfl (by omega) (by omega) rfl ?_ | refine J.bin rfl rfl rfl rfl ?_)
    refine J.indexAddrA Ty.ar23 Ty.s5 rfl rfl (by omega) (by omega) rfl ?_
    refine J.load1 (v := u8 ((bI a)[8 + k]'(by show _ < 16; omega))) Ty.a5 rfl (fun w1 hw => (cell_of (hw.own _ (.head _))).trans (by rw [show 0 + (8 + (k : Int) : Int).toNat * 1 = 8 + k by omega]; show ((bI a).map u8)[8 + k]? = _; rw [List.getElem?_map, List.getElem?_eq_getElem (show 8 + k < (bI a).length by show _ < 16; omega)]; rfl)) rfl ?_
    refine J.convInt Ty.u5 Ty.u119 rfl rfl ?_
    refine J.bin rfl rfl rfl rfl ?_
    refine J.name 25 rfl ((muladd_u64 _ ((bI a)[8 + k]'(by show _ < 16; omega)).toNat).trans (by
      have e : (bI a)[8 + k]'(by show _ < 16; omega) = ((bI a).drop 8)[k]'(by show k < 8; omega) := by rw [List.getElem_drop]
      rw [e, take_bound hlt (by show k < 8; omega)])) ?_
    refine J.assign rfl rfl ?_
    refine J.nil ?_
    refine JX.blockN ?_
    refine JX.thenN (hK6 _ _ ?_)
    refine JC.region ?_
    refine J.move rfl rfl ?_
    (first | refine J.addN rfl rfl (by omega) (by omega) rfl ?_ | refine J.bin rfl rfl rfl rfl ?_)
    refine J.assign rfl rfl ?_
    refine J.nil ?_
    refine JX.thenN ?_
    refine JX.again (k + 1) ?_ ?_ ?_
    · omega
    · exact ⟨rfl, rfl, rfl, rfl, trivial⟩
    · exact fun w1 hw => ⟨hlt, hw⟩
  · skip
    have hge : k = 8 := by simp at h0; omega
    subst hge
    refine JC.exit ?_
    refine JX.thenE ?_
    refine JX.thenE ?_
    refine JX.blockE ?_
    refine JX.thenN (hK2 _ _ ?_)
    refine JC.seq (fun K8 hK8 => ?_)
    refine JC.region ?_
    refine J.move rfl rfl ?_
    refine J.move rfl rfl ?_
    refine J.assign rfl rfl ?_
    refine J.assign rfl rfl ?_
    refine J.nil ?_
    refine JX.thenN (hK8 _ _ ?_)
    refine JC.ret ?_
    refine JX.ret2 rfl rfl rfl (fun w hw => ?_)
    exact ⟨rfl, hw.below⟩

theorem less_spec (a b : IDV) (w : World) :
    Calls Try.prog 51 [.agg (cI a).toArray, .agg (cI b).toArray].toArray w fun r w' => r = .returned (.bool (decide (valI a < valI b))) ∧ Bel w w' := by
  refine calls_of_J (args := [.agg (cI a).toArray, .agg (cI b).toArray]) (e := [(0, .agg (cI a).toArray), (1, .agg (cI b).toArray)]) Try.func51 rfl rfl ⟨rfl, rfl, trivial⟩ (St.start w) ?_
  refine JC.seq (fun K0 hK0 => ?_)
  refine JC.region ?_
  refine J.box rfl rfl rfl (fun b2 => ?_)
  refine J.box rfl rfl rfl (fun b3 => ?_)
  refine J.assign rfl rfl ?_
  refine J.nil ?_
  refine JX.thenN (hK0 _ _ ?_)
  refine JC.seq (fun K1 hK1 => ?_)
  refine JC.region ?_
  refine J.loadOA (vs := cI a) Ty.a23 Ty.s23 rfl (by repeat first | exact .head _ | apply List.Mem.tail | apply List.mem_append_right) (by exact rfl) rfl rfl ?_
  refine J.callB (v := .tuple #[.int .u64 ((hiI a : Nat) : Int), .int .u64 ((loI a : Nat) : Int)]) (fun w1 w2 hw hb => hw.step hb) Ty.bd70 rfl rfl (fun w1 hw => wide_spec a w1) ?_
  refine J.move rfl rfl ?_
  refine J.extract rfl rfl rfl ?_
  refine J.extract rfl rfl rfl ?_
  refine J.assign rfl rfl ?_
  refine J.assign rfl rfl ?_
  refine J.nil ?_
  refine JX.thenN (hK1 _ _ ?_)
  refine JC.seq (fun K2 hK2 => ?_)
  refine JC.region ?_
  refine J.loadOA (vs := cI b) Ty.a23 Ty.s23 rfl (by repeat first | exact .head _ | apply List.Mem.tail | apply List.mem_append_right) (by exact rfl) rfl rfl ?_
  refine J.callB (v := .tuple #[.int .u64 ((hiI b : Nat) : Int), .int .u64 ((loI b : Nat) : Int)]) (fun w1 w2 hw hb => hw.step hb) Ty.bd70 rfl rfl (fun w1 hw => wide_spec b w1) ?_
  refine J.move rfl rfl ?_
  refine J.extract rfl rfl rfl ?_
  refine J.extract rfl rfl rfl ?_
  refine J.assign rfl rfl ?_
  refine J.assign rfl rfl ?_
  refine J.nil ?_
  refine JX.thenN (hK2 _ _ ?_)
  refine JC.seq (fun K3 hK3 => ?_)
  refine JC.region ?_
  refine J.move rfl rfl ?_
  refine J.move rfl rfl ?_
  refine J.bin rfl rfl rfl rfl ?_
  refine J.name 21 rfl (show _ = Value.bool (decide (hiI a < hiI b)) by first | (congr 1; refine decide_eq_decide.2 ?_; omega) | (simp; done) | (simp; omega)) ?_
  refine J.move rfl rfl ?_
  refine J.split 22 rfl (fun hs22 => ?_) (fun hs22 => ?_)
  · skip
    try simp only [decide_eq_true_eq, decide_eq_false_iff_not, beq_iff_eq, bne_iff_ne, bne_eq_false_iff_eq, ne_eq, beq_eq_false_iff_ne, Bool.not_eq_true, Bool.not_eq_false, Int.not_lt, Int.not_le] at hs22
    first
    | exact absurd hs22 (by decide)
    | skip
      first | refine J.skip rfl rfl rfl rfl rfl ?_ | refine J.skipU rfl rfl rfl rfl ?_ | (refine J.unguard rfl rfl rfl ?_; refine J.move rfl rfl ?_)
      first | refine J.skip rfl rfl rfl rfl rfl ?_ | refine J.skipU rfl rfl rfl rfl ?_ | (refine J.unguard rfl rfl rfl ?_; refine J.move rfl rfl ?_)
      first | refine J.skip rfl rfl rfl rfl rfl ?_ | refine J.skipU rfl rfl rfl rfl ?_ | (refine J.unguard rfl rfl rfl ?_; refine J.bin rfl rfl rfl rfl ?_; refine J.name 25 rfl (show _ = Value.bool (decide (hiI a = hiI b)) by first | (congr 1; refine decide_eq_decide.2 ?_; omega) | (simp; done) | (simp; omega)) ?_)
      first | refine J.skip rfl rfl rfl rfl rfl ?_ | refine J.skipU rfl rfl rfl rfl ?_ | (refine J.unguard rfl rfl rfl ?_; refine J.move rfl rfl ?_)
      first | refine J.skip rfl rfl rfl rfl rfl ?_ | refine J.skipU rfl rfl rfl rfl ?_ | (refine J.unguard rfl rfl rfl ?_; refine J.move rfl rfl ?_)
      first | refine J.skip rfl rfl rfl rfl rfl ?_ | refine J.skipU rfl rfl rfl rfl ?_ | (refine J.unguard rfl rfl rfl ?_; refine J.move rfl rfl ?_)
      first | refine J.skip rfl rfl rfl rfl rfl ?_ | refine J.skipU rfl rfl rfl rfl ?_ | (refine J.unguard rfl rfl rfl ?_; refine J.bin rfl rfl rfl rfl ?_; refine J.name 29 rfl (show _ = Value.bool (decide (loI a < loI b)) by first | (congr 1; refine decide_eq_decide.2 ?_; omega) | (simp; done) | (simp; omega)) ?_)
      first | refine J.skip rfl rfl rfl rfl rfl ?_ | refine J.skipU rfl rfl rfl rfl ?_ | (refine J.unguard rfl rfl rfl ?_; (first | refine J.pickT rfl rfl rfl ?_ | refine J.pickF rfl rfl rfl ?_))
      (first | refine J.pickT rfl rfl rfl ?_ | refine J.pickF rfl rfl rfl ?_)
      refine J.assign rfl rfl ?_
      refine J.nil ?_
      refine JX.thenN (hK3 _ _ ?_)
      refine JC.ret ?_
      refine JX.ret1 rfl rfl (fun w hw => ?_)
      refine ⟨?_, hw.below⟩
      rw [← less_hl]
      simp_all
  · skip
    try simp only [decide_eq_true_eq, decide_eq_false_iff_not, beq_iff_eq, bne_iff_ne, bne_eq_false_iff_eq, ne_eq, beq_eq_false_iff_ne, Bool.not_eq_true, Bool.not_eq_false, Int.not_lt, Int.not_le] at hs22
    first
    | exact absurd hs22 (by decide)
    | skip
      first | refine J.skip rfl rfl rfl rfl rfl ?_ | refine J.skipU rfl rfl rfl rfl ?_ | (refine J.unguard rfl rfl rfl ?_; refine J.move rfl rfl ?_)
      first | refine J.skip rfl rfl rfl rfl rfl ?_ | refine J.skipU rfl rfl rfl rfl ?_ | (refine J.unguard rfl rfl rfl ?_; refine J.move rfl rfl ?_)
      first | refine J.skip rfl rfl rfl rfl rfl ?_ | refine J.skipU rfl rfl rfl rfl ?_ | (refine J.unguard rfl rfl rfl ?_; refine J.bin rfl rfl rfl rfl ?_; refine J.name 25 rfl (show _ = Value.bool (decide (hiI a = hiI b)) by first | (congr 1; refine decide_eq_decide.2 ?_; omega) | (simp; done) | (simp; omega)) ?_)
      first | refine J.skip rfl rfl rfl rfl rfl ?_ | refine J.skipU rfl rfl rfl rfl ?_ | (refine J.unguard rfl rfl rfl ?_; refine J.move rfl rfl ?_)
      refine J.split 26 rfl (fun hs26 => ?_) (fun hs26 => ?_)
      · skip
        try simp only [decide_eq_true_eq, decide_eq_false_iff_not, beq_iff_eq, bne_iff_ne, bne_eq_false_iff_eq, ne_eq, beq_eq_false_iff_ne, Bool.not_eq_true, Bool.not_eq_false, Int.not_lt, Int.not_le] at hs26
        first
        | exact absurd hs26 (by decide)
        | skip
          first | refine J.skip rfl rfl rfl rfl rfl ?_ | refine J.skipU rfl rfl rfl rfl ?_ | (refine J.unguard rfl rfl rfl ?_; refine J.move rfl rfl ?_)
          first | refine J.skip rfl rfl rfl rfl rfl ?_ | refine J.skipU rfl rfl rfl rfl ?_ | (refine J.unguard rfl rfl rfl ?_; refine J.move rfl rfl ?_)
          first | refine J.skip rfl rfl rfl rfl rfl ?_ | refine J.skipU rfl rfl rfl rfl ?_ | (refine J.unguard rfl rfl rfl ?_; refine J.bin rfl rfl rfl rfl ?_; refine J.name 29 rfl (show _ = Value.bool (decide (loI a < loI b)) by first | (congr 1; refine decide_eq_decide.2 ?_; omega) | (simp; done) | (simp; omega)) ?_)
          first | refine J.skip rfl rfl rfl rfl rfl ?_ | refine J.skipU rfl rfl rfl rfl ?_ | (refine J.unguard rfl rfl rfl ?_; (first | refine J.pickT rfl rfl rfl ?_ | refine J.pickF rfl rfl rfl ?_))
          (first | refine J.pickT rfl rfl rfl ?_ | refine J.pickF rfl rfl rfl ?_)
          refine J.assign rfl rfl ?_
          refine J.nil ?_
          refine JX.thenN (hK3 _ _ ?_)
          refine JC.ret ?_
          refine JX.ret1 rfl rfl (fun w hw => ?_)
          refine ⟨?_, hw.below⟩
          rw [← less_hl]
          simp_all
      · skip
        try simp only [decide_eq_true_eq, decide_eq_false_iff_not, beq_iff_eq, bne_iff_ne, bne_eq_false_iff_eq, ne_eq, beq_eq_false_iff_ne, Bool.not_eq_true, Bool.not_eq_false, Int.not_lt, Int.not_le] at hs26
        first
        | exact absurd hs26 (by decide)
        | skip
          first | refine J.skip rfl rfl rfl rfl rfl ?_ | refine J.skipU rfl rfl rfl rfl ?_ | (refine J.unguard rfl rfl rfl ?_; refine J.move rfl rfl ?_)
          first | refine J.skip rfl rfl rfl rfl rfl ?_ | refine J.skipU rfl rfl rfl rfl ?_ | (refine J.unguard rfl rfl rfl ?_; refine J.move rfl rfl ?_)
          first | refine J.skip rfl rfl rfl rfl rfl ?_ | refine J.skipU rfl rfl rfl rfl ?_ | (refine J.unguard rfl rfl rfl ?_; refine J.bin rfl rfl rfl rfl ?_; refine J.name 29 rfl (show _ = Value.bool (decide (loI a < loI b)) by first | (congr 1; refine decide_eq_decide.2 ?_; omega) | (simp; done) | (simp; omega)) ?_)
          first | refine J.skip rfl rfl rfl rfl rfl ?_ | refine J.skipU rfl rfl rfl rfl ?_ | (refine J.unguard rfl rfl rfl ?_; (first | refine J.pickT rfl rfl rfl ?_ | refine J.pickF rfl rfl rfl ?_))
          (first | refine J.pickT rfl rfl rfl ?_ | refine J.pickF rfl rfl rfl ?_)
          refine J.assign rfl rfl ?_
          refine J.nil ?_
          refine JX.thenN (hK3 _ _ ?_)
          refine JC.ret ?_
          refine JX.ret1 rfl rfl (fun w hw => ?_)
          refine ⟨?_, hw.below⟩
          rw [← less_hl]
          simp_all

end Go.Proofs.Ytohldionclgljaa
