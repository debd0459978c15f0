/-
  The document's identities as two words: Wide, Less: contracts.
-/
import Derived.Test.YtohldionclgljaaGreatKo
namespace Go.Proofs.YtohldionclgljaaGreat
open Go.J Go.RowKit
set_option linter.unusedVariables false
set_option linter.unusedSimpArgs false
set_option maxRecDepth 4000
theorem valB_append : ∀ (xs ys : List UInt8), valB (xs ++ ys) = valB xs * 256 ^ ys.length + valB ys
  | [], ys => by simp [valB]
  | x :: xs, ys => by
    simp only [List.cons_append, valB, valB_append xs ys, List.length_append, Nat.pow_add]
    rw [Nat.add_mul, Nat.mul_assoc, Nat.add_assoc]
theorem valB_snoc (xs : List UInt8) (b : UInt8) : valB (xs ++ [b]) = valB xs * 256 + b.toNat := by
  rw [valB_append]; simp [valB]
def hiI (a : IDV) : Nat := valB ((bI a).take 8)
def loI (a : IDV) : Nat := valB ((bI a).drop 8)
theorem valI_hl (a : IDV) : valI a = hiI a * 2 ^ 64 + loI a := by
  have : bI a = (bI a).take 8 ++ (bI a).drop 8 := (List.take_append_drop 8 _).symm
  unfold valI
  rw [this, valB_append, show ((bI a).drop 8).length = 8 from rfl, show (256 : Nat) ^ 8 = 2 ^ 64 by decide]
  rfl
theorem hiI_lt (a : IDV) : hiI a < 18446744073709551616 := by
  have := valB_lt ((bI a).take 8)
  simpa [hiI] using this
theorem loI_lt (a : IDV) : loI a < 18446744073709551616 := by
  have := valB_lt ((bI a).drop 8)
  simpa [loI] using this
theorem valB_take_lt (l : List UInt8) (k : Nat) : valB (l.take k) < 256 ^ k := by
  have h := valB_lt (l.take k)
  refine Nat.lt_of_lt_of_le h (Nat.pow_le_pow_right (by omega) ?_)
  rw [List.length_take]; omega
theorem valB_take_succ {l : List UInt8} {k : Nat} (h : k < l.length) : valB (l.take (k + 1)) = valB (l.take k) * 256 + (l[k]).toNat := by
  rw [take_add_one h, valB_snoc]
theorem muladd_u64 (n x : Nat) : Value.int .u64 (IntKind.u64.wrap (IntKind.u64.wrap ((n : Int) * 256) + IntKind.u64.wrap (x : Int))) = .int .u64 (((n * 256 + x) % 18446744073709551616 : Nat) : Int) := by
  congr 1
  rw [wrap_u64m, wrap_u64m, wrap_u64m]; omega
theorem take_bound {l : List UInt8} {k : Nat} (hk : k < 8) (h : k < l.length) : (valB (l.take k) * 256 + (l[k]).toNat) % 18446744073709551616 = valB (l.take (k + 1)) := by
  rw [← valB_take_succ h]
  refine Nat.mod_eq_of_lt (Nat.lt_of_lt_of_le (valB_take_lt l (k + 1)) ?_)
  exact Nat.le_trans (Nat.pow_le_pow_right (by omega) (show k + 1 ≤ 8 by omega)) (by decide)
theorem less_hl (a b : IDV) : (decide (hiI a < hiI b) || (decide (hiI a = hiI b) && decide (loI a < loI b))) = decide (valI a < valI b) := by
  have h1 := loI_lt a
  have h2 := loI_lt b
  rw [← Bool.decide_and, ← Bool.decide_or]
  refine decide_eq_decide.2 ?_
  rw [valI_hl a, valI_hl b]
  omega

theorem wide_spec (a : IDV) (w : World) :
    Calls Tryz.prog 65 [.agg (cI a).toArray].toArray w fun r w' => r = .returned (.tuple #[.int .u64 ((hiI a : Nat) : Int), .int .u64 ((loI a : Nat) : Int)]) ∧ Bel w w' := by
  refine calls_of_J (args := [.agg (cI a).toArray]) (e := [(0, .agg (cI a).toArray)]) Tryz.func65 rfl rfl ⟨rfl, trivial⟩ (St.start w) ?_
  refine JC.seq (fun K0 hK0 => ?_)
  refine JC.region ?_
  refine J.box rfl rfl rfl (fun b1 => ?_)
  refine J.assign rfl rfl ?_
  refine J.assign rfl rfl ?_
  refine J.nil ?_
  refine JX.thenN (hK0 _ _ ?_)
  refine JC.seq (fun K1 hK1 => ?_)
  refine JC.region ?_
  refine J.assign rfl rfl ?_
  refine J.assign rfl rfl ?_
  refine J.nil ?_
  refine JX.thenN (hK1 _ _ ?_)
  refine JC.seq (fun K2 hK2 => ?_)
  refine JC.seq (fun K3 hK3 => ?_)
  refine JC.region ?_
  refine J.assign rfl rfl ?_
  refine J.nil ?_
  refine JX.thenN (hK3 _ _ ?_)
  refine JC.block ?_
  refine JC.conseq (JC.cov (f := (fun k => [(1, .pointer (some ⟨b1, 0, none⟩)), (4, .int .u64 ((valB ((bI a).take k) : Nat) : Int)), (5, .int .u64 ((valB (((bI a).drop 8).take k) : Nat) : Int)), (6, .int .i64 ((k : Nat) : Int))]) 0) ⟨rfl, rfl, rfl, rfl, trivial⟩ (JC.loop (α := Nat) (fun k => [(1, .pointer (some ⟨b1, 0, none⟩)), (4, .int .u64 ((valB ((bI a).take k) : Nat) : Int)), (5, .int .u64 ((valB (((bI a).drop 8).take k) : Nat) : Int)), (6, .int .i64 ((k : Nat) : Int))]) (fun k w' => (k ≤ 8) ∧ St w [] [(b1, cb (cI a) 24)] w') (fun k => 8 - k) 0 (fun k => ?_))) (fun w hw => ⟨by omega, hw⟩)
  refine JC.pr (fun hk8 => ?_)
  refine JC.seq (fun K4 hK4 => ?_)
  refine JC.seq (fun K5 hK5 => ?_)
  refine JC.region ?_
  refine J.move rfl rfl ?_
  refine J.bin rfl rfl rfl rfl ?_
  refine J.nil ?_
  refine JX.thenN (hK5 _ _ ?_)
  refine JC.cond rfl (fun h0 => ?_) (fun h0 => ?_)
  · skip
    have hlt : k < 8 := by simp at h0; omega
    refine JC.skip ?_
    refine JX.thenN (hK4 _ _ ?_)
    refine JC.seq (fun K6 hK6 => ?_)
    refine JC.block ?_
    refine JC.seq (fun K7 hK7 => ?_)
    refine JC.region ?_
    refine J.move rfl rfl ?_
    refine J.bin rfl rfl rfl rfl ?_
    refine J.move rfl rfl ?_
    refine J.indexAddrA Ty.ar24 Ty.s5 rfl rfl (by omega) (by omega) rfl ?_
    refine J.load1 (v := u8 ((bI a)[k]'(by show _ < 16; omega))) Ty.a5 rfl (fun w1 hw => (cell_of (hw.own _ (.head _))).trans (by rw [show 0 + ((k : Int) : Int).toNat * 1 = k by omega]; show ((bI a).map u8)[k]? = _; rw [List.getElem?_map, List.getElem?_eq_getElem (show k < (bI a).length by show _ < 16; omega)]; rfl)) rfl ?_
    refine J.convInt Ty.u5 Ty.u110 rfl rfl ?_
    refine J.bin rfl rfl rfl rfl ?_
    refine J.name 17 rfl ((muladd_u64 _ ((bI a)[k]'(by show _ < 16; omega)).toNat).trans (by rw [take_bound hlt])) ?_
    refine J.assign rfl rfl ?_
    refine J.nil ?_
    refine JX.thenN (hK7 _ _ ?_)
    refine JC.region ?_
    refine J.move rfl rfl ?_
    refine J.bin rfl rfl rfl rfl ?_
    refine J.move rfl rfl ?_
    (first | refine J.addN rfl rfl (by omega) (by omega) rfl ?_ | refine J.bin rfl rfl rfl rfl ?_)
    refine J.indexAddrA Ty.ar24 Ty.s5 rfl rfl (by omega) (by omega) rfl ?_
    refine J.load1 (v := u8 ((bI a)[8 + k]'(by show _ < 16; omega))) Ty.a5 rfl (fun w1 hw => (cell_of (hw.own _ (.head _))).trans (by rw [show 0 + (8 + (k : Int) : Int).toNat * 1 = 8 + k by omega]; show ((bI a).map u8)[8 + k]? = _; rw [List.getElem?_map, List.getElem?_eq_getElem (show 8 + k < (bI a).length by show _ < 16; omega)]; rfl)) rfl ?_
    refine J.convInt Ty.u5 Ty.u110 rfl rfl ?_
    refine J.bin rfl rfl rfl rfl ?_
    refine J.name 25 rfl ((muladd_u64 _ ((bI a)[8 + k]'(by show _ < 16; omega)).toNat).trans (by
      have e : (bI a)[8 + k]'(by show _ < 16; omega) = ((bI a).drop 8)[k]'(by show k < 8; omega) := by rw [List.getElem_drop]
      rw [e, take_bound hlt (by show k < 8; omega)])) ?_
    refine J.assign rfl rfl ?_
    refine J.nil ?_
    refine JX.blockN ?_
    refine JX.thenN (hK6 _ _ ?_)
    refine JC.region ?_
    refine J.move rfl rfl ?_
    (first | refine J.addN rfl rfl (by omega) (by omega) rfl ?_ | refine J.bin rfl rfl rfl rfl ?_)
    refine J.assign rfl rfl ?_
    refine J.nil ?_
    refine JX.thenN ?_
    refine JX.again (k + 1) ?_ ?_ ?_
    · omega
    · exact ⟨rfl, rfl, rfl, rfl, trivial⟩
    · exact fun w1 hw => ⟨hlt, hw⟩
  · skip
    have hge : k = 8 := by simp at h0; omega
    subst hge
    refine JC.exit ?_
    refine JX.thenE ?_
    refine JX.thenE ?_
    refine JX.blockE ?_
    refine JX.thenN (hK2 _ _ ?_)
    refine JC.seq (fun K8 hK8 => ?_)
    refine JC.region ?_
    refine J.move rfl rfl ?_
    refine J.move rfl rfl ?_
    refine J.assign rfl rfl ?_
    refine J.assign rfl rfl ?_
    refine J.nil ?_
    refine JX.thenN (hK8 _ _ ?_)
    refine JC.ret ?_
    refine JX.ret2 rfl rfl rfl (fun w hw => ?_)
    exact ⟨rfl, hw.below⟩

theorem less_spec (a b : IDV) (w : World) :
    Calls Tryz.prog 44 [.agg (cI a).toArray, .agg (cI b).toArray].toArray w fun r w' => r = .returned (.bool (decide (valI a < valI b))) ∧ Bel w w' := by
  refine calls_of_J (args := [.agg (cI a).toArray, .agg (cI b).toArray]) (e := [(0, .agg (cI a).toArray), (1, .agg (cI b).toArray)]) Tryz.func44 rfl rfl ⟨rfl, rfl, trivial⟩ (St.start w) ?_
  refine JC.seq (fun K0 hK0 => ?_)
  refine JC.region ?_
  refine J.box rfl rfl rfl (fun b2 => ?_)
  refine J.box rfl rfl rfl (fun b3 => ?_)
  refine J.assign rfl rfl ?_
  refine J.nil ?_
  refine JX.thenN (hK0 _ _ ?_)
  refine JC.seq (fun K1 hK1 => ?_)
  refine JC.region ?_
  refine J.loadOA (vs := cI a) Ty.a24 Ty.s24 rfl (by repeat first | exact .head _ | apply List.Mem.tail | apply List.mem_append_right) (by exact rfl) rfl rfl ?_
  refine J.callB (v := .tuple #[.int .u64 ((hiI a : Nat) : Int), .int .u64 ((loI a : Nat) : Int)]) (fun w1 w2 hw hb => hw.step hb) Ty.bd65 rfl rfl (fun w1 hw => wide_spec a w1) ?_
  refine J.move rfl rfl ?_
  refine J.extract rfl rfl rfl ?_
  refine J.extract rfl rfl rfl ?_
  refine J.assign rfl rfl ?_
  refine J.assign rfl rfl ?_
  refine J.nil ?_
  refine JX.thenN (hK1 _ _ ?_)
  refine JC.seq (fun K2 hK2 => ?_)
  refine JC.region ?_
  refine J.loadOA (vs := cI b) Ty.a24 Ty.s24 rfl (by repeat first | exact .head _ | apply List.Mem.tail | apply List.mem_append_right) (by exact rfl) rfl rfl ?_
  refine J.callB (v := .tuple #[.int .u64 ((hiI b : Nat) : Int), .int .u64 ((loI b : Nat) : Int)]) (fun w1 w2 hw hb => hw.step hb) Ty.bd65 rfl rfl (fun w1 hw => wide_spec b w1) ?_
  refine J.move rfl rfl ?_
  refine J.extract rfl rfl rfl ?_
  refine J.extract rfl rfl rfl ?_
  refine J.assign rfl rfl ?_
  refine J.assign rfl rfl ?_
  refine J.nil ?_
  refine JX.thenN (hK2 _ _ ?_)
  refine JC.seq (fun K3 hK3 => ?_)
  refine JC.region ?_
  refine J.move rfl rfl ?_
  refine J.move rfl rfl ?_
  refine J.bin rfl rfl rfl rfl ?_
  refine J.name 21 rfl (show _ = Value.bool (decide (hiI a < hiI b)) by first | (congr 1; refine decide_eq_decide.2 ?_; omega) | (simp; done) | (simp; omega)) ?_
  refine J.move rfl rfl ?_
  refine J.split 22 rfl (fun hs22 => ?_) (fun hs22 => ?_)
  · skip
    try simp only [decide_eq_true_eq, decide_eq_false_iff_not, beq_iff_eq, bne_iff_ne, bne_eq_false_iff_eq, ne_eq, beq_eq_false_iff_ne, Bool.not_eq_true, Bool.not_eq_false, Int.not_lt, Int.not_le] at hs22
    first
    | exact absurd hs22 (by decide)
    | skip
      first | refine J.skip rfl rfl rfl rfl rfl ?_ | refine J.skipU rfl rfl rfl rfl ?_ | (refine J.unguard rfl rfl rfl ?_; refine J.move rfl rfl ?_)
      first | refine J.skip rfl rfl rfl rfl rfl ?_ | refine J.skipU rfl rfl rfl rfl ?_ | (refine J.unguard rfl rfl rfl ?_; refine J.move rfl rfl ?_)
      first | refine J.skip rfl rfl rfl rfl rfl ?_ | refine J.skipU rfl rfl rfl rfl ?_ | (refine J.unguard rfl rfl rfl ?_; refine J.bin rfl rfl rfl rfl ?_; refine J.name 25 rfl (show _ = Value.bool (decide (hiI a = hiI b)) by first | (congr 1; refine decide_eq_decide.2 ?_; omega) | (simp; done) | (simp; omega)) ?_)
      first | refine J.skip rfl rfl rfl rfl rfl ?_ | refine J.skipU rfl rfl rfl rfl ?_ | (refine J.unguard rfl rfl rfl ?_; refine J.move rfl rfl ?_)
      first | refine J.skip rfl rfl rfl rfl rfl ?_ | refine J.skipU rfl rfl rfl rfl ?_ | (refine J.unguard rfl rfl rfl ?_; refine J.move rfl rfl ?_)
      first | refine J.skip rfl rfl rfl rfl rfl ?_ | refine J.skipU rfl rfl rfl rfl ?_ | (refine J.unguard rfl rfl rfl ?_; refine J.move rfl rfl ?_)
      first | refine J.skip rfl rfl rfl rfl rfl ?_ | refine J.skipU rfl rfl rfl rfl ?_ | (refine J.unguard rfl rfl rfl ?_; refine J.bin rfl rfl rfl rfl ?_; refine J.name 29 rfl (show _ = Value.bool (decide (loI a < loI b)) by first | (congr 1; refine decide_eq_decide.2 ?_; omega) | (simp; done) | (simp; omega)) ?_)
      first | refine J.skip rfl rfl rfl rfl rfl ?_ | refine J.skipU rfl rfl rfl rfl ?_ | (refine J.unguard rfl rfl rfl ?_; (first | refine J.pickT rfl rfl rfl ?_ | refine J.pickF rfl rfl rfl ?_))
      (first | refine J.pickT rfl rfl rfl ?_ | refine J.pickF rfl rfl rfl ?_)
      refine J.assign rfl rfl ?_
      refine J.nil ?_
      refine JX.thenN (hK3 _ _ ?_)
      refine JC.ret ?_
      refine JX.ret1 rfl rfl (fun w hw => ?_)
      refine ⟨?_, hw.below⟩
      rw [← less_hl]
      simp_all
  · skip
    try simp only [decide_eq_true_eq, decide_eq_false_iff_not, beq_iff_eq, bne_iff_ne, bne_eq_false_iff_eq, ne_eq, beq_eq_false_iff_ne, Bool.not_eq_true, Bool.not_eq_false, Int.not_lt, Int.not_le] at hs22
    first
    | exact absurd hs22 (by decide)
    | skip
      first | refine J.skip rfl rfl rfl rfl rfl ?_ | refine J.skipU rfl rfl rfl rfl ?_ | (refine J.unguard rfl rfl rfl ?_; refine J.move rfl rfl ?_)
      first | refine J.skip rfl rfl rfl rfl rfl ?_ | refine J.skipU rfl rfl rfl rfl ?_ | (refine J.unguard rfl rfl rfl ?_; refine J.move rfl rfl ?_)
      first | refine J.skip rfl rfl rfl rfl rfl ?_ | refine J.skipU rfl rfl rfl rfl ?_ | (refine J.unguard rfl rfl rfl ?_; refine J.bin rfl rfl rfl rfl ?_; refine J.name 25 rfl (show _ = Value.bool (decide (hiI a = hiI b)) by first | (congr 1; refine decide_eq_decide.2 ?_; omega) | (simp; done) | (simp; omega)) ?_)
      first | refine J.skip rfl rfl rfl rfl rfl ?_ | refine J.skipU rfl rfl rfl rfl ?_ | (refine J.unguard rfl rfl rfl ?_; refine J.move rfl rfl ?_)
      refine J.split 26 rfl (fun hs26 => ?_) (fun hs26 => ?_)
      · skip
        try simp only [decide_eq_true_eq, decide_eq_false_iff_not, beq_iff_eq, bne_iff_ne, bne_eq_false_iff_eq, ne_eq, beq_eq_false_iff_ne, Bool.not_eq_true, Bool.not_eq_false, Int.not_lt, Int.not_le] at hs26
        first
        | exact absurd hs26 (by decide)
        | skip
          first | refine J.skip rfl rfl rfl rfl rfl ?_ | refine J.skipU rfl rfl rfl rfl ?_ | (refine J.unguard rfl rfl rfl ?_; refine J.move rfl rfl ?_)
          first | refine J.skip rfl rfl rfl rfl rfl ?_ | refine J.skipU rfl rfl rfl rfl ?_ | (refine J.unguard rfl rfl rfl ?_; refine J.move rfl rfl ?_)
          first | refine J.skip rfl rfl rfl rfl rfl ?_ | refine J.skipU rfl rfl rfl rfl ?_ | (refine J.unguard rfl rfl rfl ?_; refine J.bin rfl rfl rfl rfl ?_; refine J.name 29 rfl (show _ = Value.bool (decide (loI a < loI b)) by first | (congr 1; refine decide_eq_decide.2 ?_; omega) | (simp; done) | (simp; omega)) ?_)
          first | refine J.skip rfl rfl rfl rfl rfl ?_ | refine J.skipU rfl rfl rfl rfl ?_ | (refine J.unguard rfl rfl rfl ?_; (first | refine J.pickT rfl rfl rfl ?_ | refine J.pickF rfl rfl rfl ?_))
          (first | refine J.pickT rfl rfl rfl ?_ | refine J.pickF rfl rfl rfl ?_)
          refine J.assign rfl rfl ?_
          refine J.nil ?_
          refine JX.thenN (hK3 _ _ ?_)
          refine JC.ret ?_
          refine JX.ret1 rfl rfl (fun w hw => ?_)
          refine ⟨?_, hw.below⟩
          rw [← less_hl]
          simp_all
      · skip
        try simp only [decide_eq_true_eq, decide_eq_false_iff_not, beq_iff_eq, bne_iff_ne, bne_eq_false_iff_eq, ne_eq, beq_eq_false_iff_ne, Bool.not_eq_true, Bool.not_eq_false, Int.not_lt, Int.not_le] at hs26
        first
        | exact absurd hs26 (by decide)
        | skip
          first | refine J.skip rfl rfl rfl rfl rfl ?_ | refine J.skipU rfl rfl rfl rfl ?_ | (refine J.unguard rfl rfl rfl ?_; refine J.move rfl rfl ?_)
          first | refine J.skip rfl rfl rfl rfl rfl ?_ | refine J.skipU rfl rfl rfl rfl ?_ | (refine J.unguard rfl rfl rfl ?_; refine J.move rfl rfl ?_)
          first | refine J.skip rfl rfl rfl rfl rfl ?_ | refine J.skipU rfl rfl rfl rfl ?_ | (refine J.unguard rfl rfl rfl ?_; refine J.bin rfl rfl rfl rfl ?_; refine J.name 29 rfl (show _ = Value.bool (decide (loI a < loI b)) by first | (congr 1; refine decide_eq_decide.2 ?_; omega) | (simp; done) | (simp; omega)) ?_)
          first | refine J.skip rfl rfl rfl rfl rfl ?_ | refine J.skipU rfl rfl rfl rfl ?_ | (refine J.unguard rfl rfl rfl ?_; (first | refine J.pickT rfl rfl rfl ?_ | refine J.pickF rfl rfl rfl ?_))
          (first | refine J.pickT rfl rfl rfl ?_ | refine J.pickF rfl rfl rfl ?_)
          refine J.assign rfl rfl ?_
          refine J.nil ?_
          refine JX.thenN (hK3 _ _ ?_)
          refine JC.ret ?_
          refine JX.ret1 rfl rfl (fun w hw => ?_)
          refine ⟨?_, hw.below⟩
          rw [← less_hl]
          simp_all

end Go.Proofs.YtohldionclgljaaGreat
/-
  The document's identities out of two words: ID, Sub: contracts.
-/
namespace Go.Proofs.YtohldionclgljaaGreat
open Go.J Go.RowKit
set_option linter.unusedVariables false
set_option linter.unusedSimpArgs false
set_option maxRecDepth 4000
noncomputable def ofN (n : Nat) : IDV := (valI_ofI_exists (n % 2 ^ 128) (Nat.mod_lt _ (by omega))).choose
theorem valI_ofN (n : Nat) : valI (ofN n) = n % 2 ^ 128 := (valI_ofI_exists (n % 2 ^ 128) (Nat.mod_lt _ (by omega))).choose_spec
/-- the last k digits stand -/
structure Dig (n k : Nat) (l : List UInt8) : Prop where
  hl : l.length = 8
  hv : valB (l.drop (8 - k)) = n % 256 ^ k
theorem Dig.step {n k : Nat} {l : List UInt8} (h : Dig n k l) (hk : k < 8) : Dig n (k + 1) (l.set (7 - k) (UInt8.ofNat (n / 256 ^ k % 256))) := by
  have hl := h.hl
  have hv := h.hv
  refine ⟨by simp [hl], ?_⟩
  have e1 : 8 - (k + 1) = 7 - k := by omega
  have e2 : 7 - k + 1 = 8 - k := by omega
  have hlt : 7 - k < (l.set (7 - k) (UInt8.ofNat (n / 256 ^ k % 256))).length := by rw [List.length_set, hl]; omega
  rw [e1, drop_cons hlt, List.length_set, hl, e2, List.getElem_set_self, List.drop_set_of_lt (by omega), hv, show 8 - (8 - k) = k by omega, Nat.mod_pow_succ]
  have : (UInt8.ofNat (n / 256 ^ k % 256)).toNat = n / 256 ^ k % 256 := by
    rw [UInt8.toNat_ofNat']; omega
  rw [this, Nat.mul_comm, Nat.add_comm]
theorem Dig.start (n : Nat) (l : List UInt8) (h : l.length = 8) : Dig n 0 l := ⟨h, by rw [List.drop_of_length_le (by omega)]; simp [valB, Nat.mod_one]⟩
theorem Dig.done {hi lo : Nat} {h l : List UInt8} (hh : Dig hi 8 h) (hl : Dig lo 8 l) (h1 : hi < 18446744073709551616) (h2 : lo < 18446744073709551616) : ∃ o : IDV, h ++ l = bI o ∧ o = ofN (hi * 2 ^ 64 + lo) := by
  obtain ⟨o, ho⟩ := list16 (h ++ l) (by rw [List.length_append, hh.hl, hl.hl])
  refine ⟨o, ho, valI_inj ?_⟩
  rw [valI_ofN]
  have e1 := hh.hv
  have e2 := hl.hv
  rw [Nat.sub_self, List.drop_zero, show (256 : Nat) ^ 8 = 18446744073709551616 by decide, Nat.mod_eq_of_lt (by assumption)] at e1 e2
  have : valI o = valB (h ++ l) := by rw [ho]; rfl
  rw [this, valB_append, e1, e2, hl.hl, show (256 : Nat) ^ 8 = 2 ^ 64 by decide]
  omega
theorem rem256 (n : Nat) : Value.int .u64 (((n : Nat) : Int).tmod 256) = .int .u64 ((n % 256 : Nat) : Int) := by
  congr 1
theorem quoQ (q : Nat) (h : q < 18446744073709551616) : Value.int .u64 (IntKind.u64.wrap (((q : Nat) : Int).tdiv 256)) = .int .u64 ((q / 256 : Nat) : Int) := by
  congr 1
  rw [Int.tdiv_eq_ediv_of_nonneg (by omega)]
  rw [wrap_u64 (by omega) (by omega)]
  omega
theorem quo256 (n k : Nat) (h : n < 18446744073709551616) : Value.int .u64 (IntKind.u64.wrap (((n / 256 ^ k : Nat) : Int).tdiv 256)) = .int .u64 ((n / 256 ^ (k + 1) : Nat) : Int) := by
  rw [quoQ _ (Nat.lt_of_le_of_lt (Nat.div_le_self _ _) h), Nat.pow_succ, ← Nat.div_div_eq_div_mul]
theorem set_app1 {h l : List UInt8} {i : Nat} {x : UInt8} (hh : h.length = 8) (hi : i < 8) : setMany ((h ++ l).map u8) (0 + i) [u8 x] = ((h.set i x) ++ l).map u8 := by
  rw [set_map, List.set_append_left _ _ (by omega)]
theorem set_app2 {h l : List UInt8} {i : Nat} {x : UInt8} (hh : h.length = 8) : setMany ((h ++ l).map u8) (0 + (8 + i)) [u8 x] = (h ++ l.set i x).map u8 := by
  rw [set_map, List.set_append_right _ _ (by omega), hh, show 8 + i - 8 = i by omega]
structure DI where
  k : Nat
  h : List UInt8
  l : List UInt8
theorem sub_hl (a b : IDV) : subI a b = ofN ((((hiI a + 18446744073709551616 - hiI b) % 18446744073709551616 + 18446744073709551616 - (if loI a < loI b then 1 else 0)) % 18446744073709551616) * 2 ^ 64 + (loI a + 18446744073709551616 - loI b) % 18446744073709551616) := by
  apply valI_inj
  rw [valI_subI, valI_ofN, valI_hl a, valI_hl b]
  have h1 := hiI_lt a
  have h2 := loI_lt a
  have h3 := hiI_lt b
  have h4 := loI_lt b
  split <;> omega

theorem id_spec (hi lo : Nat) (w : World) (h1 : hi < 18446744073709551616) (h2 : lo < 18446744073709551616) :
    Calls Tryz.prog 66 [.int .u64 ((hi : Nat) : Int), .int .u64 ((lo : Nat) : Int)].toArray w fun r w' => r = .returned (.agg (cI (ofN (hi * 2 ^ 64 + lo))).toArray) ∧ Bel w w' := by
  refine calls_of_J (args := [.int .u64 ((hi : Nat) : Int), .int .u64 ((lo : Nat) : Int)]) (e := [(0, .int .u64 ((hi : Nat) : Int)), (1, .int .u64 ((lo : Nat) : Int))]) Tryz.func66 rfl rfl ⟨rfl, rfl, trivial⟩ (St.start w) ?_
  refine JC.seq (fun K0 hK0 => ?_)
  refine JC.region ?_
  refine J.alloc Ty.zID rfl rfl (fun b4 => ?_)
  refine J.nil ?_
  refine JX.thenN (hK0 _ _ ?_)
  refine JC.seq (fun K1 hK1 => ?_)
  refine JC.region ?_
  refine J.alloc Ty.zID rfl rfl (fun b5 => ?_)
  refine J.nil ?_
  refine JX.thenN (hK1 _ _ ?_)
  refine JC.seq (fun K2 hK2 => ?_)
  refine JC.seq (fun K3 hK3 => ?_)
  refine JC.region ?_
  refine J.assign rfl rfl ?_
  refine J.nil ?_
  refine JX.thenN (hK3 _ _ ?_)
  refine JC.block ?_
  refine JC.conseq (JC.cov (f := (fun st => [(0, .int .u64 ((hi / 256 ^ st.k : Nat) : Int)), (1, .int .u64 ((lo / 256 ^ st.k : Nat) : Int)), (4, .pointer (some ⟨b4, 0, none⟩)), (5, .pointer (some ⟨b5, 0, none⟩)), (6, .int .i64 (7 - ((st.k : Nat) : Int)))]) (⟨0, List.replicate 8 0, List.replicate 8 0⟩ : DI)) ⟨by simp [J.get, ev], by simp [J.get, ev], rfl, rfl, rfl, trivial⟩ (JC.loop (α := DI) (fun st => [(0, .int .u64 ((hi / 256 ^ st.k : Nat) : Int)), (1, .int .u64 ((lo / 256 ^ st.k : Nat) : Int)), (4, .pointer (some ⟨b4, 0, none⟩)), (5, .pointer (some ⟨b5, 0, none⟩)), (6, .int .i64 (7 - ((st.k : Nat) : Int)))]) (fun st w' => (st.k ≤ 8 ∧ Dig hi st.k st.h ∧ Dig lo st.k st.l) ∧ St w [] [(b5, cb ((st.h ++ st.l).map u8) 24), (b4, cb (cI zI) 24)] w') (fun st => 8 - st.k) (⟨0, List.replicate 8 0, List.replicate 8 0⟩ : DI) (fun st => ?_))) (fun w hw => ⟨⟨Nat.zero_le _, Dig.start _ _ rfl, Dig.start _ _ rfl⟩, hw⟩)
  obtain ⟨k, h, l⟩ := st
  refine JC.pr (fun hI => ?_)
  obtain ⟨hk8, hH, hL⟩ := hI
  simp only at hk8 hH hL ⊢
  have hhl := hH.hl
  have hll := hL.hl
  refine JC.seq (fun K4 hK4 => ?_)
  refine JC.seq (fun K5 hK5 => ?_)
  refine JC.region ?_
  refine J.move rfl rfl ?_
  refine J.bin rfl rfl rfl rfl ?_
  refine J.nil ?_
  refine JX.thenN (hK5 _ _ ?_)
  refine JC.cond rfl (fun h0 => ?_) (fun h0 => ?_)
  · skip
    have hlt : k < 8 := by simp at h0; omega
    refine JC.skip ?_
    refine JX.thenN (hK4 _ _ ?_)
    refine JC.seq (fun K6 hK6 => ?_)
    refine JC.block ?_
    refine JC.seq (fun K7 hK7 => ?_)
    refine JC.region ?_
    refine J.move rfl rfl ?_
    refine J.move rfl rfl ?_
    (first | refine J.addN rfl rfl (by omega) (by omega) rfl ?_ | refine J.bin rfl rfl rfl rfl ?_)
    refine J.move rfl rfl ?_
    refine J.bin (v := .int .u64 (((hi / 256 ^ k : Nat) : Int).tmod 256)) rfl rfl (by simp [binI]) rfl ?_
    refine J.name 15 rfl (rem256 _) ?_
    refine J.convInt Ty.u110 Ty.u5 rfl rfl ?_
    refine J.name 16 rfl ((wrap_byte (n := ((hi / 256 ^ k % 256 : Nat) : Int)) (by omega) (by omega)).trans (by rw [Int.toNat_natCast])) ?_
    refine J.move rfl rfl ?_
    refine J.bin (v := .int .u64 (((lo / 256 ^ k : Nat) : Int).tmod 256)) rfl rfl (by simp [binI]) rfl ?_
    refine J.name 18 rfl (rem256 _) ?_
    refine J.convInt Ty.u110 Ty.u5 rfl rfl ?_
    refine J.name 19 rfl ((wrap_byte (n := ((lo / 256 ^ k % 256 : Nat) : Int)) (by omega) (by omega)).trans (by rw [Int.toNat_natCast])) ?_
    refine J.indexAddrA Ty.ar24 Ty.s5 rfl rfl (by omega) (by omega) rfl ?_
    refine J.storeO (cs := (h ++ l).map u8) (vs := [u8 (UInt8.ofNat (hi / 256 ^ k % 256))]) Ty.s5 rfl rfl rfl rfl (by simp [Value.oneCell']) .here (by simp; omega) ?_
    refine J.conseq (I' := St w [] [(b5, cb (((h.set (7 - k) (UInt8.ofNat (hi / 256 ^ k % 256))) ++ l).map u8) 24), (b4, cb (cI zI) 24)]) ?_ (fun w1 hw => by rw [← set_app1 hhl (show 7 - k < 8 by omega), show 0 + (7 - k) = 0 + (7 - (k : Int) : Int).toNat * 1 by omega]; exact hw)
    refine J.indexAddrA Ty.ar24 Ty.s5 rfl rfl (by omega) (by omega) rfl ?_
    refine J.storeO (cs := ((h.set (7 - k) (UInt8.ofNat (hi / 256 ^ k % 256))) ++ l).map u8) (vs := [u8 (UInt8.ofNat (lo / 256 ^ k % 256))]) Ty.s5 rfl rfl rfl rfl (by simp [Value.oneCell']) .here (by simp; omega) ?_
    refine J.conseq (I' := St w [] [(b5, cb (((h.set (7 - k) (UInt8.ofNat (hi / 256 ^ k % 256))) ++ (l.set (7 - k) (UInt8.ofNat (lo / 256 ^ k % 256)))).map u8) 24), (b4, cb (cI zI) 24)]) ?_ (fun w1 hw => by rw [← set_app2 (by simp [hhl]), show 0 + (8 + (7 - k)) = 0 + (8 + (7 - (k : Int)) : Int).toNat * 1 by omega]; exact hw)
    refine J.nil ?_
    refine JX.thenN (hK7 _ _ ?_)
    refine JC.region ?_
    refine J.move rfl rfl ?_
    refine J.bin (v := .int .u64 (IntKind.u64.wrap (((hi / 256 ^ k : Nat) : Int).tdiv 256))) rfl rfl (by simp [binI]) rfl ?_
    refine J.name 23 rfl (quo256 _ _ (by assumption)) ?_
    refine J.move rfl rfl ?_
    refine J.bin (v := .int .u64 (IntKind.u64.wrap (((lo / 256 ^ k : Nat) : Int).tdiv 256))) rfl rfl (by simp [binI]) rfl ?_
    refine J.name 25 rfl (quo256 _ _ (by assumption)) ?_
    refine J.assign rfl rfl ?_
    refine J.assign rfl rfl ?_
    refine J.nil ?_
    refine JX.blockN ?_
    refine JX.thenN (hK6 _ _ ?_)
    refine JC.region ?_
    refine J.move rfl rfl ?_
    refine J.subN rfl rfl (by omega) (by omega) rfl ?_
    refine J.name 10 rfl (show _ = Value.int .i64 (7 - ((k + 1 : Nat) : Int)) by congr 1; omega) ?_
    refine J.assign rfl rfl ?_
    refine J.nil ?_
    refine JX.thenN ?_
    refine JX.again (⟨k + 1, h.set (7 - k) (UInt8.ofNat (hi / 256 ^ k % 256)), l.set (7 - k) (UInt8.ofNat (lo / 256 ^ k % 256))⟩ : DI) ?_ ?_ ?_
    · simp only; omega
    · exact ⟨rfl, rfl, rfl, rfl, rfl, trivial⟩
    · exact fun w1 hw => ⟨⟨hlt, hH.step hlt, hL.step hlt⟩, hw⟩
  · skip
    have hge : k = 8 := by simp at h0; omega
    subst hge
    obtain ⟨o, ho, hdone⟩ := hH.done hL (by assumption) (by assumption)
    refine JC.exit ?_
    refine JX.thenE ?_
    refine JX.thenE ?_
    refine JX.blockE ?_
    refine JX.thenN (hK2 _ _ ?_)
    refine JC.seq (fun K8 hK8 => ?_)
    refine JC.region ?_
    refine J.conseq (I' := St w [] [(b5, cb (cI o) 24), (b4, cb (cI zI) 24)]) ?_ (fun w1 hw => by rw [ho] at hw; exact hw)
    refine J.loadOA (vs := cI o) Ty.a24 Ty.s24 rfl (.head _) rfl rfl rfl ?_
    refine J.storeW (cs := cI zI) (vs := cI o) Ty.s24 rfl rfl rfl rfl rfl (by simp [Value.oneCell']) (.there .here) ?_
    refine J.nil ?_
    refine JX.thenN (hK8 _ _ ?_)
    refine JC.ret ?_
    refine JX.retC rfl rfl Ty.a24 Ty.s24 (vs := cI o) rfl (fun w1 hw => Cells.of_block (hw.own _ (.tail _ (.head _))) rfl) (fun w1 hw => ?_)
    rw [hdone]
    exact ⟨rfl, (hw.drop (List.nil_sublist _)).below⟩

theorem rsub_spec (a b : IDV) (w : World) :
    Calls Tryz.prog 45 [.agg (cI a).toArray, .agg (cI b).toArray].toArray w fun r w' => r = .returned (.agg (cI (subI a b)).toArray) ∧ Bel w w' := by
  refine calls_of_J (args := [.agg (cI a).toArray, .agg (cI b).toArray]) (e := [(0, .agg (cI a).toArray), (1, .agg (cI b).toArray)]) Tryz.func45 rfl rfl ⟨rfl, rfl, trivial⟩ (St.start w) ?_
  refine JC.seq (fun K0 hK0 => ?_)
  refine JC.region ?_
  refine J.box rfl rfl rfl (fun b2 => ?_)
  refine J.box rfl rfl rfl (fun b3 => ?_)
  refine J.alloc Ty.zID rfl rfl (fun b4 => ?_)
  refine J.nil ?_
  refine JX.thenN (hK0 _ _ ?_)
  refine JC.seq (fun K1 hK1 => ?_)
  refine JC.region ?_
  refine J.loadOA (vs := cI a) Ty.a24 Ty.s24 rfl (by repeat first | exact .head _ | apply List.Mem.tail | apply List.mem_append_right) (by exact rfl) rfl rfl ?_
  refine J.callB (v := .tuple #[.int .u64 ((hiI a : Nat) : Int), .int .u64 ((loI a : Nat) : Int)]) (fun w1 w2 hw hb => hw.step hb) Ty.bd65 rfl rfl (fun w1 hw => wide_spec a w1) ?_
  have hb1 := hiI_lt a
  have hb2 := loI_lt a
  refine J.move rfl rfl ?_
  refine J.extract rfl rfl rfl ?_
  refine J.extract rfl rfl rfl ?_
  refine J.assign rfl rfl ?_
  refine J.assign rfl rfl ?_
  refine J.nil ?_
  refine JX.thenN (hK1 _ _ ?_)
  refine JC.seq (fun K2 hK2 => ?_)
  refine JC.region ?_
  refine J.loadOA (vs := cI b) Ty.a24 Ty.s24 rfl (by repeat first | exact .head _ | apply List.Mem.tail | apply List.mem_append_right) (by exact rfl) rfl rfl ?_
  refine J.callB (v := .tuple #[.int .u64 ((hiI b : Nat) : Int), .int .u64 ((loI b : Nat) : Int)]) (fun w1 w2 hw hb => hw.step hb) Ty.bd65 rfl rfl (fun w1 hw => wide_spec b w1) ?_
  have hb3 := hiI_lt b
  have hb4 := loI_lt b
  refine J.move rfl rfl ?_
  refine J.extract rfl rfl rfl ?_
  refine J.extract rfl rfl rfl ?_
  refine J.assign rfl rfl ?_
  refine J.assign rfl rfl ?_
  refine J.nil ?_
  refine JX.thenN (hK2 _ _ ?_)
  refine JC.seq (fun K3 hK3 => ?_)
  refine JC.region ?_
  refine J.move rfl rfl ?_
  refine J.move rfl rfl ?_
  refine J.bin rfl rfl rfl rfl ?_
  refine J.name 22 rfl (show _ = Value.int .u64 (((hiI a + 18446744073709551616 - hiI b) % 18446744073709551616 : Nat) : Int) by congr 1; rw [wrap_u64m]; omega) ?_
  refine J.assign rfl rfl ?_
  refine J.nil ?_
  refine JX.thenN (hK3 _ _ ?_)
  refine JC.seq (fun K4 hK4 => ?_)
  refine JC.seq (fun K5 hK5 => ?_)
  refine JC.region ?_
  refine J.move rfl rfl ?_
  refine J.move rfl rfl ?_
  refine J.bin rfl rfl rfl rfl ?_
  refine J.nil ?_
  refine JX.thenN (hK5 _ _ ?_)
  refine JC.cond rfl (fun h0 => ?_) (fun h0 => ?_)
  · skip
    have hlo : loI a < loI b := by simp at h0; omega
    refine JC.region ?_
    refine J.move rfl rfl ?_
    refine J.bin rfl rfl rfl rfl ?_
    refine J.name 27 rfl (show _ = Value.int .u64 ((((hiI a + 18446744073709551616 - hiI b) % 18446744073709551616 + 18446744073709551616 - 1) % 18446744073709551616 : Nat) : Int) by congr 1; rw [wrap_u64m]; omega) ?_
    refine J.assign rfl rfl ?_
    refine J.nil ?_
    refine JX.thenN (hK4 _ _ ?_)
    refine JC.seq (fun K6 hK6 => ?_)
    refine JC.region ?_
    refine J.move rfl rfl ?_
    refine J.move rfl rfl ?_
    refine J.move rfl rfl ?_
    refine J.bin rfl rfl rfl rfl ?_
    refine J.name 31 rfl (show _ = Value.int .u64 (((loI a + 18446744073709551616 - loI b) % 18446744073709551616 : Nat) : Int) by congr 1; rw [wrap_u64m]; omega) ?_
    refine J.callB (v := .agg (cI (subI a b)).toArray) (fun w1 w2 hw hb => hw.step hb) Ty.bd66 rfl rfl (fun w1 hw => by rw [sub_hl, if_pos hlo]; exact id_spec _ _ w1 (by omega) (by omega)) ?_
    refine J.storeW (cs := cI zI) (vs := cI (subI a b)) Ty.s24 rfl rfl rfl rfl rfl (by simp [Value.oneCell']) .here ?_
    refine J.nil ?_
    refine JX.thenN (hK6 _ _ ?_)
    refine JC.ret ?_
    refine JX.retC rfl rfl Ty.a24 Ty.s24 (vs := cI (subI a b)) rfl (fun w1 hw => Cells.of_block (hw.own _ (.head _)) rfl) (fun w1 hw => ?_)
    exact ⟨rfl, (hw.drop (List.nil_sublist _)).below⟩
  · skip
    have hlo : ¬ loI a < loI b := by simp at h0; omega
    refine JC.skip ?_
    refine JX.thenN (hK4 _ _ ?_)
    refine JC.seq (fun K7 hK7 => ?_)
    refine JC.region ?_
    refine J.move rfl rfl ?_
    refine J.move rfl rfl ?_
    refine J.move rfl rfl ?_
    refine J.bin rfl rfl rfl rfl ?_
    refine J.name 31 rfl (show _ = Value.int .u64 (((loI a + 18446744073709551616 - loI b) % 18446744073709551616 : Nat) : Int) by congr 1; rw [wrap_u64m]; omega) ?_
    refine J.callB (v := .agg (cI (subI a b)).toArray) (fun w1 w2 hw hb => hw.step hb) Ty.bd66 rfl rfl (fun w1 hw => by rw [sub_hl, if_neg hlo, show ((hiI a + 18446744073709551616 - hiI b) % 18446744073709551616 + 18446744073709551616 - 0) % 18446744073709551616 = (hiI a + 18446744073709551616 - hiI b) % 18446744073709551616 by omega]; exact id_spec _ _ w1 (by omega) (by omega)) ?_
    refine J.storeW (cs := cI zI) (vs := cI (subI a b)) Ty.s24 rfl rfl rfl rfl rfl (by simp [Value.oneCell']) .here ?_
    refine J.nil ?_
    refine JX.thenN (hK7 _ _ ?_)
    refine JC.ret ?_
    refine JX.retC rfl rfl Ty.a24 Ty.s24 (vs := cI (subI a b)) rfl (fun w1 hw => Cells.of_block (hw.own _ (.head _)) rfl) (fun w1 hw => ?_)
    exact ⟨rfl, (hw.drop (List.nil_sublist _)).below⟩

end Go.Proofs.YtohldionclgljaaGreat
