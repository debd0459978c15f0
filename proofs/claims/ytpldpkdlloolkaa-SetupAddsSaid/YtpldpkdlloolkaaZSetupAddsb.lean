/-
  SetupAdds: texts that its proof needs, part 2.
-/
import Derived.Test.YtpldpkdlloolkaaZSetupAddsa
/-
  What the functions of package table do, that do not list: contracts.
-/
namespace Go.Proofs.Ytpldpkdlloolkaa
open Go.J Go.RowKit
set_option linter.unusedVariables false
set_option linter.unusedSimpArgs false
set_option maxRecDepth 4000
/-- a table in memory -/
abbrev tabO (most : Int) (mb : Nat) : Obj := cb [.int .i64 most, .map (some mb)] 101
abbrev okTN (n : Int) : Prop := -1 ≤ n ∧ n < 6
def rightP (x : EV) : Prop := x.a ≠ x.b ∧ okTN x.na ∧ okTN x.nb ∧ x.na ≠ x.nb
instance (x : EV) : Decidable (rightP x) := by unfold rightP; infer_instance
/-- what adding an entry answers, and leaves -/
def tadd (L : List EV) (most : Int) (x : EV) : Int × List EV :=
  if ¬ rightP x then (1, L) else if (tget L x.p).isSome then (7, L) else if most ≤ (L.length : Int) then (5, L) else (0, L ++ [x])

theorem new_spec (n : Int) (w : World) :
    Calls Try.prog 16 [.int .i64 n].toArray w fun r w' => ∃ x : Nat × Nat, r = .returned (.pointer (some ⟨x.1, 0, none⟩)) ∧ St w [] [(x.1, tabO (min (max n 0) 128) x.2), (x.2, .map #[] 0)] w' := by
  refine calls_of_J (args := [.int .i64 n]) (e := [(0, .int .i64 n)]) Try.func16 rfl rfl ⟨rfl, trivial⟩ (St.start w) ?_
  refine JC.seq (fun K0 hK0 => ?_)
  refine JC.region ?_
  refine J.assign rfl rfl ?_
  refine J.nil ?_
  refine JX.thenN (hK0 _ _ ?_)
  refine JC.seq (fun K1 hK1 => ?_)
  refine JC.region ?_
  refine J.move rfl rfl ?_
  refine J.max2 rfl rfl rfl ?_
  refine J.min2 rfl rfl rfl ?_
  refine J.makeMap rfl (fun b6 => ?_)
  refine J.buildS Ty.pl101 Ty.z101 rfl rfl rfl ?_
  refine J.box rfl rfl rfl (fun b8 => ?_)
  refine J.assign rfl rfl ?_
  refine J.nil ?_
  refine JX.thenN (hK1 _ _ ?_)
  refine JC.ret ?_
  refine JX.ret1 rfl rfl (fun w hw => ?_)
  exact ⟨(b8, b6), rfl, hw⟩

theorem right1_spec (n : Int) (w : World) :
    Calls Try.prog 63 [.int .i64 n].toArray w fun r w' => r = .returned (.bool (decide (okTN n))) ∧ Bel w w' := by
  refine calls_of_J (args := [.int .i64 n]) (e := [(0, .int .i64 n)]) Try.func63 rfl rfl ⟨rfl, trivial⟩ (St.start w) ?_
  refine JC.seq (fun K0 hK0 => ?_)
  refine JC.region ?_
  refine J.assign rfl rfl ?_
  refine J.nil ?_
  refine JX.thenN (hK0 _ _ ?_)
  refine JC.seq (fun K1 hK1 => ?_)
  refine JC.region ?_
  refine J.move rfl rfl ?_
  refine J.bin rfl rfl rfl rfl ?_
  refine J.move rfl rfl ?_
  refine J.split 5 rfl (fun hs5 => ?_) (fun hs5 => ?_)
  · skip
    try simp only [decide_eq_true_eq, decide_eq_false_iff_not, beq_iff_eq, bne_iff_ne, bne_eq_false_iff_eq, ne_eq, beq_eq_false_iff_ne, Bool.not_eq_true, Bool.not_eq_false, Int.not_lt, Int.not_le] at hs5
    first
    | exact absurd hs5 (by decide)
    | skip
      first | refine J.skip rfl rfl rfl rfl rfl ?_ | refine J.skipU rfl rfl rfl rfl ?_ | (refine J.unguard rfl rfl rfl ?_; refine J.move rfl rfl ?_)
      first | refine J.skip rfl rfl rfl rfl rfl ?_ | refine J.skipU rfl rfl rfl rfl ?_ | (refine J.unguard rfl rfl rfl ?_; refine J.bin rfl rfl rfl rfl ?_)
      (first | refine J.pickT rfl rfl rfl ?_ | refine J.pickF rfl rfl rfl ?_)
      refine J.assign rfl rfl ?_
      refine J.nil ?_
      refine JX.thenN (hK1 _ _ ?_)
      refine JC.ret ?_
      refine JX.ret1 rfl rfl (fun w hw => ?_)
      refine ⟨?_, hw.below⟩
      first | (simp [okTN]; done) | (simp [okTN]; omega) | (simp [okTN]; intros; omega)
  · skip
    try simp only [decide_eq_true_eq, decide_eq_false_iff_not, beq_iff_eq, bne_iff_ne, bne_eq_false_iff_eq, ne_eq, beq_eq_false_iff_ne, Bool.not_eq_true, Bool.not_eq_false, Int.not_lt, Int.not_le] at hs5
    first
    | exact absurd hs5 (by decide)
    | skip
      first | refine J.skip rfl rfl rfl rfl rfl ?_ | refine J.skipU rfl rfl rfl rfl ?_ | (refine J.unguard rfl rfl rfl ?_; refine J.move rfl rfl ?_)
      first | refine J.skip rfl rfl rfl rfl rfl ?_ | refine J.skipU rfl rfl rfl rfl ?_ | (refine J.unguard rfl rfl rfl ?_; refine J.bin rfl rfl rfl rfl ?_)
      (first | refine J.pickT rfl rfl rfl ?_ | refine J.pickF rfl rfl rfl ?_)
      refine J.assign rfl rfl ?_
      refine J.nil ?_
      refine JX.thenN (hK1 _ _ ?_)
      refine JC.ret ?_
      refine JX.ret1 rfl rfl (fun w hw => ?_)
      refine ⟨?_, hw.below⟩
      first | (simp [okTN]; done) | (simp [okTN]; omega) | (simp [okTN]; intros; omega)

theorem right_spec (x : EV) (w : World) :
    Calls Try.prog 33 [.agg (cE x).toArray].toArray w fun r w' => r = .returned (.bool (decide (rightP x))) ∧ Bel w w' := by
  refine calls_of_J (args := [.agg (cE x).toArray]) (e := [(0, .agg (cE x).toArray)]) Try.func33 rfl rfl ⟨rfl, trivial⟩ (St.start w) ?_
  refine JC.seq (fun K0 hK0 => ?_)
  refine JC.region ?_
  refine J.box rfl rfl rfl (fun b1 => ?_)
  refine J.assign rfl rfl ?_
  refine J.nil ?_
  refine JX.thenN (hK0 _ _ ?_)
  refine JC.seq (fun K1 hK1 => ?_)
  refine JC.region ?_
  refine J.assign rfl rfl ?_
  refine J.nil ?_
  refine JX.thenN (hK1 _ _ ?_)
  refine JC.seq (fun K2 hK2 => ?_)
  refine JC.region ?_
  refine J.fieldAddr Ty.fd34_1 rfl rfl ?_
  refine J.loadOA (vs := cI x.a) Ty.a23 Ty.s23 rfl (by repeat first | exact .head _ | apply List.Mem.tail | apply List.mem_append_right) (by exact rfl) rfl rfl ?_
  refine J.fieldAddr Ty.fd34_2 rfl rfl ?_
  refine J.loadOA (vs := cI x.b) Ty.a23 Ty.s23 rfl (by repeat first | exact .head _ | apply List.Mem.tail | apply List.mem_append_right) (by exact rfl) rfl rfl ?_
  refine J.neI Ty.QI Ty.keyI rfl rfl rfl ?_
  refine J.move rfl rfl ?_
  refine J.split 9 rfl (fun hs9 => ?_) (fun hs9 => ?_)
  · skip
    try simp only [decide_eq_true_eq, decide_eq_false_iff_not, beq_iff_eq, bne_iff_ne, bne_eq_false_iff_eq, ne_eq, beq_eq_false_iff_ne, Bool.not_eq_true, Bool.not_eq_false, Int.not_lt, Int.not_le] at hs9
    first
    | exact absurd hs9 (by decide)
    | skip
      first | refine J.skip rfl rfl rfl rfl rfl ?_ | refine J.skipU rfl rfl rfl rfl ?_ | (refine J.unguard rfl rfl rfl ?_; refine J.move rfl rfl ?_)
      first | refine J.skip rfl rfl rfl rfl rfl ?_ | refine J.skipU rfl rfl rfl rfl ?_ | (refine J.unguard rfl rfl rfl ?_; refine J.fieldAddr Ty.fd34_3 rfl rfl ?_)
      first | refine J.skip rfl rfl rfl rfl rfl ?_ | refine J.skipU rfl rfl rfl rfl ?_ | (refine J.unguard rfl rfl rfl ?_; refine J.loadO Ty.a3 rfl (by repeat first | exact .head _ | apply List.Mem.tail | apply List.mem_append_right) (by exact rfl) rfl ?_)
      first | refine J.skip rfl rfl rfl rfl rfl ?_ | refine J.skipU rfl rfl rfl rfl ?_ | (refine J.unguard rfl rfl rfl ?_; refine J.callVB (v := .bool (decide (okTN x.na))) (fun w1 w2 hw hb => hw.step hb) Ty.bd63 rfl rfl rfl (fun w1 hw => by simpa using right1_spec x.na w1) ?_)
      (first | refine J.pickT rfl rfl rfl ?_ | refine J.pickF rfl rfl rfl ?_)
      refine J.move rfl rfl ?_
      refine J.split 15 rfl (fun hs15 => ?_) (fun hs15 => ?_)
      · skip
        try simp only [decide_eq_true_eq, decide_eq_false_iff_not, beq_iff_eq, bne_iff_ne, bne_eq_false_iff_eq, ne_eq, beq_eq_false_iff_ne, Bool.not_eq_true, Bool.not_eq_false, Int.not_lt, Int.not_le] at hs15
        first
        | exact absurd hs15 (by decide)
        | skip
          first | refine J.skip rfl rfl rfl rfl rfl ?_ | refine J.skipU rfl rfl rfl rfl ?_ | (refine J.unguard rfl rfl rfl ?_; refine J.move rfl rfl ?_)
          first | refine J.skip rfl rfl rfl rfl rfl ?_ | refine J.skipU rfl rfl rfl rfl ?_ | (refine J.unguard rfl rfl rfl ?_; refine J.fieldAddr Ty.fd34_4 rfl rfl ?_)
          first | refine J.skip rfl rfl rfl rfl rfl ?_ | refine J.skipU rfl rfl rfl rfl ?_ | (refine J.unguard rfl rfl rfl ?_; refine J.loadO Ty.a3 rfl (by repeat first | exact .head _ | apply List.Mem.tail | apply List.mem_append_right) (by exact rfl) rfl ?_)
          first | refine J.skip rfl rfl rfl rfl rfl ?_ | refine J.skipU rfl rfl rfl rfl ?_ | (refine J.unguard rfl rfl rfl ?_; refine J.callVB (v := .bool (decide (okTN x.nb))) (fun w1 w2 hw hb => hw.step hb) Ty.bd63 rfl rfl rfl (fun w1 hw => by simpa using right1_spec x.nb w1) ?_)
          (first | refine J.pickT rfl rfl rfl ?_ | refine J.pickF rfl rfl rfl ?_)
          refine J.move rfl rfl ?_
          refine J.split 21 rfl (fun hs21 => ?_) (fun hs21 => ?_)
          · skip
            try simp only [decide_eq_true_eq, decide_eq_false_iff_not, beq_iff_eq, bne_iff_ne, bne_eq_false_iff_eq, ne_eq, beq_eq_false_iff_ne, Bool.not_eq_true, Bool.not_eq_false, Int.not_lt, Int.not_le] at hs21
            first
            | exact absurd hs21 (by decide)
            | skip
              first | refine J.skip rfl rfl rfl rfl rfl ?_ | refine J.skipU rfl rfl rfl rfl ?_ | (refine J.unguard rfl rfl rfl ?_; refine J.fieldAddr Ty.fd34_3 rfl rfl ?_)
              first | refine J.skip rfl rfl rfl rfl rfl ?_ | refine J.skipU rfl rfl rfl rfl ?_ | (refine J.unguard rfl rfl rfl ?_; refine J.loadO Ty.a3 rfl (by repeat first | exact .head _ | apply List.Mem.tail | apply List.mem_append_right) (by exact rfl) rfl ?_)
              first | refine J.skip rfl rfl rfl rfl rfl ?_ | refine J.skipU rfl rfl rfl rfl ?_ | (refine J.unguard rfl rfl rfl ?_; refine J.fieldAddr Ty.fd34_4 rfl rfl ?_)
              first | refine J.skip rfl rfl rfl rfl rfl ?_ | refine J.skipU rfl rfl rfl rfl ?_ | (refine J.unguard rfl rfl rfl ?_; refine J.loadO Ty.a3 rfl (by repeat first | exact .head _ | apply List.Mem.tail | apply List.mem_append_right) (by exact rfl) rfl ?_)
              first | refine J.skip rfl rfl rfl rfl rfl ?_ | refine J.skipU rfl rfl rfl rfl ?_ | (refine J.unguard rfl rfl rfl ?_; refine J.bin rfl rfl rfl rfl ?_)
              (first | refine J.pickT rfl rfl rfl ?_ | refine J.pickF rfl rfl rfl ?_)
              refine J.assign rfl rfl ?_
              refine J.nil ?_
              refine JX.thenN (hK2 _ _ ?_)
              refine JC.ret ?_
              refine JX.ret1 rfl rfl (fun w hw => ?_)
              refine ⟨?_, hw.below⟩
              first | (simp_all [rightP, okTN]; done) | (simp [rightP, okTN]; omega) | (simp_all [rightP, okTN]; rfl) | (simp_all [rightP, okTN]; intros; omega)
          · skip
            try simp only [decide_eq_true_eq, decide_eq_false_iff_not, beq_iff_eq, bne_iff_ne, bne_eq_false_iff_eq, ne_eq, beq_eq_false_iff_ne, Bool.not_eq_true, Bool.not_eq_false, Int.not_lt, Int.not_le] at hs21
            first
            | exact absurd hs21 (by decide)
            | skip
              first | refine J.skip rfl rfl rfl rfl rfl ?_ | refine J.skipU rfl rfl rfl rfl ?_ | (refine J.unguard rfl rfl rfl ?_; refine J.fieldAddr Ty.fd34_3 rfl rfl ?_)
              first | refine J.skip rfl rfl rfl rfl rfl ?_ | refine J.skipU rfl rfl rfl rfl ?_ | (refine J.unguard rfl rfl rfl ?_; refine J.loadO Ty.a3 rfl (by repeat first | exact .head _ | apply List.Mem.tail | apply List.mem_append_right) (by exact rfl) rfl ?_)
              first | refine J.skip rfl rfl rfl rfl rfl ?_ | refine J.skipU rfl rfl rfl rfl ?_ | (refine J.unguard rfl rfl rfl ?_; refine J.fieldAddr Ty.fd34_4 rfl rfl ?_)
              first | refine J.skip rfl rfl rfl rfl rfl ?_ | refine J.skipU rfl rfl rfl rfl ?_ | (refine J.unguard rfl rfl rfl ?_; refine J.loadO Ty.a3 rfl (by repeat first | exact .head _ | apply List.Mem.tail | apply List.mem_append_right) (by exact rfl) rfl ?_)
              first | refine J.skip rfl rfl rfl rfl rfl ?_ | refine J.skipU rfl rfl rfl rfl ?_ | (refine J.unguard rfl rfl rfl ?_; refine J.bin rfl rfl rfl rfl ?_)
              (first | refine J.pickT rfl rfl rfl ?_ | refine J.pickF rfl rfl rfl ?_)
              refine J.assign rfl rfl ?_
              refine J.nil ?_
              refine JX.thenN (hK2 _ _ ?_)
              refine JC.ret ?_
              refine JX.ret1 rfl rfl (fun w hw => ?_)
              refine ⟨?_, hw.below⟩
              first | (simp_all [rightP, okTN]; done) | (simp [rightP, okTN]; omega) | (simp_all [rightP, okTN]; rfl) | (simp_all [rightP, okTN]; intros; omega)
      · skip
        try simp only [decide_eq_true_eq, decide_eq_false_iff_not, beq_iff_eq, bne_iff_ne, bne_eq_false_iff_eq, ne_eq, beq_eq_false_iff_ne, Bool.not_eq_true, Bool.not_eq_false, Int.not_lt, Int.not_le] at hs15
        first
        | exact absurd hs15 (by decide)
        | skip
          first | refine J.skip rfl rfl rfl rfl rfl ?_ | refine J.skipU rfl rfl rfl rfl ?_ | (refine J.unguard rfl rfl rfl ?_; refine J.move rfl rfl ?_)
          first | refine J.skip rfl rfl rfl rfl rfl ?_ | refine J.skipU rfl rfl rfl rfl ?_ | (refine J.unguard rfl rfl rfl ?_; refine J.fieldAddr Ty.fd34_4 rfl rfl ?_)
          first | refine J.skip rfl rfl rfl rfl rfl ?_ | refine J.skipU rfl rfl rfl rfl ?_ | (refine J.unguard rfl rfl rfl ?_; refine J.loadO Ty.a3 rfl (by repeat first | exact .head _ | apply List.Mem.tail | apply List.mem_append_right) (by exact rfl) rfl ?_)
          first | refine J.skip rfl rfl rfl rfl rfl ?_ | refine J.skipU rfl rfl rfl rfl ?_ | (refine J.unguard rfl rfl rfl ?_; refine J.callVB (v := .bool (decide (okTN x.nb))) (fun w1 w2 hw hb => hw.step hb) Ty.bd63 rfl rfl rfl (fun w1 hw => by simpa using right1_spec x.nb w1) ?_)
          (first | refine J.pickT rfl rfl rfl ?_ | refine J.pickF rfl rfl rfl ?_)
          refine J.move rfl rfl ?_
          refine J.split 21 rfl (fun hs21 => ?_) (fun hs21 => ?_)
          · skip
            try simp only [decide_eq_true_eq, decide_eq_false_iff_not, beq_iff_eq, bne_iff_ne, bne_eq_false_iff_eq, ne_eq, beq_eq_false_iff_ne, Bool.not_eq_true, Bool.not_eq_false, Int.not_lt, Int.not_le] at hs21
            first
            | exact absurd hs21 (by decide)
            | skip
              first | refine J.skip rfl rfl rfl rfl rfl ?_ | refine J.skipU rfl rfl rfl rfl ?_ | (refine J.unguard rfl rfl rfl ?_; refine J.fieldAddr Ty.fd34_3 rfl rfl ?_)
              first | refine J.skip rfl rfl rfl rfl rfl ?_ | refine J.skipU rfl rfl rfl rfl ?_ | (refine J.unguard rfl rfl rfl ?_; refine J.loadO Ty.a3 rfl (by repeat first | exact .head _ | apply List.Mem.tail | apply List.mem_append_right) (by exact rfl) rfl ?_)
              first | refine J.skip rfl rfl rfl rfl rfl ?_ | refine J.skipU rfl rfl rfl rfl ?_ | (refine J.unguard rfl rfl rfl ?_; refine J.fieldAddr Ty.fd34_4 rfl rfl ?_)
              first | refine J.skip rfl rfl rfl rfl rfl ?_ | refine J.skipU rfl rfl rfl rfl ?_ | (refine J.unguard rfl rfl rfl ?_; refine J.loadO Ty.a3 rfl (by repeat first | exact .head _ | apply List.Mem.tail | apply List.mem_append_right) (by exact rfl) rfl ?_)
              first | refine J.skip rfl rfl rfl rfl rfl ?_ | refine J.skipU rfl rfl rfl rfl ?_ | (refine J.unguard rfl rfl rfl ?_; refine J.bin rfl rfl rfl rfl ?_)
              (first | refine J.pickT rfl rfl rfl ?_ | refine J.pickF rfl rfl rfl ?_)
              refine J.assign rfl rfl ?_
              refine J.nil ?_
              refine JX.thenN (hK2 _ _ ?_)
              refine JC.ret ?_
              refine JX.ret1 rfl rfl (fun w hw => ?_)
              refine ⟨?_, hw.below⟩
              first | (simp_all [rightP, okTN]; done) | (simp [rightP, okTN]; omega) | (simp_all [rightP, okTN]; rfl) | (simp_all [rightP, okTN]; intros; omega)
          · skip
            try simp only [decide_eq_true_eq, decide_eq_false_iff_not, beq_iff_eq, bne_iff_ne, bne_eq_false_iff_eq, ne_eq, beq_eq_false_iff_ne, Bool.not_eq_true, Bool.not_eq_false, Int.not_lt, Int.not_le] at hs21
            first
            | exact absurd hs21 (by decide)
            | skip
              first | refine J.skip rfl rfl rfl rfl rfl ?_ | refine J.skipU rfl rfl rfl rfl ?_ | (refine J.unguard rfl rfl rfl ?_; refine J.fieldAddr Ty.fd34_3 rfl rfl ?_)
              first | refine J.skip rfl rfl rfl rfl rfl ?_ | refine J.skipU rfl rfl rfl rfl ?_ | (refine J.unguard rfl rfl rfl ?_; refine J.loadO Ty.a3 rfl (by repeat first | exact .head _ | apply List.Mem.tail | apply List.mem_append_right) (by exact rfl) rfl ?_)
              first | refine J.skip rfl rfl rfl rfl rfl ?_ | refine J.skipU rfl rfl rfl rfl ?_ | (refine J.unguard rfl rfl rfl ?_; refine J.fieldAddr Ty.fd34_4 rfl rfl ?_)
              first | refine J.skip rfl rfl rfl rfl rfl ?_ | refine J.skipU rfl rfl rfl rfl ?_ | (refine J.unguard rfl rfl rfl ?_; refine J.loadO Ty.a3 rfl (by repeat first | exact .head _ | apply List.Mem.tail | apply List.mem_append_right) (by exact rfl) rfl ?_)
              first | refine J.skip rfl rfl rfl rfl rfl ?_ | refine J.skipU rfl rfl rfl rfl ?_ | (refine J.unguard rfl rfl rfl ?_; refine J.bin rfl rfl rfl rfl ?_)
              (first | refine J.pickT rfl rfl rfl ?_ | refine J.pickF rfl rfl rfl ?_)
              refine J.assign rfl rfl ?_
              refine J.nil ?_
              refine JX.thenN (hK2 _ _ ?_)
              refine JC.ret ?_
              refine JX.ret1 rfl rfl (fun w hw => ?_)
              refine ⟨?_, hw.below⟩
              first | (simp_all [rightP, okTN]; done) | (simp [rightP, okTN]; omega) | (simp_all [rightP, okTN]; rfl) | (simp_all [rightP, okTN]; intros; omega)
  · skip
    try simp only [decide_eq_true_eq, decide_eq_false_iff_not, beq_iff_eq, bne_iff_ne, bne_eq_false_iff_eq, ne_eq, beq_eq_false_iff_ne, Bool.not_eq_true, Bool.not_eq_false, Int.not_lt, Int.not_le] at hs9
    first
    | exact absurd hs9 (by decide)
    | skip
      first | refine J.skip rfl rfl rfl rfl rfl ?_ | refine J.skipU rfl rfl rfl rfl ?_ | (refine J.unguard rfl rfl rfl ?_; refine J.move rfl rfl ?_)
      first | refine J.skip rfl rfl rfl rfl rfl ?_ | refine J.skipU rfl rfl rfl rfl ?_ | (refine J.unguard rfl rfl rfl ?_; refine J.fieldAddr Ty.fd34_3 rfl rfl ?_)
      first | refine J.skip rfl rfl rfl rfl rfl ?_ | refine J.skipU rfl rfl rfl rfl ?_ | (refine J.unguard rfl rfl rfl ?_; refine J.loadO Ty.a3 rfl (by repeat first | exact .head _ | apply List.Mem.tail | apply List.mem_append_right) (by exact rfl) rfl ?_)
      first | refine J.skip rfl rfl rfl rfl rfl ?_ | refine J.skipU rfl rfl rfl rfl ?_ | (refine J.unguard rfl rfl rfl ?_; refine J.callVB (v := .bool (decide (okTN x.na))) (fun w1 w2 hw hb => hw.step hb) Ty.bd63 rfl rfl rfl (fun w1 hw => by simpa using right1_spec x.na w1) ?_)
      (first | refine J.pickT rfl rfl rfl ?_ | refine J.pickF rfl rfl rfl ?_)
      refine J.move rfl rfl ?_
      refine J.split 15 rfl (fun hs15 => ?_) (fun hs15 => ?_)
      · skip
        try simp only [decide_eq_true_eq, decide_eq_false_iff_not, beq_iff_eq, bne_iff_ne, bne_eq_false_iff_eq, ne_eq, beq_eq_false_iff_ne, Bool.not_eq_true, Bool.not_eq_false, Int.not_lt, Int.not_le] at hs15
        first
        | exact absurd hs15 (by decide)
        | skip
          first | refine J.skip rfl rfl rfl rfl rfl ?_ | refine J.skipU rfl rfl rfl rfl ?_ | (refine J.unguard rfl rfl rfl ?_; refine J.move rfl rfl ?_)
          first | refine J.skip rfl rfl rfl rfl rfl ?_ | refine J.skipU rfl rfl rfl rfl ?_ | (refine J.unguard rfl rfl rfl ?_; refine J.fieldAddr Ty.fd34_4 rfl rfl ?_)
          first | refine J.skip rfl rfl rfl rfl rfl ?_ | refine J.skipU rfl rfl rfl rfl ?_ | (refine J.unguard rfl rfl rfl ?_; refine J.loadO Ty.a3 rfl (by repeat first | exact .head _ | apply List.Mem.tail | apply List.mem_append_right) (by exact rfl) rfl ?_)
          first | refine J.skip rfl rfl rfl rfl rfl ?_ | refine J.skipU rfl rfl rfl rfl ?_ | (refine J.unguard rfl rfl rfl ?_; refine J.callVB (v := .bool (decide (okTN x.nb))) (fun w1 w2 hw hb => hw.step hb) Ty.bd63 rfl rfl rfl (fun w1 hw => by simpa using right1_spec x.nb w1) ?_)
          (first | refine J.pickT rfl rfl rfl ?_ | refine J.pickF rfl rfl rfl ?_)
          refine J.move rfl rfl ?_
          refine J.split 21 rfl (fun hs21 => ?_) (fun hs21 => ?_)
          · skip
            try simp only [decide_eq_true_eq, decide_eq_false_iff_not, beq_iff_eq, bne_iff_ne, bne_eq_false_iff_eq, ne_eq, beq_eq_false_iff_ne, Bool.not_eq_true, Bool.not_eq_false, Int.not_lt, Int.not_le] at hs21
            first
            | exact absurd hs21 (by decide)
            | skip
              first | refine J.skip rfl rfl rfl rfl rfl ?_ | refine J.skipU rfl rfl rfl rfl ?_ | (refine J.unguard rfl rfl rfl ?_; refine J.fieldAddr Ty.fd34_3 rfl rfl ?_)
              first | refine J.skip rfl rfl rfl rfl rfl ?_ | refine J.skipU rfl rfl rfl rfl ?_ | (refine J.unguard rfl rfl rfl ?_; refine J.loadO Ty.a3 rfl (by repeat first | exact .head _ | apply List.Mem.tail | apply List.mem_append_right) (by exact rfl) rfl ?_)
              first | refine J.skip rfl rfl rfl rfl rfl ?_ | refine J.skipU rfl rfl rfl rfl ?_ | (refine J.unguard rfl rfl rfl ?_; refine J.fieldAddr Ty.fd34_4 rfl rfl ?_)
              first | refine J.skip rfl rfl rfl rfl rfl ?_ | refine J.skipU rfl rfl rfl rfl ?_ | (refine J.unguard rfl rfl rfl ?_; refine J.loadO Ty.a3 rfl (by repeat first | exact .head _ | apply List.Mem.tail | apply List.mem_append_right) (by exact rfl) rfl ?_)
              first | refine J.skip rfl rfl rfl rfl rfl ?_ | refine J.skipU rfl rfl rfl rfl ?_ | (refine J.unguard rfl rfl rfl ?_; refine J.bin rfl rfl rfl rfl ?_)
              (first | refine J.pickT rfl rfl rfl ?_ | refine J.pickF rfl rfl rfl ?_)
              refine J.assign rfl rfl ?_
              refine J.nil ?_
              refine JX.thenN (hK2 _ _ ?_)
              refine JC.ret ?_
              refine JX.ret1 rfl rfl (fun w hw => ?_)
              refine ⟨?_, hw.below⟩
              first | (simp_all [rightP, okTN]; done) | (simp [rightP, okTN]; omega) | (simp_all [rightP, okTN]; rfl) | (simp_all [rightP, okTN]; intros; omega)
          · skip
            try simp only [decide_eq_true_eq, decide_eq_false_iff_not, beq_iff_eq, bne_iff_ne, bne_eq_false_iff_eq, ne_eq, beq_eq_false_iff_ne, Bool.not_eq_true, Bool.not_eq_false, Int.not_lt, Int.not_le] at hs21
            first
            | exact absurd hs21 (by decide)
            | skip
              first | refine J.skip rfl rfl rfl rfl rfl ?_ | refine J.skipU rfl rfl rfl rfl ?_ | (refine J.unguard rfl rfl rfl ?_; refine J.fieldAddr Ty.fd34_3 rfl rfl ?_)
              first | refine J.skip rfl rfl rfl rfl rfl ?_ | refine J.skipU rfl rfl rfl rfl ?_ | (refine J.unguard rfl rfl rfl ?_; refine J.loadO Ty.a3 rfl (by repeat first | exact .head _ | apply List.Mem.tail | apply List.mem_append_right) (by exact rfl) rfl ?_)
              first | refine J.skip rfl rfl rfl rfl rfl ?_ | refine J.skipU rfl rfl rfl rfl ?_ | (refine J.unguard rfl rfl rfl ?_; refine J.fieldAddr Ty.fd34_4 rfl rfl ?_)
              first | refine J.skip rfl rfl rfl rfl rfl ?_ | refine J.skipU rfl rfl rfl rfl ?_ | (refine J.unguard rfl rfl rfl ?_; refine J.loadO Ty.a3 rfl (by repeat first | exact .head _ | apply List.Mem.tail | apply List.mem_append_right) (by exact rfl) rfl ?_)
              first | refine J.skip rfl rfl rfl rfl rfl ?_ | refine J.skipU rfl rfl rfl rfl ?_ | (refine J.unguard rfl rfl rfl ?_; refine J.bin rfl rfl rfl rfl ?_)
              (first | refine J.pickT rfl rfl rfl ?_ | refine J.pickF rfl rfl rfl ?_)
              refine J.assign rfl rfl ?_
              refine J.nil ?_
              refine JX.thenN (hK2 _ _ ?_)
              refine JC.ret ?_
              refine JX.ret1 rfl rfl (fun w hw => ?_)
              refine ⟨?_, hw.below⟩
              first | (simp_all [rightP, okTN]; done) | (simp [rightP, okTN]; omega) | (simp_all [rightP, okTN]; rfl) | (simp_all [rightP, okTN]; intros; omega)
      · skip
        try simp only [decide_eq_true_eq, decide_eq_false_iff_not, beq_iff_eq, bne_iff_ne, bne_eq_false_iff_eq, ne_eq, beq_eq_false_iff_ne, Bool.not_eq_true, Bool.not_eq_false, Int.not_lt, Int.not_le] at hs15
        first
        | exact absurd hs15 (by decide)
        | skip
          first | refine J.skip rfl rfl rfl rfl rfl ?_ | refine J.skipU rfl rfl rfl rfl ?_ | (refine J.unguard rfl rfl rfl ?_; refine J.move rfl rfl ?_)
          first | refine J.skip rfl rfl rfl rfl rfl ?_ | refine J.skipU rfl rfl rfl rfl ?_ | (refine J.unguard rfl rfl rfl ?_; refine J.fieldAddr Ty.fd34_4 rfl rfl ?_)
          first | refine J.skip rfl rfl rfl rfl rfl ?_ | refine J.skipU rfl rfl rfl rfl ?_ | (refine J.unguard rfl rfl rfl ?_; refine J.loadO Ty.a3 rfl (by repeat first | exact .head _ | apply List.Mem.tail | apply List.mem_append_right) (by exact rfl) rfl ?_)
          first | refine J.skip rfl rfl rfl rfl rfl ?_ | refine J.skipU rfl rfl rfl rfl ?_ | (refine J.unguard rfl rfl rfl ?_; refine J.callVB (v := .bool (decide (okTN x.nb))) (fun w1 w2 hw hb => hw.step hb) Ty.bd63 rfl rfl rfl (fun w1 hw => by simpa using right1_spec x.nb w1) ?_)
          (first | refine J.pickT rfl rfl rfl ?_ | refine J.pickF rfl rfl rfl ?_)
          refine J.move rfl rfl ?_
          refine J.split 21 rfl (fun hs21 => ?_) (fun hs21 => ?_)
          · skip
            try simp only [decide_eq_true_eq, decide_eq_false_iff_not, beq_iff_eq, bne_iff_ne, bne_eq_false_iff_eq, ne_eq, beq_eq_false_iff_ne, Bool.not_eq_true, Bool.not_eq_false, Int.not_lt, Int.not_le] at hs21
            first
            | exact absurd hs21 (by decide)
            | skip
              first | refine J.skip rfl rfl rfl rfl rfl ?_ | refine J.skipU rfl rfl rfl rfl ?_ | (refine J.unguard rfl rfl rfl ?_; refine J.fieldAddr Ty.fd34_3 rfl rfl ?_)
              first | refine J.skip rfl rfl rfl rfl rfl ?_ | refine J.skipU rfl rfl rfl rfl ?_ | (refine J.unguard rfl rfl rfl ?_; refine J.loadO Ty.a3 rfl (by repeat first | exact .head _ | apply List.Mem.tail | apply List.mem_append_right) (by exact rfl) rfl ?_)
              first | refine J.skip rfl rfl rfl rfl rfl ?_ | refine J.skipU rfl rfl rfl rfl ?_ | (refine J.unguard rfl rfl rfl ?_; refine J.fieldAddr Ty.fd34_4 rfl rfl ?_)
              first | refine J.skip rfl rfl rfl rfl rfl ?_ | refine J.skipU rfl rfl rfl rfl ?_ | (refine J.unguard rfl rfl rfl ?_; refine J.loadO Ty.a3 rfl (by repeat first | exact .head _ | apply List.Mem.tail | apply List.mem_append_right) (by exact rfl) rfl ?_)
              first | refine J.skip rfl rfl rfl rfl rfl ?_ | refine J.skipU rfl rfl rfl rfl ?_ | (refine J.unguard rfl rfl rfl ?_; refine J.bin rfl rfl rfl rfl ?_)
              (first | refine J.pickT rfl rfl rfl ?_ | refine J.pickF rfl rfl rfl ?_)
              refine J.assign rfl rfl ?_
              refine J.nil ?_
              refine JX.thenN (hK2 _ _ ?_)
              refine JC.ret ?_
              refine JX.ret1 rfl rfl (fun w hw => ?_)
              refine ⟨?_, hw.below⟩
              first | (simp_all [rightP, okTN]; done) | (simp [rightP, okTN]; omega) | (simp_all [rightP, okTN]; rfl) | (simp_all [rightP, okTN]; intros; omega)
          · skip
            try simp only [decide_eq_true_eq, decide_eq_false_iff_not, beq_iff_eq, bne_iff_ne, bne_eq_false_iff_eq, ne_eq, beq_eq_false_iff_ne, Bool.not_eq_true, Bool.not_eq_false, Int.not_lt, Int.not_le] at hs21
            first
            | exact absurd hs21 (by decide)
            | skip
              first | refine J.skip rfl rfl rfl rfl rfl ?_ | refine J.skipU rfl rfl rfl rfl ?_ | (refine J.unguard rfl rfl rfl ?_; refine J.fieldAddr Ty.fd34_3 rfl rfl ?_)
              first | refine J.skip rfl rfl rfl rfl rfl ?_ | refine J.skipU rfl rfl rfl rfl ?_ | (refine J.unguard rfl rfl rfl ?_; refine J.loadO Ty.a3 rfl (by repeat first | exact .head _ | apply List.Mem.tail | apply List.mem_append_right) (by exact rfl) rfl ?_)
              first | refine J.skip rfl rfl rfl rfl rfl ?_ | refine J.skipU rfl rfl rfl rfl ?_ | (refine J.unguard rfl rfl rfl ?_; refine J.fieldAddr Ty.fd34_4 rfl rfl ?_)
              first | refine J.skip rfl rfl rfl rfl rfl ?_ | refine J.skipU rfl rfl rfl rfl ?_ | (refine J.unguard rfl rfl rfl ?_; refine J.loadO Ty.a3 rfl (by repeat first | exact .head _ | apply List.Mem.tail | apply List.mem_append_right) (by exact rfl) rfl ?_)
              first | refine J.skip rfl rfl rfl rfl rfl ?_ | refine J.skipU rfl rfl rfl rfl ?_ | (refine J.unguard rfl rfl rfl ?_; refine J.bin rfl rfl rfl rfl ?_)
              (first | refine J.pickT rfl rfl rfl ?_ | refine J.pickF rfl rfl rfl ?_)
              refine J.assign rfl rfl ?_
              refine J.nil ?_
              refine JX.thenN (hK2 _ _ ?_)
              refine JC.ret ?_
              refine JX.ret1 rfl rfl (fun w hw => ?_)
              refine ⟨?_, hw.below⟩
              first | (simp_all [rightP, okTN]; done) | (simp [rightP, okTN]; omega) | (simp_all [rightP, okTN]; rfl) | (simp_all [rightP, okTN]; intros; omega)

theorem has_spec (t mb : Nat) (most : Int) (L : List EV) (es : Array MapEntry) (clock : Nat) (w : World) (hw0 : Own w ([(t, tabO most mb), (mb, .map es clock)])) (hT : Tab L es clock) (p : PV) (hp : okN p.n) :
    Calls Try.prog 51 [.pointer (some ⟨t, 0, none⟩), .agg (cP p).toArray].toArray w fun r w' => r = .returned (.bool (tget L p).isSome) ∧ Bel w w' := by
  obtain ⟨xe, hxe⟩ : ∃ xe, (tget L p).getD zE = xe := ⟨_, rfl⟩
  obtain ⟨ok, hok⟩ : ∃ ok, (tget L p).isSome = ok := ⟨_, rfl⟩
  rw [hok]
  refine calls_of_J (args := [.pointer (some ⟨t, 0, none⟩), .agg (cP p).toArray]) (e := [(0, .pointer (some ⟨t, 0, none⟩)), (1, .agg (cP p).toArray)]) Try.func51 rfl rfl ⟨rfl, rfl, trivial⟩ (hw0.st) ?_
  refine JC.seq (fun K0 hK0 => ?_)
  refine JC.region ?_
  refine J.box rfl rfl rfl (fun b3 => ?_)
  refine J.assign rfl rfl ?_
  refine J.nil ?_
  refine JX.thenN (hK0 _ _ ?_)
  refine JC.seq (fun K1 hK1 => ?_)
  apply JC.drawX (α := Nat × Unit) 11 (fun x => match x with | ⟨x9, uu⟩ => [.pointer (some ⟨t, 0, none⟩), .pointer (some ⟨t, 0, none⟩), .pointer (some ⟨t, 0 + 1, none⟩), .map (some mb), .agg (cP p).toArray, .tuple #[.agg (cE xe).toArray, .bool ok], .tuple #[.agg (cE xe).toArray, .bool ok], .agg (cE xe).toArray, .bool ok, .pointer (some ⟨x9, 0, none⟩), undef]) (fun m x => match x with | ⟨x9, uu⟩ => fun w1 => (m 10 = true → m 9 = true) ∧ St w [t, mb] ((b3, cb (cP p) 25) :: (t, tabO most mb) :: (mb, .map es clock) :: (bif m 9 then [(x9, cb (bif m 10 then cE xe else cE zE) 34)] else [])) w1) Ty.mixed rfl rfl rfl (by kernel_rfl) rfl rfl ?hinit ?hstep ?htail
  case hinit => exact fun w1 hw => ⟨(0, ()), fun h => h, hw.drew⟩
  case hstep =>
    refine ⟨fun m x hm hp => ?_, fun m x hm hp => ?_, fun m x hm hp => ?_, fun m x hm hp => ?_, fun m x hm hp => ?_, fun m x hm hp => ?_, fun m x hm hp => ?_, fun m x hm hp => ?_, fun m x hm hp => ?_, fun m x hm hp => ?_, fun m x hm hp => ?_, trivial⟩
    · skip
      obtain ⟨x9, uu⟩ := x
      show J _ _ _ _ _ (_) _
      refine J.pr (fun hF => ?_)
      refine J.move rfl rfl ?_
      exact J.finX rfl (fun _ hw => ⟨⟨x9, uu⟩, rfl, fun _ _ _ => rfl, hF, hw⟩)
    · skip
      obtain ⟨x9, uu⟩ := x
      show J _ _ _ _ _ ((8, .pointer (some ⟨t, 0, none⟩)) :: _) _
      refine J.pr (fun hF => ?_)
      refine J.nilCheck rfl rfl ?_
      exact J.finX rfl (fun _ hw => ⟨⟨x9, uu⟩, rfl, fun _ _ _ => rfl, hF, hw⟩)
    · skip
      obtain ⟨x9, uu⟩ := x
      show J _ _ _ _ _ ((9, .pointer (some ⟨t, 0, none⟩)) :: _) _
      refine J.pr (fun hF => ?_)
      refine J.fieldAddr Ty.fd101_1 rfl rfl ?_
      exact J.finX rfl (fun _ hw => ⟨⟨x9, uu⟩, rfl, fun _ _ _ => rfl, hF, hw⟩)
    · skip
      obtain ⟨x9, uu⟩ := x
      show J _ _ _ _ _ ((10, .pointer (some ⟨t, 0 + 1, none⟩)) :: _) _
      refine J.pr (fun hF => ?_)
      refine J.loadO Ty.a99 rfl (by repeat first | exact .head _ | apply List.Mem.tail | apply List.mem_append_right) (by exact rfl) rfl ?_
      exact J.finX rfl (fun _ hw => ⟨⟨x9, uu⟩, rfl, fun _ _ _ => rfl, hF, hw⟩)
    · skip
      obtain ⟨x9, uu⟩ := x
      show J _ _ _ _ _ (_) _
      refine J.pr (fun hF => ?_)
      refine J.loadOA (vs := cP p) Ty.a25 Ty.s25 rfl (by repeat first | exact .head _ | apply List.Mem.tail | apply List.mem_append_right) (by exact rfl) rfl rfl ?_
      exact J.finX rfl (fun _ hw => ⟨⟨x9, uu⟩, rfl, fun _ _ _ => rfl, hF, hw⟩)
    · skip
      obtain ⟨x9, uu⟩ := x
      show J _ _ _ _ _ ((12, .agg (cP p).toArray) :: (11, .map (some mb)) :: _) _
      refine J.pr (fun hF => ?_)
      refine J.lookupT Ty.u99 Ty.KP Ty.keyP Ty.zE_ rfl rfl (by assumption) (by assumption) (by assumption) (by assumption) (fun w hw => hw.own (_, _) (by repeat first | exact .head _ | apply List.Mem.tail | apply List.mem_append_right)) rfl ?_
      exact J.finX rfl (fun _ hw => ⟨⟨x9, uu⟩, rfl, fun _ _ _ => rfl, hF, hw⟩)
    · skip
      obtain ⟨x9, uu⟩ := x
      show J _ _ _ _ _ ((13, .tuple #[.agg (cE xe).toArray, .bool ok]) :: _) _
      refine J.pr (fun hF => ?_)
      refine J.move rfl rfl ?_
      exact J.finX rfl (fun _ hw => ⟨⟨x9, uu⟩, rfl, fun _ _ _ => rfl, hF, hw⟩)
    · skip
      obtain ⟨x9, uu⟩ := x
      show J _ _ _ _ _ ((7, .tuple #[.agg (cE xe).toArray, .bool ok]) :: _) _
      refine J.pr (fun hF => ?_)
      refine J.extract rfl rfl rfl ?_
      exact J.finX rfl (fun _ hw => ⟨⟨x9, uu⟩, rfl, fun _ _ _ => rfl, hF, hw⟩)
    · skip
      obtain ⟨x9, uu⟩ := x
      show J _ _ _ _ _ ((7, .tuple #[.agg (cE xe).toArray, .bool ok]) :: _) _
      refine J.pr (fun hF => ?_)
      refine J.extract rfl rfl rfl ?_
      exact J.finX rfl (fun _ hw => ⟨⟨x9, uu⟩, rfl, fun _ _ _ => rfl, hF, hw⟩)
    · skip
      obtain ⟨x9, uu⟩ := x
      show J _ _ _ _ _ (_) _
      refine J.pr (fun hF => ?_)
      have h10 : m 10 = false := by cases h : m 10 with
        | false => rfl
        | true => rw [hF h] at hm; cases hm
      refine J.alloc Ty.z34 rfl rfl (fun b5 => ?_)
      refine J.nil (JX.finB rfl (fun w1 hw => ⟨⟨⟨b5, uu⟩, rfl, fun j h1 h2 => ?_, ?_⟩, trivial⟩))
      · match j, h1 with
        | 0, _ => (first | rfl | trivial)
        | 1, _ => (first | rfl | trivial)
        | 2, _ => (first | rfl | trivial)
        | 3, _ => (first | rfl | trivial)
        | 4, _ => (first | rfl | trivial)
        | 5, _ => (first | rfl | trivial)
        | 6, _ => (first | rfl | trivial)
        | 7, _ => (first | rfl | trivial)
        | 8, _ => (first | rfl | trivial)
        | 9, _ => exact absurd (h2.symm.trans hm) (by decide)
        | 10, _ => (first | rfl | trivial)
        | j + 11, h1 => omega
      show (m 10 = true → true = true) ∧ St w [t, mb] ((b3, cb (cP p) 25) :: (t, tabO most mb) :: (mb, .map es clock) :: (bif true then [(b5, cb (bif m 10 then cE xe else cE zE) 34)] else [])) w1
      simp only [hm, h10, cond_true, cond_false] at hw ⊢
      exact ⟨fun _ => trivial, hw.perm (by (refine perm_cnt (fun _ => ?_)); simp only [cntB_append, cntB_cons, cntB_nil, Nat.add_zero, Nat.zero_add]; try ac_rfl)⟩
    · skip
      obtain ⟨x9, uu⟩ := x
      show J _ _ _ _ _ ((5, .pointer (some ⟨x9, 0, none⟩)) :: (14, .agg (cE xe).toArray) :: (7, .tuple #[.agg (cE xe).toArray, .bool ok]) :: (13, .tuple #[.agg (cE xe).toArray, .bool ok]) :: (12, .agg (cP p).toArray) :: (11, .map (some mb)) :: (10, .pointer (some ⟨t, 0 + 1, none⟩)) :: (9, .pointer (some ⟨t, 0, none⟩)) :: (8, .pointer (some ⟨t, 0, none⟩)) :: (14, .agg (cE xe).toArray) :: (5, .pointer (some ⟨x9, 0, none⟩)) :: _) _
      have hp9 : m 9 = true := predsT hp (by kernel_rfl)
      have hp9 : m 9 = true := predsT hp (by kernel_rfl)
      refine J.pr (fun hF => ?_)
      refine J.conseq (I' := St w [t, mb] ((x9, cb (cE zE) 34) :: ((b3, cb (cP p) 25) :: (t, tabO most mb) :: (mb, .map es clock) :: []))) ?_ (fun w1 hw => by simp only [hm, hp9, cond_true, cond_false] at hw; exact hw.perm (by (refine perm_cnt (fun _ => ?_)); simp only [cntB_append, cntB_cons, cntB_nil, Nat.add_zero, Nat.zero_add]; try ac_rfl))
      refine J.storeW (cs := cE zE) (vs := cE xe) Ty.s34 rfl rfl rfl rfl rfl (by simp [Value.oneCell']) .here ?_
      refine J.nil (JX.finN undef (fun w1 hw => ⟨⟨x9, uu⟩, rfl, fun j h1 h2 => ?_, ?_⟩))
      · match j, h1 with
        | 0, _ => (first | rfl | trivial)
        | 1, _ => (first | rfl | trivial)
        | 2, _ => (first | rfl | trivial)
        | 3, _ => (first | rfl | trivial)
        | 4, _ => (first | rfl | trivial)
        | 5, _ => (first | rfl | trivial)
        | 6, _ => (first | rfl | trivial)
        | 7, _ => (first | rfl | trivial)
        | 8, _ => (first | rfl | trivial)
        | 9, _ => (first | rfl | trivial)
        | 10, _ => (first | rfl | trivial)
        | j + 11, h1 => omega
      show (true = true → m 9 = true) ∧ St w [t, mb] ((b3, cb (cP p) 25) :: (t, tabO most mb) :: (mb, .map es clock) :: (bif m 9 then [(x9, cb (bif true then cE xe else cE zE) 34)] else [])) w1
      exact ⟨fun _ => hp9, by simp only [hp9, cond_true]; exact hw.perm (by (refine perm_cnt (fun _ => ?_)); simp only [cntB_append, cntB_cons, cntB_nil, Nat.add_zero, Nat.zero_add]; try ac_rfl)⟩
  case htail =>
    intro x
    obtain ⟨x9, uu⟩ := x
    show J _ _ _ _ _ ((5, .pointer (some ⟨x9, 0, none⟩)) :: (15, .bool ok) :: (14, .agg (cE xe).toArray) :: (7, .tuple #[.agg (cE xe).toArray, .bool ok]) :: (13, .tuple #[.agg (cE xe).toArray, .bool ok]) :: (12, .agg (cP p).toArray) :: (11, .map (some mb)) :: (10, .pointer (some ⟨t, 0 + 1, none⟩)) :: (9, .pointer (some ⟨t, 0, none⟩)) :: (8, .pointer (some ⟨t, 0, none⟩)) :: _) (fun w1 => (true = true → true = true) ∧ St w [t, mb] ((b3, cb (cP p) 25) :: (t, tabO most mb) :: (mb, .map es clock) :: (bif true then [(x9, cb (bif true then cE xe else cE zE) 34)] else [])) w1)
    refine J.pr (fun hF => ?_)
    refine J.assign rfl rfl ?_
    refine J.nil ?_
    refine JX.thenN (hK1 _ _ ?_)
    refine JC.seq (fun K2 hK2 => ?_)
    refine JC.region ?_
    refine J.move rfl rfl ?_
    refine J.assign rfl rfl ?_
    refine J.nil ?_
    refine JX.thenN (hK2 _ _ ?_)
    refine JC.ret ?_
    refine JX.ret1 rfl rfl (fun w hw => ?_)
    exact ⟨rfl, hw.same hw0 (fun p hp => by simp at hp ⊢; rcases hp with rfl | rfl <;> simp)⟩

theorem get_spec (t mb : Nat) (most : Int) (L : List EV) (es : Array MapEntry) (clock : Nat) (w : World) (hw0 : Own w ([(t, tabO most mb), (mb, .map es clock)])) (hT : Tab L es clock) (p : PV) (hp : okN p.n) :
    Calls Try.prog 23 [.pointer (some ⟨t, 0, none⟩), .agg (cP p).toArray].toArray w fun r w' => r = .returned (.tuple #[.agg (cE ((tget L p).getD zE)).toArray, .bool (tget L p).isSome]) ∧ Bel w w' := by
  obtain ⟨xe, hxe⟩ : ∃ xe, (tget L p).getD zE = xe := ⟨_, rfl⟩
  obtain ⟨ok, hok⟩ : ∃ ok, (tget L p).isSome = ok := ⟨_, rfl⟩
  rw [hok, hxe]
  refine calls_of_J (args := [.pointer (some ⟨t, 0, none⟩), .agg (cP p).toArray]) (e := [(0, .pointer (some ⟨t, 0, none⟩)), (1, .agg (cP p).toArray)]) Try.func23 rfl rfl ⟨rfl, rfl, trivial⟩ (hw0.st) ?_
  refine JC.seq (fun K0 hK0 => ?_)
  refine JC.region ?_
  refine J.box rfl rfl rfl (fun b3 => ?_)
  refine J.alloc Ty.z34 rfl rfl (fun b4 => ?_)
  refine J.assign rfl rfl ?_
  refine J.nil ?_
  refine JX.thenN (hK0 _ _ ?_)
  refine JC.seq (fun K1 hK1 => ?_)
  refine JC.seq (fun K2 hK2 => ?_)
  refine JC.region ?_
  refine J.move rfl rfl ?_
  refine J.eqNil Ty.u29 rfl rfl rfl ?_
  refine J.nil ?_
  refine JX.thenN (hK2 _ _ ?_)
  first | refine JC.condF rfl ?_ | refine JC.cond rfl (fun h => by first | (exfalso; simp at h; omega) | (simp at h)) (fun _ => ?_)
  refine JC.skip ?_
  refine JX.thenN (hK1 _ _ ?_)
  refine JC.seq (fun K3 hK3 => ?_)
  apply JC.drawX (α := Nat × Unit) 11 (fun x => match x with | ⟨x9, uu⟩ => [.pointer (some ⟨t, 0, none⟩), .pointer (some ⟨t, 0, none⟩), .pointer (some ⟨t, 0 + 1, none⟩), .map (some mb), .agg (cP p).toArray, .tuple #[.agg (cE xe).toArray, .bool ok], .tuple #[.agg (cE xe).toArray, .bool ok], .agg (cE xe).toArray, .bool ok, .pointer (some ⟨x9, 0, none⟩), undef]) (fun m x => match x with | ⟨x9, uu⟩ => fun w1 => (m 10 = true → m 9 = true) ∧ St w [t, mb] ((b4, cb (cE zE) 34) :: (b3, cb (cP p) 25) :: (t, tabO most mb) :: (mb, .map es clock) :: (bif m 9 then [(x9, cb (bif m 10 then cE xe else cE zE) 34)] else [])) w1) Ty.mixed rfl rfl rfl (by kernel_rfl) rfl rfl ?hinit ?hstep ?htail
  case hinit => exact fun w1 hw => ⟨(0, ()), fun h => h, hw.drew⟩
  case hstep =>
    refine ⟨fun m x hm hp => ?_, fun m x hm hp => ?_, fun m x hm hp => ?_, fun m x hm hp => ?_, fun m x hm hp => ?_, fun m x hm hp => ?_, fun m x hm hp => ?_, fun m x hm hp => ?_, fun m x hm hp => ?_, fun m x hm hp => ?_, fun m x hm hp => ?_, trivial⟩
    · skip
      obtain ⟨x9, uu⟩ := x
      show J _ _ _ _ _ (_) _
      refine J.pr (fun hF => ?_)
      refine J.move rfl rfl ?_
      exact J.finX rfl (fun _ hw => ⟨⟨x9, uu⟩, rfl, fun _ _ _ => rfl, hF, hw⟩)
    · skip
      obtain ⟨x9, uu⟩ := x
      show J _ _ _ _ _ ((12, .pointer (some ⟨t, 0, none⟩)) :: _) _
      refine J.pr (fun hF => ?_)
      refine J.nilCheck rfl rfl ?_
      exact J.finX rfl (fun _ hw => ⟨⟨x9, uu⟩, rfl, fun _ _ _ => rfl, hF, hw⟩)
    · skip
      obtain ⟨x9, uu⟩ := x
      show J _ _ _ _ _ ((13, .pointer (some ⟨t, 0, none⟩)) :: _) _
      refine J.pr (fun hF => ?_)
      refine J.fieldAddr Ty.fd101_1 rfl rfl ?_
      exact J.finX rfl (fun _ hw => ⟨⟨x9, uu⟩, rfl, fun _ _ _ => rfl, hF, hw⟩)
    · skip
      obtain ⟨x9, uu⟩ := x
      show J _ _ _ _ _ ((14, .pointer (some ⟨t, 0 + 1, none⟩)) :: _) _
      refine J.pr (fun hF => ?_)
      refine J.loadO Ty.a99 rfl (by repeat first | exact .head _ | apply List.Mem.tail | apply List.mem_append_right) (by exact rfl) rfl ?_
      exact J.finX rfl (fun _ hw => ⟨⟨x9, uu⟩, rfl, fun _ _ _ => rfl, hF, hw⟩)
    · skip
      obtain ⟨x9, uu⟩ := x
      show J _ _ _ _ _ (_) _
      refine J.pr (fun hF => ?_)
      refine J.loadOA (vs := cP p) Ty.a25 Ty.s25 rfl (by repeat first | exact .head _ | apply List.Mem.tail | apply List.mem_append_right) (by exact rfl) rfl rfl ?_
      exact J.finX rfl (fun _ hw => ⟨⟨x9, uu⟩, rfl, fun _ _ _ => rfl, hF, hw⟩)
    · skip
      obtain ⟨x9, uu⟩ := x
      show J _ _ _ _ _ ((16, .agg (cP p).toArray) :: (15, .map (some mb)) :: _) _
      refine J.pr (fun hF => ?_)
      refine J.lookupT Ty.u99 Ty.KP Ty.keyP Ty.zE_ rfl rfl (by assumption) (by assumption) (by assumption) (by assumption) (fun w hw => hw.own (_, _) (by repeat first | exact .head _ | apply List.Mem.tail | apply List.mem_append_right)) rfl ?_
      exact J.finX rfl (fun _ hw => ⟨⟨x9, uu⟩, rfl, fun _ _ _ => rfl, hF, hw⟩)
    · skip
      obtain ⟨x9, uu⟩ := x
      show J _ _ _ _ _ ((17, .tuple #[.agg (cE xe).toArray, .bool ok]) :: _) _
      refine J.pr (fun hF => ?_)
      refine J.move rfl rfl ?_
      exact J.finX rfl (fun _ hw => ⟨⟨x9, uu⟩, rfl, fun _ _ _ => rfl, hF, hw⟩)
    · skip
      obtain ⟨x9, uu⟩ := x
      show J _ _ _ _ _ ((11, .tuple #[.agg (cE xe).toArray, .bool ok]) :: _) _
      refine J.pr (fun hF => ?_)
      refine J.extract rfl rfl rfl ?_
      exact J.finX rfl (fun _ hw => ⟨⟨x9, uu⟩, rfl, fun _ _ _ => rfl, hF, hw⟩)
    · skip
      obtain ⟨x9, uu⟩ := x
      show J _ _ _ _ _ ((11, .tuple #[.agg (cE xe).toArray, .bool ok]) :: _) _
      refine J.pr (fun hF => ?_)
      refine J.extract rfl rfl rfl ?_
      exact J.finX rfl (fun _ hw => ⟨⟨x9, uu⟩, rfl, fun _ _ _ => rfl, hF, hw⟩)
    · skip
      obtain ⟨x9, uu⟩ := x
      show J _ _ _ _ _ (_) _
      refine J.pr (fun hF => ?_)
      have h10 : m 10 = false := by cases h : m 10 with
        | false => rfl
        | true => rw [hF h] at hm; cases hm
      refine J.alloc Ty.z34 rfl rfl (fun b6 => ?_)
      refine J.nil (JX.finB rfl (fun w1 hw => ⟨⟨⟨b6, uu⟩, rfl, fun j h1 h2 => ?_, ?_⟩, trivial⟩))
      · match j, h1 with
        | 0, _ => (first | rfl | trivial)
        | 1, _ => (first | rfl | trivial)
        | 2, _ => (first | rfl | trivial)
        | 3, _ => (first | rfl | trivial)
        | 4, _ => (first | rfl | trivial)
        | 5, _ => (first | rfl | trivial)
        | 6, _ => (first | rfl | trivial)
        | 7, _ => (first | rfl | trivial)
        | 8, _ => (first | rfl | trivial)
        | 9, _ => exact absurd (h2.symm.trans hm) (by decide)
        | 10, _ => (first | rfl | trivial)
        | j + 11, h1 => omega
      show (m 10 = true → true = true) ∧ St w [t, mb] ((b4, cb (cE zE) 34) :: (b3, cb (cP p) 25) :: (t, tabO most mb) :: (mb, .map es clock) :: (bif true then [(b6, cb (bif m 10 then cE xe else cE zE) 34)] else [])) w1
      simp only [hm, h10, cond_true, cond_false] at hw ⊢
      exact ⟨fun _ => trivial, hw.perm (by (refine perm_cnt (fun _ => ?_)); simp only [cntB_append, cntB_cons, cntB_nil, Nat.add_zero, Nat.zero_add]; try ac_rfl)⟩
    · skip
      obtain ⟨x9, uu⟩ := x
      show J _ _ _ _ _ ((6, .pointer (some ⟨x9, 0, none⟩)) :: (18, .agg (cE xe).toArray) :: (11, .tuple #[.agg (cE xe).toArray, .bool ok]) :: (17, .tuple #[.agg (cE xe).toArray, .bool ok]) :: (16, .agg (cP p).toArray) :: (15, .map (some mb)) :: (14, .pointer (some ⟨t, 0 + 1, none⟩)) :: (13, .pointer (some ⟨t, 0, none⟩)) :: (12, .pointer (some ⟨t, 0, none⟩)) :: (18, .agg (cE xe).toArray) :: (6, .pointer (some ⟨x9, 0, none⟩)) :: _) _
      have hp9 : m 9 = true := predsT hp (by kernel_rfl)
      have hp9 : m 9 = true := predsT hp (by kernel_rfl)
      refine J.pr (fun hF => ?_)
      refine J.conseq (I' := St w [t, mb] ((x9, cb (cE zE) 34) :: (b4, cb (cE zE) 34) :: ((b3, cb (cP p) 25) :: (t, tabO most mb) :: (mb, .map es clock) :: []))) ?_ (fun w1 hw => by simp only [hm, hp9, cond_true, cond_false] at hw; exact hw.perm (by (refine perm_cnt (fun _ => ?_)); simp only [cntB_append, cntB_cons, cntB_nil, Nat.add_zero, Nat.zero_add]; try ac_rfl))
      refine J.storeW (cs := cE zE) (vs := cE xe) Ty.s34 rfl rfl rfl rfl rfl (by simp [Value.oneCell']) .here ?_
      refine J.nil (JX.finN undef (fun w1 hw => ⟨⟨x9, uu⟩, rfl, fun j h1 h2 => ?_, ?_⟩))
      · match j, h1 with
        | 0, _ => (first | rfl | trivial)
        | 1, _ => (first | rfl | trivial)
        | 2, _ => (first | rfl | trivial)
        | 3, _ => (first | rfl | trivial)
        | 4, _ => (first | rfl | trivial)
        | 5, _ => (first | rfl | trivial)
        | 6, _ => (first | rfl | trivial)
        | 7, _ => (first | rfl | trivial)
        | 8, _ => (first | rfl | trivial)
        | 9, _ => (first | rfl | trivial)
        | 10, _ => (first | rfl | trivial)
        | j + 11, h1 => omega
      show (true = true → m 9 = true) ∧ St w [t, mb] ((b4, cb (cE zE) 34) :: (b3, cb (cP p) 25) :: (t, tabO most mb) :: (mb, .map es clock) :: (bif m 9 then [(x9, cb (bif true then cE xe else cE zE) 34)] else [])) w1
      exact ⟨fun _ => hp9, by simp only [hp9, cond_true]; exact hw.perm (by (refine perm_cnt (fun _ => ?_)); simp only [cntB_append, cntB_cons, cntB_nil, Nat.add_zero, Nat.zero_add]; try ac_rfl)⟩
  case htail =>
    intro x
    obtain ⟨x9, uu⟩ := x
    show J _ _ _ _ _ ((6, .pointer (some ⟨x9, 0, none⟩)) :: (19, .bool ok) :: (18, .agg (cE xe).toArray) :: (11, .tuple #[.agg (cE xe).toArray, .bool ok]) :: (17, .tuple #[.agg (cE xe).toArray, .bool ok]) :: (16, .agg (cP p).toArray) :: (15, .map (some mb)) :: (14, .pointer (some ⟨t, 0 + 1, none⟩)) :: (13, .pointer (some ⟨t, 0, none⟩)) :: (12, .pointer (some ⟨t, 0, none⟩)) :: _) (fun w1 => (true = true → true = true) ∧ St w [t, mb] ((b4, cb (cE zE) 34) :: (b3, cb (cP p) 25) :: (t, tabO most mb) :: (mb, .map es clock) :: (bif true then [(x9, cb (bif true then cE xe else cE zE) 34)] else [])) w1)
    refine J.pr (fun hF => ?_)
    refine J.assign rfl rfl ?_
    refine J.nil ?_
    refine JX.thenN (hK3 _ _ ?_)
    refine JC.seq (fun K4 hK4 => ?_)
    refine JC.region ?_
    refine J.loadOA (vs := cE xe) Ty.a34 Ty.s34 rfl (.tail _ (.tail _ (.tail _ (.tail _ (.head _))))) rfl rfl rfl ?_
    refine J.move rfl rfl ?_
    refine J.storeW (cs := cE zE) (vs := cE xe) Ty.s34 rfl rfl rfl rfl rfl (by simp [Value.oneCell']) .here ?_
    refine J.assign rfl rfl ?_
    refine J.nil ?_
    refine JX.thenN (hK4 _ _ ?_)
    refine JC.ret ?_
    refine JX.retCT rfl rfl rfl Ty.a34 Ty.s34 (vs := cE xe) rfl (fun w1 hw => Cells.of_block (hw.own _ (.head _)) rfl) (fun w1 hw => ?_)
    exact ⟨rfl, hw.same hw0 (fun p hp => by simp at hp ⊢; rcases hp with rfl | rfl <;> simp)⟩

theorem add_spec (t mb : Nat) (most : Int) (L : List EV) (es : Array MapEntry) (clock : Nat) (w : World) (hw0 : Own w ([(t, tabO most mb), (mb, .map es clock)])) (hT : Tab L es clock) (x : EV) (hx : okE x) :
    Calls Try.prog 17 [.pointer (some ⟨t, 0, none⟩), .agg (cE x).toArray].toArray w fun r w' => ∃ y : Array MapEntry × Nat, r = .returned (.int .i64 (tadd L most x).1) ∧ Tab (tadd L most x).2 y.1 y.2 ∧ St w [t, mb] [(t, tabO most mb), (mb, .map y.1 y.2)] w' := by
  refine calls_of_J (args := [.pointer (some ⟨t, 0, none⟩), .agg (cE x).toArray]) (e := [(0, .pointer (some ⟨t, 0, none⟩)), (1, .agg (cE x).toArray)]) Try.func17 rfl rfl ⟨rfl, rfl, trivial⟩ (hw0.st) ?_
  refine JC.seq (fun K0 hK0 => ?_)
  refine JC.region ?_
  refine J.box rfl rfl rfl (fun b3 => ?_)
  refine J.assign rfl rfl ?_
  refine J.nil ?_
  refine JX.thenN (hK0 _ _ ?_)
  refine JC.seq (fun K1 hK1 => ?_)
  refine JC.block ?_
  refine JC.seq (fun K2 hK2 => ?_)
  refine JC.region ?_
  refine J.move rfl rfl ?_
  refine J.eqNil Ty.u29 rfl rfl rfl ?_
  refine J.move rfl rfl ?_
  first | refine J.skip rfl rfl rfl rfl rfl ?_ | refine J.skipU rfl rfl rfl rfl ?_ | (refine J.unguard rfl rfl rfl ?_; refine J.loadOA (vs := cE x) Ty.a34 Ty.s34 rfl (by repeat first | exact .head _ | apply List.Mem.tail | apply List.mem_append_right) (by exact rfl) rfl rfl ?_)
  first | refine J.skip rfl rfl rfl rfl rfl ?_ | refine J.skipU rfl rfl rfl rfl ?_ | (refine J.unguard rfl rfl rfl ?_; refine J.callB (v := .bool (decide (rightP x))) (fun w1 w2 hw hb => hw.step hb) Ty.bd33 rfl rfl (fun w1 hw => right_spec x w1) ?_)
  first | refine J.skip rfl rfl rfl rfl rfl ?_ | refine J.skipU rfl rfl rfl rfl ?_ | (refine J.unguard rfl rfl rfl ?_; refine J.not rfl rfl ?_)
  (first | refine J.pickT rfl rfl rfl ?_ | refine J.pickF rfl rfl rfl ?_)
  refine J.assign rfl rfl ?_
  refine J.nil ?_
  refine JX.thenN (hK2 _ _ ?_)
  refine JC.cond rfl (fun h0 => ?_) (fun h0 => ?_)
  · skip
    have hr : ¬ rightP x := fun h => by simp [h] at h0
    refine JC.seq (fun K3 hK3 => ?_)
    refine JC.region ?_
    refine J.assign rfl rfl ?_
    refine J.nil ?_
    refine JX.thenN (hK3 _ _ ?_)
    refine JC.ret ?_
    refine JX.blockR ?_
    refine JX.thenR ?_
    refine JX.ret1 rfl rfl (fun w hw => ?_)
    first | (have hadd : (tadd L most x).2 = L := (by simp [tadd, *]); exact ⟨(es, clock), by simp [tadd, *], by rw [hadd]; exact hT, hw.drop (List.sublist_cons_self _ _)⟩) | (have hadd : tadd L most x = (0, L ++ [x]) := (by simp [tadd, *]); exact ⟨(_, _), by rw [hadd], by rw [hadd]; exact hT.push hx hnone, hw.drop (List.sublist_cons_self _ _)⟩)
  · skip
    have hr : rightP x := by simp at h0; exact h0
    refine JC.seq (fun K4 hK4 => ?_)
    refine JC.region ?_
    refine J.move rfl rfl ?_
    refine J.fieldAddr Ty.fd34_0 rfl rfl ?_
    refine J.loadOA (vs := cP x.p) Ty.a25 Ty.s25 rfl (by repeat first | exact .head _ | apply List.Mem.tail | apply List.mem_append_right) (by exact rfl) rfl rfl ?_
    refine J.callB (v := .bool (tget L x.p).isSome) (fun w1 w2 hw hb => hw.step hb) Ty.bd51 rfl rfl (fun w1 hw => has_spec t mb most L es clock w1 (St.owns (l1 := [(t, tabO most mb), (mb, .map es clock)]) (l := [(b3, cb (cE x) 34)]) (hw.perm (by (refine perm_cnt (fun _ => ?_)); simp only [cntB_append, cntB_cons, cntB_nil, Nat.add_zero, Nat.zero_add]; try ac_rfl))) hT x.p hx.1) ?_
    refine J.assign rfl rfl ?_
    refine J.nil ?_
    refine JX.thenN (hK4 _ _ ?_)
    refine JC.cond rfl (fun h1 => ?_) (fun h1 => ?_)
    · skip
      try simp only [decide_eq_true_eq, decide_eq_false_iff_not, beq_iff_eq, bne_iff_ne, bne_eq_false_iff_eq, ne_eq, beq_eq_false_iff_ne, Bool.not_eq_true, Bool.not_eq_false, Int.not_lt, Int.not_le] at h1
      refine JC.seq (fun K5 hK5 => ?_)
      refine JC.region ?_
      refine J.assign rfl rfl ?_
      refine J.nil ?_
      refine JX.thenN (hK5 _ _ ?_)
      refine JC.ret ?_
      refine JX.blockR ?_
      refine JX.thenR ?_
      refine JX.ret1 rfl rfl (fun w hw => ?_)
      first | (have hadd : (tadd L most x).2 = L := (by simp [tadd, *]); exact ⟨(es, clock), by simp [tadd, *], by rw [hadd]; exact hT, hw.drop (List.sublist_cons_self _ _)⟩) | (have hadd : tadd L most x = (0, L ++ [x]) := (by simp [tadd, *]); exact ⟨(_, _), by rw [hadd], by rw [hadd]; exact hT.push hx hnone, hw.drop (List.sublist_cons_self _ _)⟩)
    · skip
      have hnone : tget L x.p = none := by simp at h1; exact h1
      refine JC.seq (fun K6 hK6 => ?_)
      apply JC.drawL 11 [Eqv (.pointer (some ⟨t, 0, none⟩)), Eqv (.pointer (some ⟨t, 0, none⟩)), Eqv (.pointer (some ⟨t, 0 + 1, none⟩)), Eqv (.map (some mb)), Eqv (.int .i64 ((L.length : Nat) : Int)), Eqv (.pointer (some ⟨t, 0, none⟩)), Eqv (.pointer (some ⟨t, 0, none⟩)), Eqv (.pointer (some ⟨t, 0 + 0, none⟩)), Eqv (.int .i64 most), Eqv (.bool (decide (((L.length : Nat) : Int) ≥ most))), Eqv (.bool (decide (((L.length : Nat) : Int) ≥ most)))] Ty.mixed rfl rfl rfl (by kernel_rfl) rfl rfl (fun w w' hw hb => hw.step hb) ⟨fun _ _ _ h _ => h, fun _ _ _ h _ => h, fun _ _ _ h _ => h, fun _ _ _ h _ => h, fun _ _ _ h _ => h, fun _ _ _ h _ => h, fun _ _ _ h _ => h, fun _ _ _ h _ => h, fun _ _ _ h _ => h, fun _ _ _ h _ => h, fun _ _ _ h _ => h, trivial⟩ ?hstep ?htail
      case hstep =>
        refine ⟨fun wi => ?_, fun wi => ?_, fun wi => ?_, fun wi => ?_, fun wi => ?_, fun wi => ?_, fun wi => ?_, fun wi => ?_, fun wi => ?_, fun wi => ?_, fun wi => ?_, trivial⟩
        · skip
          refine Fin.nil ?_
          refine J.move rfl rfl ?_
          exact J.finP rfl
        · skip
          refine Fin.consE rfl (Fin.nil ?_)
          refine J.nilCheck rfl rfl ?_
          exact J.finP rfl
        · skip
          refine Fin.consE rfl (Fin.nil ?_)
          refine J.fieldAddr Ty.fd101_1 rfl rfl ?_
          exact J.finP rfl
        · skip
          refine Fin.consE rfl (Fin.nil ?_)
          refine J.load1 Ty.a99 rfl (fun w hw => (cell_of (hw.2.own (_, _) (by repeat first | exact .head _ | apply List.Mem.tail | apply List.mem_append_right))).trans (by exact rfl)) rfl ?_
          exact J.finP rfl
        · skip
          refine Fin.consE rfl (Fin.nil ?_)
          refine J.lenM rfl Ty.u99 rfl (fun w hw => hw.2.own (_, _) (by repeat first | exact .head _ | apply List.Mem.tail | apply List.mem_append_right)) (Tab.size (by assumption)) rfl ?_
          exact J.finP rfl
        · skip
          refine Fin.nil ?_
          refine J.move rfl rfl ?_
          exact J.finP rfl
        · skip
          refine Fin.consE rfl (Fin.nil ?_)
          refine J.nilCheck rfl rfl ?_
          exact J.finP rfl
        · skip
          refine Fin.consE rfl (Fin.nil ?_)
          refine J.fieldAddr Ty.fd101_0 rfl rfl ?_
          exact J.finP rfl
        · skip
          refine Fin.consE rfl (Fin.nil ?_)
          refine J.load1 Ty.a3 rfl (fun w hw => (cell_of (hw.2.own (_, _) (by repeat first | exact .head _ | apply List.Mem.tail | apply List.mem_append_right))).trans (by exact rfl)) rfl ?_
          exact J.finP rfl
        · skip
          refine Fin.consE rfl (Fin.consE rfl (Fin.nil ?_))
          refine J.bin rfl rfl rfl rfl ?_
          exact J.finP rfl
        · skip
          refine Fin.consE rfl (Fin.consE rfl (Fin.nil ?_))
          refine J.assign rfl rfl ?_
          exact J.finP rfl
      case htail =>
        refine Fin.consE rfl (Fin.consE rfl (Fin.consE rfl (Fin.consE rfl (Fin.consE rfl (Fin.consE rfl (Fin.consE rfl (Fin.consE rfl (Fin.consE rfl (Fin.consE rfl (Fin.consE rfl (Fin.nil ?_)))))))))))
        refine J.nil ?_
        refine JX.thenN (hK6 _ _ ?_)
        refine JC.cond rfl (fun h2 => ?_) (fun h2 => ?_)
        · skip
          have hfull : most ≤ (L.length : Int) := by simp at h2; exact h2
          refine JC.seq (fun K7 hK7 => ?_)
          refine JC.region ?_
          refine J.assign rfl rfl ?_
          refine J.nil ?_
          refine JX.thenN (hK7 _ _ ?_)
          refine JC.ret ?_
          refine JX.blockR ?_
          refine JX.thenR ?_
          refine JX.ret1 rfl rfl (fun w hw => ?_)
          first | (have hadd : (tadd L most x).2 = L := (by simp [tadd, *]); exact ⟨(es, clock), by simp [tadd, *], by rw [hadd]; exact hT, hw.drop (List.sublist_cons_self _ _)⟩) | (have hadd : tadd L most x = (0, L ++ [x]) := (by simp [tadd, *]); exact ⟨(_, _), by rw [hadd], by rw [hadd]; exact hT.push hx hnone, hw.drop (List.sublist_cons_self _ _)⟩)
        · skip
          have hfull : ¬ most ≤ (L.length : Int) := by simp at h2; omega
          refine JC.skip ?_
          refine JX.blockN ?_
          refine JX.thenN (hK1 _ _ ?_)
          refine JC.seq (fun K8 hK8 => ?_)
          apply JC.drawL 7 [Eqv (.pointer (some ⟨t, 0, none⟩)), Eqv (.pointer (some ⟨t, 0, none⟩)), Eqv (.pointer (some ⟨t, 0 + 1, none⟩)), Eqv (.map (some mb)), Eqv (.pointer (some ⟨b3, 0 + 0, none⟩)), Eqv (.agg (cP x.p).toArray), Eqv (.agg (cE x).toArray)] Ty.mixed rfl rfl rfl (by kernel_rfl) rfl rfl (fun w w' hw hb => hw.step hb) ⟨fun _ _ _ h _ => h, fun _ _ _ h _ => h, fun _ _ _ h _ => h, fun _ _ _ h _ => h, fun _ _ _ h _ => h, fun _ _ _ h _ => h, fun _ _ _ h _ => h, trivial⟩ ?hstep ?htail
          case hstep =>
            refine ⟨fun wi => ?_, fun wi => ?_, fun wi => ?_, fun wi => ?_, fun wi => ?_, fun wi => ?_, fun wi => ?_, trivial⟩
            · skip
              refine Fin.nil ?_
              refine J.move rfl rfl ?_
              exact J.finP rfl
            · skip
              refine Fin.consE rfl (Fin.nil ?_)
              refine J.nilCheck rfl rfl ?_
              exact J.finP rfl
            · skip
              refine Fin.consE rfl (Fin.nil ?_)
              refine J.fieldAddr Ty.fd101_1 rfl rfl ?_
              exact J.finP rfl
            · skip
              refine Fin.consE rfl (Fin.nil ?_)
              refine J.load1 Ty.a99 rfl (fun w hw => (cell_of (hw.2.own (_, _) (by repeat first | exact .head _ | apply List.Mem.tail | apply List.mem_append_right))).trans (by exact rfl)) rfl ?_
              exact J.finP rfl
            · skip
              refine Fin.nil ?_
              refine J.fieldAddr Ty.fd34_0 rfl rfl ?_
              exact J.finP rfl
            · skip
              refine Fin.consE rfl (Fin.nil ?_)
              refine J.loadA (vs := cP x.p) Ty.a25 Ty.s25 rfl rfl (fun w hw => Cells.of_block (hw.2.own (_, _) (by repeat first | exact .head _ | apply List.Mem.tail | apply List.mem_append_right)) (by exact rfl)) rfl ?_
              exact J.finP rfl
            · skip
              refine Fin.nil ?_
              refine J.loadA (vs := cE x) Ty.a34 Ty.s34 rfl rfl (fun w hw => Cells.of_block (hw.2.own (_, _) (by repeat first | exact .head _ | apply List.Mem.tail | apply List.mem_append_right)) (by exact rfl)) rfl ?_
              exact J.finP rfl
          case htail =>
            refine Fin.consE rfl (Fin.consE rfl (Fin.consE rfl (Fin.consE rfl (Fin.consE rfl (Fin.consE rfl (Fin.consE rfl (Fin.nil ?_)))))))
            refine J.updateNew (k := .agg (cP x.p).toArray) (u := .agg (cE x).toArray) Ty.u99 Ty.KP rfl rfl rfl (.there (.there .here)) (Ty.keyP x.p hx.1).choose_spec (hT.keys Ty.keyP) (hT.fresh hnone) ?_
            refine J.nil ?_
            refine JX.thenN (hK8 _ _ ?_)
            refine JC.seq (fun K9 hK9 => ?_)
            refine JC.region ?_
            refine J.assign rfl rfl ?_
            refine J.nil ?_
            refine JX.thenN (hK9 _ _ ?_)
            refine JC.ret ?_
            refine JX.ret1 rfl rfl (fun w hw => ?_)
            first | (have hadd : (tadd L most x).2 = L := (by simp [tadd, *]); exact ⟨(es, clock), by simp [tadd, *], by rw [hadd]; exact hT, hw.drop (List.sublist_cons_self _ _)⟩) | (have hadd : tadd L most x = (0, L ++ [x]) := (by simp [tadd, *]); exact ⟨(_, _), by rw [hadd], by rw [hadd]; exact hT.push hx hnone, hw.drop (List.sublist_cons_self _ _)⟩)

theorem len_spec (t mb : Nat) (most : Int) (L : List EV) (es : Array MapEntry) (clock : Nat) (w : World) (hw0 : Own w ([(t, tabO most mb), (mb, .map es clock)])) (hT : Tab L es clock) :
    Calls Try.prog 20 [.pointer (some ⟨t, 0, none⟩)].toArray w fun r w' => r = .returned (.int .i64 ((L.length : Nat) : Int)) ∧ Bel w w' := by
  refine calls_of_J (args := [.pointer (some ⟨t, 0, none⟩)]) (e := [(0, .pointer (some ⟨t, 0, none⟩))]) Try.func20 rfl rfl ⟨rfl, trivial⟩ (hw0.st) ?_
  refine JC.seq (fun K0 hK0 => ?_)
  refine JC.region ?_
  refine J.assign rfl rfl ?_
  refine J.nil ?_
  refine JX.thenN (hK0 _ _ ?_)
  refine JC.seq (fun K1 hK1 => ?_)
  refine JC.seq (fun K2 hK2 => ?_)
  refine JC.region ?_
  refine J.move rfl rfl ?_
  refine J.eqNil Ty.u29 rfl rfl rfl ?_
  refine J.nil ?_
  refine JX.thenN (hK2 _ _ ?_)
  first | refine JC.condF rfl ?_ | refine JC.cond rfl (fun h => by first | (exfalso; simp at h; omega) | (simp at h)) (fun _ => ?_)
  refine JC.skip ?_
  refine JX.thenN (hK1 _ _ ?_)
  refine JC.seq (fun K3 hK3 => ?_)
  refine JC.region ?_
  refine J.move rfl rfl ?_
  refine J.nilCheck rfl rfl ?_
  refine J.fieldAddr Ty.fd101_1 rfl rfl ?_
  refine J.loadO Ty.a99 rfl (by repeat first | exact .head _ | apply List.Mem.tail | apply List.mem_append_right) (by exact rfl) rfl ?_
  refine J.lenM rfl Ty.u99 rfl (fun w hw => hw.own (_, _) (by repeat first | exact .head _ | apply List.Mem.tail | apply List.mem_append_right)) (Tab.size (by assumption)) rfl ?_
  refine J.assign rfl rfl ?_
  refine J.nil ?_
  refine JX.thenN (hK3 _ _ ?_)
  refine JC.ret ?_
  refine JX.ret1 rfl rfl (fun w hw => ?_)
  exact ⟨rfl, hw.same hw0 (fun p hp => by simp at hp ⊢; rcases hp with rfl | rfl <;> simp)⟩

end Go.Proofs.Ytpldpkdlloolkaa
/-
  DERIVED: THE SHELF's CONTRACTS AT THIS DUMP, IN PLAIN WORDS (tools/lay-plain.mjs out of 'YtpldpkdlloolkaaUstmp.lean', which tools/lay-shelf.mjs wrote): THE SAME DECLARATIONS UNDER THE SAME NAMES: 'import', 'namespace', 'open', 'def', 'theorem' AND NOTHING ELSE: no command of the shelf's: FOR A HAND-IN. Each laying: the table of numbers ('.._ren') and one theorem, a field a fact of the dump's own or the kernel's comparison; each contract: ONE APPLICATION.
-/

namespace Go.Proofs
open Go.Shelf
def Try.sortI_ren : Go.Shelf.Ren := ⟨fun | 6 => 77 | 15 => 82 | 14 => 81 | 28 => 91 | 29 => 92 | 20 => 83 | 21 => 84 | 22 => 85 | 23 => 86 | 24 => 87 | 25 => 88 | 26 => 89 | 27 => 90 | 46 => 93 | 47 => 94 | 48 => 95 | 49 => 96 | 50 => 97 | 57 => 98 | n => n, fun | 22 => 142 | 24 => 25 | 25 => 147 | 3 => 3 | 39 => 157 | 0 => 0 | 53 => 167 | 55 => 149 | 4 => 4 | 46 => 160 | 45 => 159 | 50 => 164 | 5 => 5 | 9 => 9 | 66 => 169 | 70 => 173 | 76 => 175 | 77 => 176 | n => n, fun | n => n⟩
theorem Try.sortI : Go.Proofs.SlLaysF0.n6 Try.prog Try.sortI_ren := {
  mixed := by kernel_rfl
  f6 := ⟨Try.f77.name, by decide, Try.func77.trans (congrArg some (by kernel_rfl))⟩
  f14 := ⟨Try.f81.name, by decide, Try.func81.trans (congrArg some (by kernel_rfl))⟩
  f15 := Try.func82.trans (congrArg some (by kernel_rfl))
  f20 := ⟨Try.f83.name, by decide, Try.func83.trans (congrArg some (by kernel_rfl))⟩
  f21 := ⟨Try.f84.name, by decide, Try.func84.trans (congrArg some (by kernel_rfl))⟩
  f22 := ⟨Try.f85.name, by decide, Try.func85.trans (congrArg some (by kernel_rfl))⟩
  f23 := ⟨Try.f86.name, by decide, Try.func86.trans (congrArg some (by kernel_rfl))⟩
  f24 := ⟨Try.f87.name, by decide, Try.func87.trans (congrArg some (by kernel_rfl))⟩
  f25 := ⟨Try.f88.name, by decide, Try.func88.trans (congrArg some (by kernel_rfl))⟩
  f26 := ⟨Try.f89.name, by decide, Try.func89.trans (congrArg some (by kernel_rfl))⟩
  f27 := ⟨Try.f90.name, by decide, Try.func90.trans (congrArg some (by kernel_rfl))⟩
  f28 := Try.func91.trans (congrArg some (by kernel_rfl))
  f29 := Try.func92.trans (congrArg some (by kernel_rfl))
  f46 := ⟨Try.f93.name, by decide, Try.func93.trans (congrArg some (by kernel_rfl))⟩
  f47 := Try.func94.trans (congrArg some (by kernel_rfl))
  f48 := Try.func95.trans (congrArg some (by kernel_rfl))
  f49 := ⟨Try.f96.name, by decide, Try.func96.trans (congrArg some (by kernel_rfl))⟩
  f50 := ⟨Try.f97.name, by decide, Try.func97.trans (congrArg some (by kernel_rfl))⟩
  f57 := ⟨Try.f98.name, by decide, Try.func98.trans (congrArg some (by kernel_rfl))⟩
  t0 := Try.underlying0
  a0 := Try.isAgg0
  z0 := Try.sizeOf0
  v0 := Try.zeroValue0
  t3 := Try.underlying3
  a3 := Try.isAgg3
  z3 := Try.sizeOf3
  v3 := Try.zeroValue3
  t4 := Try.underlying4
  a4 := Try.isAgg4
  z4 := Try.sizeOf4
  v4 := Try.zeroValue4
  t5 := Try.underlying5
  a5 := Try.isAgg5
  z5 := Try.sizeOf5
  v5 := Try.zeroValue5
  t9 := Try.underlying9
  a9 := Try.isAgg9
  z9 := Try.sizeOf9
  v9 := Try.zeroValue9
  t22 := Try.underlying142
  a22 := Try.isAgg142
  z22 := Try.sizeOf142
  v22 := Try.zeroValue142
  t25 := Try.underlying147
  a25 := Try.isAgg147
  z25 := Try.sizeOf147
  v25 := Try.zeroValue147
  t39 := Try.underlying157
  a39 := Try.isAgg157
  z39 := Try.sizeOf157
  v39 := Try.zeroValue157
  t45 := Try.underlying159
  a45 := Try.isAgg159
  z45 := Try.sizeOf159
  v45 := Try.zeroValue159
  t46 := Try.underlying160
  a46 := Try.isAgg160
  z46 := Try.sizeOf160
  v46 := Try.zeroValue160
  t50 := Try.underlying164
  a50 := Try.isAgg164
  z50 := Try.sizeOf164
  v50 := Try.zeroValue164
  t53 := Try.underlying167
  a53 := Try.isAgg167
  z53 := Try.sizeOf167
  v53 := Try.zeroValue167
  t55 := Try.underlying149
  a55 := Try.isAgg149
  z55 := Try.sizeOf149
  v55 := Try.zeroValue149
  t66 := Try.underlying169
  a66 := Try.isAgg169
  z66 := Try.sizeOf169
  v66 := Try.zeroValue169
  t70 := Try.underlying173
  a70 := Try.isAgg173
  z70 := Try.sizeOf173
  v70 := Try.zeroValue173
  t76 := Try.underlying175
  a76 := Try.isAgg175
  z76 := Try.sizeOf175
  v76 := Try.zeroValue175
  t77 := Try.underlying176
  a77 := Try.isAgg176
  z77 := Try.sizeOf176
  v77 := Try.zeroValue176 }
end Go.Proofs
/-
  The order of paths: table.Less, table.order and the document's Less: contracts; slices.SortFunc at paths.
-/
namespace Go.Proofs.Ytpldpkdlloolkaa
open Go.J Go.RowKit
set_option linter.unusedVariables false
set_option linter.unusedSimpArgs false
open Go.Sort Go.Shelf
set_option maxRecDepth 4000
/-- the order of paths -/
def ltP (a b : PV) : Bool := decide (valI a.who < valI b.who) || (decide (a.who = b.who) && decide (a.n < b.n))
theorem ltP_iff {a b : PV} : ltP a b = true ↔ valI a.who < valI b.who ∨ (valI a.who = valI b.who ∧ a.n < b.n) := by
  unfold ltP
  rw [Bool.or_eq_true, Bool.and_eq_true, decide_eq_true_eq, decide_eq_true_eq, decide_eq_true_eq]
  exact ⟨fun h => h.elim .inl fun h => .inr ⟨by rw [h.1], h.2⟩, fun h => h.elim .inl fun h => .inr ⟨valI_inj h.1, h.2⟩⟩
theorem ltP_irrefl (a : PV) : ltP a a = false := by
  cases h : ltP a a
  · rfl
  · have := ltP_iff.1 h
    omega
theorem ltP_trans {a b c : PV} (h1 : ltP a b = true) (h2 : ltP b c = true) : ltP a c = true := by
  rw [ltP_iff] at *
  omega
theorem ltP_total {a b : PV} (h1 : ltP a b = false) (h2 : ltP b a = false) : a = b := by
  rw [Bool.eq_false_iff, ne_eq, ltP_iff] at h1 h2
  have h3 : valI a.who = valI b.who := by omega
  have h4 : a.n = b.n := by omega
  cases a; cases b
  simp only at h3 h4
  rw [valI_inj h3, h4]
theorem ltP_asymm {a b : PV} (h : ltP a b = true) : ltP b a = false := by
  cases h2 : ltP b a
  · rfl
  · rw [ltP_iff] at h h2
    omega
def cmpP (a b : PV) : Int := if ltP a b then -1 else if ltP b a then 1 else 0
theorem ltOf_cmpP (a b : PV) : ltOf cmpP a b = ltP a b := by
  unfold ltOf cmpP
  cases h1 : ltP a b
  · cases h2 : ltP b a <;> simp
  · simp
theorem swo_cmpP : SWO (ltOf cmpP) where
  irrefl x := by rw [ltOf_cmpP]; exact ltP_irrefl x
  trans x y z h1 h2 := by rw [ltOf_cmpP] at *; exact ltP_trans h1 h2
  ntrans x y z h1 h2 := by
    rw [ltOf_cmpP] at *
    rw [Bool.eq_false_iff, ne_eq, ltP_iff] at *
    omega
theorem leP_trans (a b c : PV) (h1 : (!(ltOf cmpP) b a) = true) (h2 : (!(ltOf cmpP) c b) = true) : (!(ltOf cmpP) c a) = true := by
  rw [Bool.not_eq_true', ltOf_cmpP, Bool.eq_false_iff, ne_eq, ltP_iff] at *
  omega
theorem leP_total (a b : PV) : ((!(ltOf cmpP) b a) || !(ltOf cmpP) a b) = true := by
  rw [ltOf_cmpP, ltOf_cmpP]
  cases h : ltP b a
  · rfl
  · rw [ltP_asymm h]; rfl
theorem cmpI_ne (a b : IDV) : cmpI a b ≠ 0 ↔ a ≠ b := by
  unfold cmpI
  constructor
  · intro h e
    subst e
    simp at h
  · intro h
    have : valI a ≠ valI b := fun e => h (valI_inj e)
    split
    · decide
    · rw [if_pos (by omega)]; decide
theorem cmpI_lt (a b : IDV) : cmpI a b < 0 ↔ valI a < valI b := by
  unfold cmpI
  split
  · simp [*]
  · split <;> simp [*]
instance : Inhabited PV := ⟨zP⟩
/- the cells of a row of paths -/
abbrev fP (xs : List PV) : List Value := xs.flatMap cP
theorem fP_length : ∀ xs : List PV, (fP xs).length = xs.length * 17
  | [] => rfl
  | x :: xs => by
    have := fP_length xs
    simp only [fP, List.flatMap_cons, List.length_append, List.length_cons] at this ⊢
    simp only [List.length_nil] at this ⊢
    omega
theorem fP_at : ∀ {xs : List PV} {i : Nat} {a : PV}, xs[i]? = some a → ((fP xs).drop (i * 17)).take 17 = cP a
  | [], i, a, h => by simp at h
  | x :: xs, 0, a, h => by
    simp only [List.getElem?_cons_zero, Option.some.injEq] at h
    subst h
    rfl
  | x :: xs, i + 1, a, h => by
    have ih := fP_at (xs := xs) (i := i) (by simpa using h)
    rw [show (i + 1) * 17 = 17 + i * 17 by omega]
    show (((cP x ++ fP xs).drop (17 + i * 17)).take 17) = cP a
    rw [← List.drop_drop, show (cP x ++ fP xs).drop 17 = fP xs from rfl]
    exact ih
theorem one_cP (a : PV) : ∀ v, v ∈ cP a → v.oneCell' = true := by
  intro v hv
  simp only [cP, List.mem_append, List.mem_singleton] at hv
  rcases hv with hv | rfl
  · simp [cI] at hv
    rcases hv with rfl | rfl | rfl | rfl | rfl | rfl | rfl | rfl | rfl | rfl | rfl | rfl | rfl | rfl | rfl | rfl <;> rfl
  · rfl
theorem rowP_at {w : World} {b o k c q i : Nat} {xs : List PV} {a : PV} (h : Row w (.slice (some ⟨b, o, none⟩) k c) k (fP xs)) (hi : xs[i]? = some a) (hq : q = o + i * 17) : Cells w b q (cP a) := by
  have hl : i < xs.length := (List.getElem?_eq_some_iff.1 hi).1
  have hlen := fP_length xs
  obtain ⟨b', o', c', hv, _, hc⟩ := Row.some h (by omega)
  simp only [Value.slice.injEq, Option.some.injEq, Addr.mk.injEq] at hv
  obtain ⟨⟨rfl, rfl, _⟩, _, rfl⟩ := hv
  subst hq
  intro j hj
  have hj16 : j < 17 := hj
  rw [Nat.add_assoc, hc (i * 17 + j) (by omega)]
  have e := fP_at hi
  have : (cP a)[j]? = (((fP xs).drop (i * 17)).take 17)[j]? := by rw [e]
  rw [this, List.getElem?_take_of_lt hj16, List.getElem?_drop]
theorem flat_fP (xs : List PV) : flatK cP 17 xs.toArray = (fP xs).toArray := by
  have hl := fP_length xs
  apply Array.ext
  · simp [hl]
  · intro t h1 h2
    have ht : t < xs.length * 17 := by simpa using h1
    have hi : t / 17 < xs.length := by omega
    have e := get_flatK cP 17 xs.toArray t (by simpa using ht)
    rw [getElem!_pos _ t h1] at e
    rw [e]
    have hx : xs.toArray[t / 17]! = xs[t / 17] := by rw [getElem!_pos xs.toArray (t / 17) (by simpa using hi)]; simp
    rw [hx]
    have hr : t % 17 < (cP xs[t / 17]).length := by show t % 17 < 17; omega
    rw [getElem!_pos (cP xs[t / 17]) (t % 17) hr]
    have e2 := fP_at (List.getElem?_eq_getElem hi)
    have e3 : (cP xs[t / 17])[t % 17]? = (fP xs)[t]? := by
      rw [← e2, List.getElem?_take_of_lt (by omega), List.getElem?_drop, show t / 17 * 17 + t % 17 = t by omega]
    rw [List.getElem?_eq_getElem hr, List.getElem?_eq_getElem (by omega)] at e3
    simpa using Option.some.inj e3
theorem holds_fP {w : World} {q : Nat} {xs : List PV} {sp : List Value} {t : TypeId} (h : w.heap[q]? = some (cb (fP xs ++ sp) t)) : HoldsK cP 17 w q 0 xs.toArray := by
  intro j hj
  rw [flat_fP] at hj ⊢
  have hj' : j < (fP xs).length := by simpa using hj
  refine ⟨?_, frozen_of h⟩
  rw [cell_of h, Nat.zero_add, List.getElem?_append_left hj', List.getElem?_eq_getElem hj']
  rw [getElem!_pos (fP xs).toArray j hj]
  rfl
theorem sortWorldP_st {w : World} {q : Nat} {xs ys : List PV} {sp : List Value} {t : TypeId} (h : w.heap[q]? = some (cb (fP xs ++ sp) t)) (hl : ys.length = xs.length) (n : Nat) (os : Array Obj) :
    St w [q] [(q, cb (fP ys ++ sp) t)] (sortWorldK cP 17 w q 0 n ys.toArray os) := by
  have hq := lt_of_some h
  have hlx := fP_length xs
  have hly := fP_length ys
  have hheap : (sortWorldK cP 17 w q 0 n ys.toArray os).heap = (w.heap.modify q (onCells (putCells id 0 (flatK cP 17 ys.toArray)))) ++ os := rfl
  refine ⟨rfl, rfl, rfl, by rw [hheap]; simp, Nat.le_add_right _ _, fun b hb hS => ?_, fun p hp => ?_, fun p hp => ?_, by simp⟩
  · rw [hheap, Array.getElem?_append_left (by simpa using hb), Array.getElem?_modify, if_neg (by simp at hS; exact fun e => hS e.symm)]
  · simp only [List.mem_singleton] at hp
    subst hp
    rw [hheap, Array.getElem?_append_left (by simpa using hq), Array.getElem?_modify, if_pos rfl, h]
    simp only [Option.map_some, onCells, flat_fP]
    congr 2
    apply Array.ext
    · simp [putCells, hlx, hly, hl]
    · intro i h1 h2
      have hi : i < (fP ys ++ sp).length := by simpa using h2
      simp only [putCells, Array.getElem_mapIdx, Nat.zero_le, true_and, Nat.zero_add, Nat.sub_zero, id]
      by_cases hin : i < (fP ys).length
      · rw [if_pos (by simpa using hin), getElem!_pos _ i (by simpa using hin)]
        simp [List.getElem_append_left hin]
      · rw [if_neg (by simpa using hin)]
        simp only [List.getElem_toArray]
        rw [List.getElem_append_right (by omega), List.getElem_append_right (by omega)]
        congr 1
        omega
  · simp only [List.mem_singleton] at hp
    subst hp
    left; simp

theorem tless_spec (a b : PV) (w : World) :
    Calls Try.prog 31 [.agg (cP a).toArray, .agg (cP b).toArray].toArray w fun r w' => r = .returned (.bool (ltP a b)) ∧ Bel w w' := by
  refine calls_of_J (args := [.agg (cP a).toArray, .agg (cP b).toArray]) (e := [(0, .agg (cP a).toArray), (1, .agg (cP b).toArray)]) Try.func31 rfl rfl ⟨rfl, rfl, trivial⟩ (St.start w) ?_
  refine JC.seq (fun K0 hK0 => ?_)
  refine JC.region ?_
  refine J.box rfl rfl rfl (fun b2 => ?_)
  refine J.box rfl rfl rfl (fun b3 => ?_)
  refine J.assign rfl rfl ?_
  refine J.nil ?_
  refine JX.thenN (hK0 _ _ ?_)
  refine JC.seq (fun K1 hK1 => ?_)
  refine JC.seq (fun K2 hK2 => ?_)
  refine JC.region ?_
  refine J.fieldAddr Ty.fd25_0 rfl rfl ?_
  refine J.loadOA (vs := cI a.who) Ty.a23 Ty.s23 rfl (by repeat first | exact .head _ | apply List.Mem.tail | apply List.mem_append_right) (by exact rfl) rfl rfl ?_
  refine J.fieldAddr Ty.fd25_0 rfl rfl ?_
  refine J.loadOA (vs := cI b.who) Ty.a23 Ty.s23 rfl (by repeat first | exact .head _ | apply List.Mem.tail | apply List.mem_append_right) (by exact rfl) rfl rfl ?_
  refine J.callB (v := .int .i64 (cmpI a.who b.who)) (fun w1 w2 hw hb => hw.step hb) Ty.bd61 rfl rfl (fun w1 hw => compare_spec a.who b.who w1) ?_
  refine J.assign rfl rfl ?_
  refine J.nil ?_
  refine JX.thenN (hK2 _ _ ?_)
  refine JC.seq (fun K3 hK3 => ?_)
  refine JC.region ?_
  refine J.move rfl rfl ?_
  refine J.bin rfl rfl rfl rfl ?_
  refine J.nil ?_
  refine JX.thenN (hK3 _ _ ?_)
  refine JC.cond rfl (fun h0 => ?_) (fun h0 => ?_)
  · skip
    have hne : a.who ≠ b.who := by
      have : cmpI a.who b.who ≠ 0 := by simpa using h0
      exact (cmpI_ne _ _).1 this
    have hres : decide (cmpI a.who b.who < 0) = ltP a b := by
      unfold ltP
      simp [hne, cmpI_lt]
    refine JC.seq (fun K4 hK4 => ?_)
    refine JC.region ?_
    refine J.move rfl rfl ?_
    refine J.bin rfl rfl rfl rfl ?_
    refine J.assign rfl rfl ?_
    refine J.nil ?_
    refine JX.thenN (hK4 _ _ ?_)
    refine JC.ret ?_
    refine JX.thenR ?_
    refine JX.ret1 rfl rfl (fun w hw => ?_)
    exact ⟨by rw [hres], (hw.drop (List.nil_sublist _)).below⟩
  · skip
    have heq : a.who = b.who := by
      apply Classical.byContradiction
      intro h
      have := (cmpI_ne _ _).2 h
      simp [this] at h0
    have hres : decide (a.n < b.n) = ltP a b := by
      unfold ltP
      simp [heq]
    refine JC.skip ?_
    refine JX.thenN (hK1 _ _ ?_)
    refine JC.seq (fun K5 hK5 => ?_)
    refine JC.region ?_
    refine J.fieldAddr Ty.fd25_1 rfl rfl ?_
    refine J.loadO Ty.a2 rfl (by repeat first | exact .head _ | apply List.Mem.tail | apply List.mem_append_right) (by exact rfl) rfl ?_
    refine J.fieldAddr Ty.fd25_1 rfl rfl ?_
    refine J.loadO Ty.a2 rfl (by repeat first | exact .head _ | apply List.Mem.tail | apply List.mem_append_right) (by exact rfl) rfl ?_
    refine J.bin rfl rfl rfl rfl ?_
    refine J.assign rfl rfl ?_
    refine J.nil ?_
    refine JX.thenN (hK5 _ _ ?_)
    refine JC.ret ?_
    refine JX.ret1 rfl rfl (fun w hw => ?_)
    exact ⟨by rw [hres], (hw.drop (List.nil_sublist _)).below⟩

theorem order_spec (a b : PV) (w : World) :
    Calls Try.prog 73 [.agg (cP a).toArray, .agg (cP b).toArray].toArray w fun r w' => r = .returned (.int .i64 (cmpP a b)) ∧ Bel w w' := by
  refine calls_of_J (args := [.agg (cP a).toArray, .agg (cP b).toArray]) (e := [(0, .agg (cP a).toArray), (1, .agg (cP b).toArray)]) Try.func73 rfl rfl ⟨rfl, rfl, trivial⟩ (St.start w) ?_
  refine JC.seq (fun K0 hK0 => ?_)
  refine JC.region ?_
  refine J.box rfl rfl rfl (fun b2 => ?_)
  refine J.box rfl rfl rfl (fun b3 => ?_)
  refine J.assign rfl rfl ?_
  refine J.nil ?_
  refine JX.thenN (hK0 _ _ ?_)
  refine JC.seq (fun K1 hK1 => ?_)
  refine JC.block ?_
  refine JC.seq (fun K2 hK2 => ?_)
  refine JC.region ?_
  refine J.loadOA (vs := cP a) Ty.a25 Ty.s25 rfl (by repeat first | exact .head _ | apply List.Mem.tail | apply List.mem_append_right) (by exact rfl) rfl rfl ?_
  refine J.loadOA (vs := cP b) Ty.a25 Ty.s25 rfl (by repeat first | exact .head _ | apply List.Mem.tail | apply List.mem_append_right) (by exact rfl) rfl rfl ?_
  refine J.callB (v := .bool (ltP a b)) (fun w1 w2 hw hb => hw.step hb) Ty.bd31 rfl rfl (fun w1 hw => tless_spec a b w1) ?_
  refine J.assign rfl rfl ?_
  refine J.nil ?_
  refine JX.thenN (hK2 _ _ ?_)
  refine JC.cond rfl (fun h0 => ?_) (fun h0 => ?_)
  · skip
    have hc0 : ltP a b = true := h0
    refine JC.seq (fun K3 hK3 => ?_)
    refine JC.region ?_
    refine J.assign rfl rfl ?_
    refine J.nil ?_
    refine JX.thenN (hK3 _ _ ?_)
    refine JC.ret ?_
    refine JX.blockR ?_
    refine JX.thenR ?_
    refine JX.ret1 rfl rfl (fun w hw => ?_)
    exact ⟨by simp [cmpP, hc0], (hw.drop (List.nil_sublist _)).below⟩
  · skip
    have hc0 : ltP a b = false := h0
    refine JC.seq (fun K4 hK4 => ?_)
    refine JC.region ?_
    refine J.loadOA (vs := cP b) Ty.a25 Ty.s25 rfl (by repeat first | exact .head _ | apply List.Mem.tail | apply List.mem_append_right) (by exact rfl) rfl rfl ?_
    refine J.loadOA (vs := cP a) Ty.a25 Ty.s25 rfl (by repeat first | exact .head _ | apply List.Mem.tail | apply List.mem_append_right) (by exact rfl) rfl rfl ?_
    refine J.callB (v := .bool (ltP b a)) (fun w1 w2 hw hb => hw.step hb) Ty.bd31 rfl rfl (fun w1 hw => tless_spec b a w1) ?_
    refine J.assign rfl rfl ?_
    refine J.nil ?_
    refine JX.thenN (hK4 _ _ ?_)
    refine JC.cond rfl (fun h1 => ?_) (fun h1 => ?_)
    · skip
      have hc1 : ltP b a = true := h1
      refine JC.seq (fun K5 hK5 => ?_)
      refine JC.region ?_
      refine J.assign rfl rfl ?_
      refine J.nil ?_
      refine JX.thenN (hK5 _ _ ?_)
      refine JC.ret ?_
      refine JX.blockR ?_
      refine JX.thenR ?_
      refine JX.ret1 rfl rfl (fun w hw => ?_)
      exact ⟨by simp [cmpP, hc0, hc1], (hw.drop (List.nil_sublist _)).below⟩
    · skip
      have hc1 : ltP b a = false := h1
      refine JC.skip ?_
      refine JX.blockN ?_
      refine JX.thenN (hK1 _ _ ?_)
      refine JC.seq (fun K6 hK6 => ?_)
      refine JC.region ?_
      refine J.assign rfl rfl ?_
      refine J.nil ?_
      refine JX.thenN (hK6 _ _ ?_)
      refine JC.ret ?_
      refine JX.ret1 rfl rfl (fun w hw => ?_)
      exact ⟨by simp [cmpP, hc0, hc1], (hw.drop (List.nil_sublist _)).below⟩

theorem rless12_spec (a b : PV) (w : World) :
    Calls Try.prog 32 [.agg (cP a).toArray, .agg (cP b).toArray].toArray w fun r w' => r = .returned (.bool (ltP a b)) ∧ Bel w w' := by
  refine calls_of_J (args := [.agg (cP a).toArray, .agg (cP b).toArray]) (e := [(0, .agg (cP a).toArray), (1, .agg (cP b).toArray)]) Try.func32 rfl rfl ⟨rfl, rfl, trivial⟩ (St.start w) ?_
  refine JC.seq (fun K0 hK0 => ?_)
  refine JC.region ?_
  refine J.box rfl rfl rfl (fun b2 => ?_)
  refine J.box rfl rfl rfl (fun b3 => ?_)
  refine J.assign rfl rfl ?_
  refine J.nil ?_
  refine JX.thenN (hK0 _ _ ?_)
  refine JC.seq (fun K1 hK1 => ?_)
  refine JC.seq (fun K2 hK2 => ?_)
  refine JC.region ?_
  refine J.fieldAddr Ty.fd25_0 rfl rfl ?_
  refine J.loadOA (vs := cI a.who) Ty.a23 Ty.s23 rfl (by repeat first | exact .head _ | apply List.Mem.tail | apply List.mem_append_right) (by exact rfl) rfl rfl ?_
  refine J.fieldAddr Ty.fd25_0 rfl rfl ?_
  refine J.loadOA (vs := cI b.who) Ty.a23 Ty.s23 rfl (by repeat first | exact .head _ | apply List.Mem.tail | apply List.mem_append_right) (by exact rfl) rfl rfl ?_
  refine J.neI Ty.QI Ty.keyI rfl rfl rfl ?_
  refine J.nil ?_
  refine JX.thenN (hK2 _ _ ?_)
  refine JC.cond rfl (fun h0 => ?_) (fun h0 => ?_)
  · skip
    have hc0 : a.who ≠ b.who := by simpa using h0
    refine JC.seq (fun K3 hK3 => ?_)
    refine JC.region ?_
    refine J.fieldAddr Ty.fd25_0 rfl rfl ?_
    refine J.loadOA (vs := cI a.who) Ty.a23 Ty.s23 rfl (by repeat first | exact .head _ | apply List.Mem.tail | apply List.mem_append_right) (by exact rfl) rfl rfl ?_
    refine J.fieldAddr Ty.fd25_0 rfl rfl ?_
    refine J.loadOA (vs := cI b.who) Ty.a23 Ty.s23 rfl (by repeat first | exact .head _ | apply List.Mem.tail | apply List.mem_append_right) (by exact rfl) rfl rfl ?_
    refine J.callB (v := .bool (decide (valI a.who < valI b.who))) (fun w1 w2 hw hb => hw.step hb) Ty.bd62 rfl rfl (fun w1 hw => less_spec a.who b.who w1) ?_
    refine J.assign rfl rfl ?_
    refine J.nil ?_
    refine JX.thenN (hK3 _ _ ?_)
    refine JC.ret ?_
    refine JX.thenR ?_
    refine JX.ret1 rfl rfl (fun w hw => ?_)
    exact ⟨by simp [ltP, hc0], (hw.drop (List.nil_sublist _)).below⟩
  · skip
    have hc0 : a.who = b.who := by simpa using h0
    refine JC.skip ?_
    refine JX.thenN (hK1 _ _ ?_)
    refine JC.seq (fun K4 hK4 => ?_)
    refine JC.region ?_
    refine J.fieldAddr Ty.fd25_1 rfl rfl ?_
    refine J.loadO Ty.a2 rfl (by repeat first | exact .head _ | apply List.Mem.tail | apply List.mem_append_right) (by exact rfl) rfl ?_
    refine J.fieldAddr Ty.fd25_1 rfl rfl ?_
    refine J.loadO Ty.a2 rfl (by repeat first | exact .head _ | apply List.Mem.tail | apply List.mem_append_right) (by exact rfl) rfl ?_
    refine J.bin rfl rfl rfl rfl ?_
    refine J.assign rfl rfl ?_
    refine J.nil ?_
    refine JX.thenN (hK4 _ _ ?_)
    refine JC.ret ?_
    refine JX.ret1 rfl rfl (fun w hw => ?_)
    exact ⟨by simp [ltP, hc0], (hw.drop (List.nil_sublist _)).below⟩

theorem sortP_spec (q : Nat) (xs : List PV) (sp : List Value) (cap : Nat) (w : World) (hb : w.heap[q]? = some (cb (fP xs ++ sp) 25)) (hlen : xs.length < 4611686018427387904) :
    Calls Try.prog 77 [.slice (some ⟨q, 0, none⟩) xs.length cap, .func (.func 73) #[] #[]].toArray w fun r w' => ∃ ys : List PV, r = .returned (.tuple #[]) ∧ (ys.Perm xs ∧ ys.Pairwise (fun a b => ltP b a = false)) ∧ St w [q] [(q, cb (fP ys ++ sp) 25)] w' := by
  have hcmp : CmpLays Try.prog 73 #[] cP 17 cmpP q 0 xs.toArray.size w := by
    intro m os dk hd x y
    have h := order_spec x y (sortWorldK cP 17 w q 0 m dk os)
    exact Calls.mono h fun r w' ⟨h1, h2⟩ => ⟨h1, h2.grown⟩
  have hcon := AnyQ.slices_SortFunc_total Try.sortI 17 (fun w => Go.J.run_isAgg Ty.a25 w) (fun w => Go.J.run_sizeOf Ty.s25 w) cP (fun _ => rfl) (fun x v hv => one_cP x v hv) cmpP swo_cmpP 73 #[] q 0 cap xs.toArray w
    (fun args w => run_callFunc Ty.bd73 w) hcmp (holds_fP hb) (lt_of_some hb) (by simpa using hlen) (fun x y h1 h2 => by rw [ltOf_cmpP] at h1 h2; exact ltP_total h1 h2)
  change Calls Try.prog 77 _ _ _ at hcon
  rw [List.size_toArray] at hcon
  refine hcon.mono fun r w' ⟨h1, n, os, h2⟩ => ?_
  refine ⟨xs.mergeSort (fun x y => !(ltOf cmpP) y x), h1, ⟨List.mergeSort_perm _ _, ?_⟩, ?_⟩
  · have := List.pairwise_mergeSort (le := fun x y => !(ltOf cmpP) y x) leP_trans leP_total xs
    refine this.imp fun {a b} h => ?_
    simpa [ltOf_cmpP] using h
  · rw [h2]
    exact sortWorldP_st hb (by simp) n os

end Go.Proofs.Ytpldpkdlloolkaa
/-
  The calculus: ranging over a map; a range over an iterator function, and its rounds. Proved over any program.
-/
namespace Go.J
open Go.RowKit
open Go.ChangeMaps (setBlock)
set_option linter.unusedVariables false
set_option linter.unusedSimpArgs false

/- ranging over a map -/
/-- where an iterator over a map stands: the stamps of the entries that came -/
def IterAt (b : Nat) (es : Array MapEntry) (clock : Nat) (sn : List Nat) (o : Obj) : Prop :=
  ∃ since c0, o = .mapIter (some b) since sn.toArray c0 ∧ since ≤ c0 ∧ since ≤ clock ∧ ∀ x, x ∈ es.toList → x.born < since
/-- it has just handed out an entry -/
def IterOn (b : Nat) (es : Array MapEntry) (clock : Nat) (sn : List Nat) (en : MapEntry) (o : Obj) : Prop :=
  ∃ since, o = .mapIter (some b) since (sn.toArray.push en.born) clock ∧ since ≤ clock ∧ ∀ x, x ∈ es.toList → x.born < since
theorem IterOn.at {b : Nat} {es : Array MapEntry} {clock : Nat} {sn : List Nat} {en : MapEntry} {o : Obj} (h : IterOn b es clock sn en o) : IterAt b es clock (sn ++ [en.born]) o := by
  obtain ⟨since, h1, h2, h3⟩ := h
  exact ⟨since, clock, by rw [h1]; simp, h2, h2, h3⟩
def nextA : Option MapEntry → Array Value
  | none => #[.bool false]
  | some e => #[.bool true, e.key, e.val]
theorem nextA_0 (eo : Option MapEntry) : (nextA eo)[0]? = some (.bool eo.isSome) := by cases eo <;> rfl
/-- what a step of it does -/
def NextTo (b : Nat) (es : Array MapEntry) (clock : Nat) (sn : List Nat) (o : Obj) : Option MapEntry → Obj → Prop
  | none, o' => o' = o ∧ ∀ x, x ∈ es.toList → x.born ∈ sn
  | some en, o' => en ∈ es.toList ∧ en.born ∉ sn ∧ IterOn b es clock sn en o'

section
variable {P : Program} {ops : Array Oper} {Q : Exit → Act → World → Prop} {n : Nat} {e : Env} {I I' : World → Prop} {rest : List Oper}
variable {d t : Nat} {p : String} {af : Array Edge} {x y z : Operand} {v v1 v2 : Value} {w0 : World} {S : List Nat} {l l' : List (Nat × Obj)}

theorem J.range {ty kt et b clock : Nat} {es : Array MapEntry} (hu : P.underlying ty = some (.map kt et)) (hx : ev e x = some (.map (some b))) (hb : ∀ w, St w0 S l w → w.heap[b]? = some (.map es clock))
    (hst : ∀ x, x ∈ es.toList → x.born < clock) (hd : Nat.blt d n = true)
    (h : ∀ r o, IterAt b es clock [] o → J P ops Q n rest ((d, .pointer (some ⟨r, 0, none⟩)) :: e) (St w0 S ((r, o) :: l))) :
    J P ops Q n (⟨some d, .range ty x, t, p, af, none⟩ :: rest) e (St w0 S l) := by
  refine J.valueEx (V := fun r => .pointer (some ⟨r, 0, none⟩)) (I' := fun r => St w0 S ((r, .mapIter (some b) clock #[] clock) :: l)) hd (fun T w ht hw => ⟨w.heap.size, w.alloc (.mapIter (some b) clock #[] clock), ?_, ?_⟩) (fun r => h r _ ⟨clock, clock, rfl, Nat.le_refl _, Nat.le_refl _, hst⟩)
  · simp [execOp, ht.eval hx, run_range_map w ty kt et b es clock hu (hb w hw)]
  · exact hw.new (below_alloc' w _) (Nat.le_refl _) (alloc_at w _)

theorem J.next {b r clock : Nat} {es : Array MapEntry} {sn : List Nat} {o : Obj} {l' : Obj → List (Nat × Obj)} (hx : ev e x = some (.pointer (some ⟨r, 0, none⟩))) (hu : ∀ o', Up l r o o' (l' o')) (hI : IterAt b es clock sn o)
    (hb : ∀ w, St w0 S l w → w.heap[b]? = some (.map es clock)) (hd : Nat.blt d n = true)
    (h : ∀ eo o', NextTo b es clock sn o eo o' → J P ops Q n rest ((d, .tuple (nextA eo)) :: e) (St w0 S (l' o'))) :
    J P ops Q n (⟨some d, .next x false, t, p, af, none⟩ :: rest) e (St w0 S l) := by
  refine J.valueEx (α := Option MapEntry × Obj) (V := fun q => .tuple (nextA q.1)) (I' := fun q w => NextTo b es clock sn o q.1 q.2 ∧ St w0 S (l' q.2) w) hd (fun T w ht hw => ?_) (fun q => J.pr fun hq => h q.1 q.2 hq)
  obtain ⟨since, c0, rfl, h1, h2, h3⟩ := hI
  have hr := hw.own _ (hu (.mapIter (some b) since sn.toArray c0)).mem
  rcases run_next_at (P := P) w t r b since c0 sn.toArray es clock hr (hb w hw) h3 h1 with ⟨h0, hrun⟩ | ⟨en, he, w1, hal, hrun⟩
  · refine ⟨(none, _), w, ?_, ⟨rfl, fun x hx => ?_⟩, hw.set (hu _) rfl rfl rfl (Nat.le_refl _) rfl hr (fun _ _ _ => rfl)⟩
    · simp [execOp, ht.eval hx, hrun, nextA]
    · have := all_seen es sn.toArray h0 x hx
      simpa using this
  · obtain ⟨hem, hes⟩ := mem_left he
    have hw1 : St w0 S l w1 := by
      rcases hal with rfl | rfl
      · exact hw
      · exact hw.step ((Bel.refl w).drew)
    have hr1 := hw1.own _ (hu (.mapIter (some b) since sn.toArray c0)).mem
    refine ⟨(some en, .mapIter (some b) since (sn.toArray.push en.born) clock), setBlock w1 r (.mapIter (some b) since (sn.toArray.push en.born) clock), ?_, ⟨hem, by simpa using hes, since, rfl, h2, h3⟩, hw1.wrote (hu _) (wrote_set hr1)⟩
    simp [execOp, ht.eval hx, hrun, nextA]
theorem J.entry {b r clock : Nat} {es : Array MapEntry} {sn : List Nat} {en : MapEntry} {o : Obj} (hx : ev e x = some (.pointer (some ⟨r, 0, none⟩))) (hm : (r, o) ∈ l) (hI : IterOn b es clock sn en o) (he : en ∈ es.toList) (hn : (es.toList.map (·.born)).Nodup)
    (hb : ∀ w, St w0 S l w → w.heap[b]? = some (.map es clock)) (hd : Nat.blt d n = true)
    (h : J P ops Q n rest ((d, .tuple #[en.key, en.val]) :: e) (St w0 S l)) :
    J P ops Q n (⟨some d, .entry x, t, p, af, none⟩ :: rest) e (St w0 S l) := by
  obtain ⟨since, rfl, h1, h2⟩ := hI
  refine J.value hd (fun T w ht hw => ⟨w, ?_, hw⟩) h
  have hrun := run_entry_at (P := P) w r b since sn.toArray es clock en (hw.own _ hm) (hb w hw) he hn
  simp [execOp, ht.eval hx, hrun]

end
/- taking an entry out of a map -/
section
variable {P : Program} {ops : Array Oper} {Q : Exit → Act → World → Prop} {n : Nat} {e : Env} {I I' : World → Prop} {rest : List Oper}
variable {d t : Nat} {p : String} {af : Array Edge} {x y z : Operand} {v v1 v2 : Value} {w0 : World} {S : List Nat} {l l' : List (Nat × Obj)}
/- operations in a round's frame; yield -/
/-- a call of yield: its run, and the round -/
def YieldTo (F : Fence) (m : Nat) (P : Program) (l : Nat) (args : Array Value) (W : World) (R : Ending → World → Prop) : Prop :=
  ∃ fn tmps assign body, (Instr.yield l args).run P W = .ok (.round l fn tmps assign body) W ∧ RoundIn F m P l fn tmps assign body W R
abbrev FW (r : Option Nat) : Fence := { fn := fun _ => True, depth := none, alive := false, round := r }
theorem calls_fw {r : Option Nat} {m : Nat} {f : FuncId} {args : Array Value} {w : World} {R : Ending → World → Prop} : CallsIn (FW r) m P f args w R ↔ Calls P f args w R :=
  (callsIn_wide (n := m) (P := P) (f := f) (args := args) (w := w) (R := R))
theorem rows_fw {r : Option Nat} {m : Nat} {row : String} {args : Array Value} {w : World} {R : Value → World → Prop} (h : Rows P row args w R) : RowsIn (FW r) m P row args w R :=
  fun c cs _ => let ⟨v, w', r, s⟩ := h c cs; ⟨v, w', r, stepsIn_wide.2 s⟩
def noDefB (o : Oper) : Bool := match o.op with
  | .defer _ => false
  | _ => true
theorem noDefB.ne {o : Oper} (h : noDefB o = true) : ∀ c, o.op ≠ .defer c := by
  intro c hc
  unfold noDefB at h
  rw [hc] at h
  cases h
theorem uponIn_of {r : Option Nat} {m : Nat} {o : Oper} {a : Act} {next next' : Act → World → Prop} {Q Q' : Exit → Act → World → Prop} {res : Result Next} (hn : ∀ a w, next a w → next' a w) (hQ : ∀ x a w, Q x a w → x = .normal)
    (h : o.upon P a next Q res) : o.uponIn (FW r) m P a next' Q' res := by
  match res, h with
  | .ok (.value v) w', h => exact hn _ _ h
  | .ok .skip w', h => exact hn _ _ h
  | .ok (.defer d) w', h => exact hn _ _ h
  | .ok (.enter f args) w', h =>
    refine ⟨(fun h => by cases h), calls_fw.2 (Calls.mono h fun r w'' hr => ?_)⟩
    match r, hr with
    | .returned v, hr => exact hn _ _ hr
    | .panicked c, hr => cases hQ _ _ _ hr
    | .outgrown, hr => obtain ⟨_, _, hr⟩ := hr; cases hQ _ _ _ hr
  | .ok (.row row args) w', h => exact ⟨(fun h => by cases h), rows_fw (Rows.mono h fun v w'' hr => hn _ _ hr)⟩
  | .halt (.panic v) w', h => cases hQ _ _ _ h
theorem wpListIn_of {r : Option Nat} {Q Q' : Exit → Act → World → Prop} (hQ : ∀ x a w, Q x a w → x = .normal) (hk : ∀ a w, Q .normal a w → wpListIn (FW r) 0 P ops Q' rest a w) :
    ∀ {os : List Oper}, os.all noDefB = true → ∀ a w, wpList P ops Q os a w → wpListIn (FW r) 0 P ops Q' (os ++ rest) a w
  | [], _, a, w, h => hk a w h
  | o :: os, hnd, a, w, h => by
    simp only [List.all_cons, Bool.and_eq_true] at hnd
    have ih := wpListIn_of hQ hk hnd.2
    simp only [wpList] at h
    show (if Region.wanted o (yielded ops a.tmps) then o.wpIn (FW r) 0 P a w (wpListIn (FW r) 0 P ops Q' (os ++ rest)) Q' else (∀ f, o.about P w a.eval = some f → (FW r).fn f) ∧ wpListIn (FW r) 0 P ops Q' (os ++ rest) (a.put o.dst undef) w)
    split
    · rename_i hw
      rw [if_pos hw] at h
      rcases h with h | ⟨_, _, _, h⟩
      · refine ⟨fun _ _ => trivial, ?_⟩
        rw [Oper.semAt_eq _ _ _ (noDefB.ne hnd.1)]
        exact uponIn_of ih hQ h
      · cases hQ _ _ _ h
    · rename_i hw
      rw [if_neg hw] at h
      exact ⟨fun _ _ => trivial, ih _ _ h⟩
def QX {α : Type} (n : Nat) (E : α → Env) (I' : α → World → Prop) : Exit → Act → World → Prop := fun x a w => x = .normal ∧ ∃ z, a.defers = [] ∧ Rep n a.tmps (E z) ∧ I' z w
theorem QX.normal {α : Type} {n : Nat} {E : α → Env} {I' : α → World → Prop} : ∀ x a w, QX n E I' x a w → x = .normal := fun _ _ _ h => h.1
def JI (P : Program) (r : Option Nat) (ops : Array Oper) (Q : Exit → Act → World → Prop) (n : Nat) (rest : List Oper) (e : Env) (I : World → Prop) : Prop := ∀ T w, Rep n T e → I w → wpListIn (FW r) 0 P ops Q rest (act T) w
theorem JI.steps {α : Type} {r : Option Nat} {os : List Oper} (E : α → Env) (I' : α → World → Prop) (hnd : os.all noDefB = true) (h1 : J P ops (QX n E I') n os e I) (h2 : ∀ z, JI P r ops Q n rest (E z) (I' z)) : JI P r ops Q n (os ++ rest) e I := by
  intro T w ht hw
  refine wpListIn_of QX.normal (fun a w h => ?_) hnd (act T) w (h1 T w ht hw)
  obtain ⟨_, z, hd, hr, hi⟩ := h
  obtain ⟨t1, d1⟩ := a
  simp only at hd hr
  subst hd
  exact h2 z t1 w hr hi
theorem JI.nil {r : Option Nat} (h : JX Q n .normal e I) : JI P r ops Q n [] e I := fun T w ht hw => h T w ht hw
theorem JX.qx {α : Type} {E : α → Env} {I' : α → World → Prop} (z : α) (hc : Cov e (E z)) (hi : ∀ w, I w → I' z w) : JX (QX n E I') n .normal e I := fun T w ht hw => ⟨rfl, z, rfl, ht.cov hc, hi w hw⟩
theorem JC.regionI {id : Nat} {l : List Oper} (h : JI P none l.toArray Q n l e I) : JC P Q n (.region id l.toArray false) e I :=
  fun T w ht hw => (wpIn_wide (n := 0)).1 (wpIn_region_lit (h T w ht hw))
/-- a call of yield -/
theorem JI.yield {lb : Nat} {xs : List Operand} {ats : Array TypeId} {vs : List Value} {R : Value → World → Prop} (hy : ev e y = some (.func (.yield lb) #[] #[])) (hx : evs e xs = some vs) (hd : Nat.blt d n = true)
    (hc : ∀ w, I w → YieldTo (FW none) 0 P lb vs.toArray w fun r w' => ∃ v, r = .returned v ∧ R v w')
    (h : ∀ v, JI P none ops Q n rest ((d, v) :: e) (R v)) : JI P none ops Q n (⟨some d, .call ⟨.value y, xs.toArray, ats⟩, t, p, af, none⟩ :: rest) e I := by
  intro T w ht hw
  obtain ⟨fn, tmps, assign, body, hyr, hR⟩ := hc w hw
  have hr : (execOp (act T).eval ⟨some d, .call ⟨.value y, xs.toArray, ats⟩, t, p, af, none⟩).run P w = .ok (.round lb fn tmps assign body) w := by
    have := ht.evals hx
    simp [execOp, resolve, ht.eval hy, Deferred.ofValue, invoke, this, hyr]
  show (if Region.wanted _ (yielded ops T) then Oper.wpIn (FW none) 0 P _ (act T) w (wpListIn (FW none) 0 P ops Q rest) Q else _)
  rw [if_pos (by simp [Region.wanted])]
  refine ⟨fun _ _ => trivial, ?_⟩
  rw [Oper.semAt_eq _ _ _ (fun c hc => by cases hc), hr]
  refine ⟨(fun h => by cases h), hR.mono fun r w' ⟨v, hv, hRv⟩ => ?_⟩
  subst hv
  exact h v _ w' (ht.put hd v) hRv
end

/- one round out of its two regions -/
theorem wp_assign_of {α : Type} {P : Program} {r : Option Nat} {n id : Nat} {la : List Oper} {e : Env} {I : World → Prop} {E : α → Env} {I' : α → World → Prop} {Q : Exit → Act → World → Prop} (hnd : la.all noDefB = true) (h1 : J P la.toArray (QX n E I') n la e I)
    {T : Array Value} {w : World} (ht : Rep n T e) (hw : I w) (hk : ∀ z T w, Rep n T (E z) → I' z w → Q .normal (act T) w) : (Code.region id la.toArray false).wpIn (FW r) 0 P Q (act T) w := by
  have h := wpListIn_of (P := P) (ops := la.toArray) (rest := []) (r := r) (Q' := Q) QX.normal (fun a w h => by
    obtain ⟨_, z, hd, hr, hi⟩ := h
    obtain ⟨t1, d1⟩ := a
    simp only at hd hr
    subst hd
    exact hk z t1 w hr hi) hnd (act T) w (h1 T w ht hw)
  rw [List.append_nil] at h
  exact wpIn_region_lit h
theorem roundIn_of_J {α β : Type} {P : Program} {l f n ida idb idc : Nat} {la lb : List Oper} {e : Env} {I : World → Prop} (E1 : α → Env) (I1 I2 : α → World → Prop) (I3 : β → World → Prop) {R : Ending → World → Prop}
    (na : la.all noDefB = true) (nb : lb.all noDefB = true) (h1 : J P la.toArray (QX n E1 I1) n la e I)
    (hb : ∀ z w, I1 z w → ∃ rec, w.heap[l]? = some (.loop rec) ∧ rec.state = .ready ∧ I2 z (w.putObj l (.loop { rec with state := .busy })))
    (h2 : ∀ z, J P lb.toArray (QX n (fun _ : β => []) I3) n lb (E1 z) (I2 z))
    (h3 : ∀ z w, I3 z w → ∃ rec, w.heap[l]? = some (.loop rec) ∧ R (.returned (.bool true)) (w.putObj l (.loop { rec with state := .ready, pending := none })))
    {T : Array Value} {w : World} (ht : Rep n T e) (hw : I w) : RoundIn (FW none) 0 P l f T (.region ida la.toArray false) (.block idb (.region idc lb.toArray false)) w R := by
  refine roundIn_of_wpIn (F := FW none) trivial ?_
  refine wp_assign_of (r := some l) na h1 ht hw fun z T w ht hw => ?_
  obtain ⟨rec, hr1, hr2, hi2⟩ := hb z w hw
  refine ⟨_, run_beginRound hr1 hr2, ?_⟩
  refine wpIn_block (F := FW (some l)) ?_
  refine wp_assign_of (r := some l) nb (h2 z) ht hi2 fun z T w ht hw => ?_
  obtain ⟨rec, hr1, hR⟩ := h3 z w hw
  exact ⟨_, _, run_endRound none hr1, hR⟩

/- the statement; what stands behind it -/
theorem JC.seqRaw {P : Program} {Q : Exit → Act → World → Prop} {n : Nat} {e : Env} {I : World → Prop} {x y : Code} (h : JC P (Exit.then (fun a w => y.wp P Q a w) Q) n x e I) : JC P Q n (.seq x y) e I := fun T w ht hw => wp_seq (h T w ht hw)
def markOf (D : Nat) : List Deferred := [{ target := .collected D, args := #[] }]
theorem JC.rangeF {P : Program} {Q : Exit → Act → World → Prop} {n : Nat} {e : Env} {I : World → Prop} {g : Operand} {f : FuncId} {cs : Array Value} {ps : Array Tmp} {assign body : Code} (hg : ev e g = some (.func (.func f) #[] cs)) (hb : bodyT P f = true)
    (h : ∀ fn T w, Rep n T e → I w → Calls P f (#[.func (.yield (w.heap.size + 1)) #[] #[]] ++ cs) ((w.alloc (.deferred (some []))).alloc (.loop { state := .ready, pending := none, fn, tmps := T, params := ps, assign, body, defers := w.heap.size }))
      (fun r w3 => ∃ v rec, r = .returned v ∧ w3.heap[w.heap.size + 1]? = some (.loop rec) ∧ rec.state = .ready ∧ rec.pending = none ∧ Q .normal ⟨T, markOf w.heap.size⟩ (w3.putObj (w.heap.size + 1) (.loop { rec with state := .exhausted })))) :
    JC P Q n (.rangeFunc g ps assign body) e I := by
  intro T w ht hw
  refine (wpIn_wide (n := 0)).1 (wpIn_rangeFunc (F := Fence.wide) (n := 0) fun fn _ => ?_)
  have hent := run_enterLoop_outer (P := P) (w := w) fn T ps assign body
  have hcall := h fn T w ht hw
  generalize (w.alloc (.deferred (some []))).alloc (.loop { state := .ready, pending := none, fn, tmps := T, params := ps, assign, body, defers := w.heap.size }) = W1 at hent hcall
  refine ⟨w.heap.size + 1, markOf w.heap.size, W1, { target := .fn (.func f) cs, args := #[.func (.yield (w.heap.size + 1)) #[] #[]] }, W1, f, #[.func (.yield (w.heap.size + 1)) #[] #[]] ++ cs, W1, hent, ?_, fun _ _ => trivial, ?_, (fun h => by cases h), ?_⟩
  · have he := ht.eval hg
    have hc : (act T).eval (.const (.func (.yield (w.heap.size + 1)) #[] #[])) = .func (.yield (w.heap.size + 1)) #[] #[] := rfl
    simp [rangeCall, resolve, he, hc, Deferred.ofValue]
  · simp [invoke, run_callFunc hb]
  · refine callsIn_wide.2 (hcall.mono ?_)
    rintro r w3 ⟨v, rec, rfl, hr, hs, hp, hq⟩
    refine ⟨none, _, ?_, hq⟩
    have := run_endLoop (P := P) hr (by rw [hs]; intro h; cases h)
    refine this.trans ?_
    rw [hp]
/-- the same, told by known blocks; the loop's record by its fields -/
structure RecIs (rec : Loop) (fn : FuncId) (T : Array Value) (ps : Array Tmp) (assign body : Code) (D : Nat) : Prop where
  state : rec.state = .ready
  pending : rec.pending = none
  fn : rec.fn = fn
  tmps : rec.tmps = T
  params : rec.params = ps
  assign : rec.assign = assign
  body : rec.body = body
theorem JC.rangeFS {P : Program} {Q : Exit → Act → World → Prop} {n : Nat} {e : Env} {w0 : World} {S : List Nat} {l : List (Nat × Obj)} {g : Operand} {f : FuncId} {cs : Array Value} {ps : Array Tmp} {assign body : Code} (hg : ev e g = some (.func (.func f) #[] cs)) (hb : bodyT P f = true)
    (h : ∀ fn T lb D rec W1, Rep n T e → RecIs rec fn T ps assign body D → St w0 S ((lb, .loop rec) :: (D, .deferred (some [])) :: l) W1 → Calls P f (#[.func (.yield lb) #[] #[]] ++ cs) W1
      (fun r w3 => ∃ v, r = .returned v ∧ w3.heap[lb]? = some (.loop rec) ∧ Q .normal ⟨T, markOf D⟩ (w3.putObj lb (.loop { rec with state := .exhausted })))) :
    JC P Q n (.rangeFunc g ps assign body) e (St w0 S l) := by
  refine JC.rangeF hg hb fun fn T w ht hw => ?_
  have h1 : St w0 S ((w.heap.size, .deferred (some [])) :: l) (w.alloc (.deferred (some []))) := hw.new (below_alloc' w _) (Nat.le_refl _) (alloc_at w _)
  have h2 := h1.new (o := .loop { state := .ready, pending := none, fn := fn, tmps := T, params := ps, assign := assign, body := body, defers := w.heap.size }) (below_alloc' (w.alloc (.deferred (some []))) _) (Nat.le_refl _) (alloc_at _ _)
  rw [show (w.alloc (.deferred (some []))).heap.size = w.heap.size + 1 by simp] at h2
  refine (h fn T (w.heap.size + 1) w.heap.size _ _ ht ⟨rfl, rfl, rfl, rfl, rfl, rfl, rfl⟩ h2).mono ?_
  rintro r w3 ⟨v, rfl, hr, hq⟩
  exact ⟨v, _, rfl, hr, rfl, rfl, hq⟩
theorem wrote_put {w : World} {b : Nat} {o o' : Obj} (hb : w.heap[b]? = some o) : Wrote w (w.putObj b o') b o' := wrote_set hb
theorem zip1 (t : Tmp) (v : Value) (T : Array Value) : ((#[t] : Array Tmp).zip #[v]).foldl (fun tmps (t, a) => tmps.setIfInBounds t a) T = T.setIfInBounds t v := by simp
theorem round1 {F : Fence} {m : Nat} {P : Program} {l f : Nat} {t : Tmp} {v : Value} {T : Array Value} {assign body : Code} {w : World} {R : Ending → World → Prop} (h : RoundIn F m P l f (T.setIfInBounds t v) assign body w R) :
    RoundIn F m P l f (((#[t] : Array Tmp).zip #[v]).foldl (fun tmps (t, a) => tmps.setIfInBounds t a) T) assign body w R := by
  rw [zip1]; exact h
def Act.more (a : Act) (ds : List Deferred) : Act := ⟨a.tmps, a.defers ++ ds⟩
theorem upon_more {P : Program} {o : Oper} {a : Act} {ds : List Deferred} {next next' : Act → World → Prop} {Q Q' : Exit → Act → World → Prop} {res : Result Next} (hn : ∀ a w, next a w → next' (Act.more a ds) w) (hQ : ∀ x a w, Q x a w → x = .normal)
    (h : o.upon P a next Q res) : o.upon P (Act.more a ds) next' Q' res := by
  have put : ∀ (dst : Option Tmp) (v : Value), (Act.more a ds).put dst v = Act.more (a.put dst v) ds := fun dst v => by cases dst <;> rfl
  match res, h with
  | .ok (.value v) w', h => show next' _ _; rw [put]; exact hn _ _ h
  | .ok .skip w', h => show next' _ _; rw [put]; exact hn _ _ h
  | .ok (.defer d) w', h =>
    show next' _ _
    have : (({ (Act.more a ds) with defers := d :: (Act.more a ds).defers } : Act).put o.dst undef) = Act.more (({ a with defers := d :: a.defers } : Act).put o.dst undef) ds := by cases o.dst <;> rfl
    rw [this]; exact hn _ _ h
  | .ok (.enter f args) w', h =>
    refine Calls.mono h fun r w'' hr => ?_
    match r, hr with
    | .returned v, hr => show next' _ _; rw [put]; exact hn _ _ hr
    | .panicked c, hr => cases hQ _ _ _ hr
    | .outgrown, hr => obtain ⟨_, _, hr⟩ := hr; cases hQ _ _ _ hr
  | .ok (.row row args) w', h => exact Rows.mono h fun v w'' hr => by show next' _ _; rw [put]; exact hn _ _ hr
  | .halt (.panic v) w', h => cases hQ _ _ _ h
theorem wpList_more {P : Program} {ops : Array Oper} {ds : List Deferred} {Q Q' : Exit → Act → World → Prop} (hQ : ∀ x a w, Q x a w → x = .normal) (hk : ∀ a w, Q .normal a w → Q' .normal (Act.more a ds) w) :
    ∀ {os : List Oper} (a : Act) (w : World), wpList P ops Q os a w → wpList P ops Q' os (Act.more a ds) w
  | [], a, w, h => hk a w h
  | o :: os, a, w, h => by
    have ih := wpList_more (P := P) (ops := ops) hQ hk (os := os)
    simp only [wpList] at h ⊢
    show (if Region.wanted o (yielded ops a.tmps) then o.wp P (Act.more a ds) w (wpList P ops Q' os) Q' ∨ _ else _)
    split
    · rename_i hw
      rw [if_pos hw] at h
      rcases h with h | ⟨_, _, _, h⟩
      · exact .inl (upon_more ih hQ h)
      · cases hQ _ _ _ h
    · rename_i hw
      rw [if_neg hw] at h
      have : (Act.more a ds).put o.dst undef = Act.more (a.put o.dst undef) ds := by cases o.dst <;> rfl
      rw [this]
      exact ih _ _ h
/-- a region behind the statement: a mark waits among the deferred calls -/
theorem wp_region_more {α : Type} {P : Program} {n id : Nat} {la : List Oper} {e : Env} {I : World → Prop} {E : α → Env} {I' : α → World → Prop} {ds : List Deferred} {Q : Exit → Act → World → Prop} (h1 : J P la.toArray (QX n E I') n la e I)
    {T : Array Value} {w : World} (ht : Rep n T e) (hw : I w) (hk : ∀ z T w, Rep n T (E z) → I' z w → Q .normal ⟨T, ds⟩ w) : (Code.region id la.toArray false).wp P Q ⟨T, ds⟩ w := by
  refine wp_region_lit ?_
  have := wpList_more (ds := ds) (Q' := Q) QX.normal (fun a w h => by
    obtain ⟨_, z, hd, hr, hi⟩ := h
    obtain ⟨t1, d1⟩ := a
    simp only at hd hr
    subst hd
    exact hk z t1 w hr hi) (act T) w (h1 T w ht hw)
  exact this
theorem calls_of_JM {P : Program} {f : FuncId} {fn : Func} {c : Code} {args : List Value} {w0 w : World} {S : List Nat} {l : List (Nat × Obj)} {R : Ending → World → Prop} {e : Env}
    (hf : P.funcs[f]? = some fn) (hb : fn.body = some c) (hn : Nat.ble args.length fn.ntmps = true) (he : Cov ((List.range args.length).zip args) e) (hst : St w0 S l w)
    (h : JC P (bodyPostM Fence.wide 0 P fn R) fn.ntmps c e (St w0 S l)) : Calls P f args.toArray w R := by
  refine callsIn_wide.1 (callsIn_of_wp_marks (F := Fence.wide) (n := 0) hf hb trivial ((wpIn_wide (n := 0)).2 ?_))
  have hn' : args.length ≤ fn.ntmps := Nat.le_of_ble_eq_true hn
  refine h _ w (Rep.cov ⟨by simp; omega, fun t v hv => ?_⟩ he) hst
  have key : ∀ (l : List Value) (k : Nat), get ((List.range' k l.length).zip l) t = some v → k ≤ t ∧ l[t - k]? = some v := by
    intro l
    induction l with
    | nil => intro k h; simp [J.get] at h
    | cons u l ih =>
      intro k h
      simp only [List.length_cons, List.range'_succ, List.zip_cons_cons, J.get] at h
      cases hk : Nat.beq k t with
      | true =>
        rw [hk] at h
        have : k = t := by simpa using hk
        subst this
        simpa using h
      | false =>
        rw [hk] at h
        obtain ⟨h1, h2⟩ := ih (k + 1) h
        refine ⟨by omega, ?_⟩
        rw [show t - k = (t - (k + 1)) + 1 by omega]
        simpa using h2
  rw [List.range_eq_range'] at hv
  obtain ⟨_, h2⟩ := key args 0 hv
  simp only [Nat.sub_zero] at h2
  have hlt : t < args.length := (List.getElem?_eq_some_iff.1 h2).1
  rw [Array.getElem?_append_left (by simpa using hlt)]
  simpa using h2
end Go.J
/-
  maps.Keys at paths: its iterator; slices.AppendSeq, Collect, SortedFunc: contracts.
-/
namespace Go.Proofs.Ytpldpkdlloolkaa
open Go.J Go.RowKit
set_option linter.unusedVariables false
set_option linter.unusedSimpArgs false
set_option maxRecDepth 4000
theorem nodup_len : ∀ {l m : List Nat}, l.Nodup → (∀ x, x ∈ l → x ∈ m) → l.length ≤ m.length
  | [], m, _, _ => Nat.zero_le _
  | a :: l, m, h, hs => by
    have h' := List.nodup_cons.1 h
    have ha := hs a (.head _)
    have := nodup_len (l := l) (m := m.erase a) h'.2 (fun x hx => (List.mem_erase_of_ne (fun e => h'.1 (by rw [← e]; exact hx))).2 (hs x (.tail _ hx)))
    rw [List.length_erase_of_mem ha] at this
    have : 0 < m.length := List.length_pos_of_mem ha
    simp only [List.length_cons]
    omega
theorem done_perm {es done : List MapEntry} (hn : (es.map (·.born)).Nodup) (hd : (done.map (·.born)).Nodup) (h1 : ∀ x, x ∈ done → x ∈ es) (h2 : ∀ x, x ∈ es → x.born ∈ done.map (·.born)) : done.Perm es := by
  have nd : ∀ {l : List MapEntry}, (l.map (·.born)).Nodup → l.Nodup := fun h => (List.pairwise_map.1 h).imp fun h e => h (by rw [e])
  refine (List.perm_ext_iff_of_nodup (nd hd) (nd hn)).2 fun x => ⟨h1 x, fun hx => ?_⟩
  obtain ⟨y, hy, he⟩ := List.mem_map.1 (h2 x hx)
  have : y = x := by
    apply Classical.byContradiction
    intro hne
    have hp := List.pairwise_map.1 hn
    obtain ⟨i, hi, rfl⟩ := List.getElem_of_mem (h1 y hy)
    obtain ⟨j, hj, rfl⟩ := List.getElem_of_mem hx
    rw [List.pairwise_iff_getElem] at hp
    rcases Nat.lt_trichotomy i j with h | h | h
    · exact hp i j hi hj h he
    · subst h; exact hne rfl
    · exact hp j i hj hi h he.symm
  rw [← this]
  exact hy
structure KS where
  done : List MapEntry
  o : Obj
  lst : List (Nat × Obj)
open Classical in
/-- the path that is an entry's key -/
noncomputable def kpv (en : MapEntry) : PV := if h : ∃ p : PV, en.key = .agg (cP p).toArray then h.choose else zP
theorem kpv_spec {en : MapEntry} (h : ∃ p : PV, en.key = .agg (cP p).toArray) : en.key = .agg (cP (kpv en)).toArray := by
  unfold kpv
  rw [dif_pos h]
  exact h.choose_spec

theorem keys1_spec (lb Bm b clock : Nat) (es : Array MapEntry) (Inv : List MapEntry → List (Nat × Obj) → Prop) (lst0 : List (Nat × Obj)) (w : World)
    (hst : MapKept.Stamped es clock) (hkey : ∀ en, en ∈ es.toList → ∃ p : PV, en.key = .agg (cP p).toArray)
    (hm : w.heap[Bm]? = some (cb [.map (some b)] 99)) (hb : w.heap[b]? = some (.map es clock)) (hBm : Bm ∉ lst0.map (·.1)) (hbm : b ∉ lst0.map (·.1)) (h0 : Own w lst0) (hI0 : Inv [] lst0)
    (hY : ∀ pre en lst W1, en ∈ es.toList → pre.length < es.size → Inv pre lst → Own W1 lst → YieldTo (FW none) 0 Try.prog lb #[en.key] W1 fun r w' => r = .returned (.bool true) ∧ ∃ lst', Inv (pre ++ [en]) lst' ∧ St W1 (lst.map (·.1)) lst' w') :
    Calls Try.prog 78 [.func (.yield lb) #[] #[], .pointer (some ⟨Bm, 0, none⟩)].toArray w fun r w' => ∃ v done lst', r = .returned v ∧ done.Perm es.toList ∧ Inv done lst' ∧ St w (lst0.map (·.1)) lst' w' := by
  have hstamp := (MapKept.stamped_iff es clock).1 hst
  have hh0 := h0
  clear h0
  refine calls_of_J (args := [.func (.yield lb) #[] #[], .pointer (some ⟨Bm, 0, none⟩)]) (e := [(0, .func (.yield lb) #[] #[]), (1, .pointer (some ⟨Bm, 0, none⟩))]) Try.func78 rfl rfl ⟨rfl, rfl, trivial⟩ (hh0.st) ?_
  refine JC.seq (fun K0 hK0 => ?_)
  refine JC.region ?_
  refine J.load1 (v := .map (some b)) Ty.a99 rfl (fun w1 hw => by rw [cell_of (by rw [hw.keep Bm (lt_of_some hm) hBm]; exact hm)]; rfl) rfl ?_
  refine J.range Ty.u99 rfl (fun w1 hw => by rw [hw.keep b (lt_of_some hb) hbm]; exact hb) hstamp.1 rfl (fun r0 o0 ho0 => ?_)
  refine J.nil ?_
  refine JX.thenN (hK0 _ _ ?_)
  refine JC.block ?_
  refine JC.conseq (JC.cov (f := (fun st => [(0, .func (.yield lb) #[] #[]), (1, .pointer (some ⟨Bm, 0, none⟩)), (5, .pointer (some ⟨r0, 0, none⟩))]) (⟨[], o0, lst0⟩ : KS)) ⟨rfl, rfl, rfl, trivial⟩ (JC.loop (α := KS) (fun st => [(0, .func (.yield lb) #[] #[]), (1, .pointer (some ⟨Bm, 0, none⟩)), (5, .pointer (some ⟨r0, 0, none⟩))]) (fun st w' => (IterAt b es clock (st.done.map (·.born)) st.o ∧ (∀ x, x ∈ st.done → x ∈ es.toList) ∧ (st.done.map (·.born)).Nodup ∧ Inv st.done st.lst) ∧ St w (lst0.map (·.1)) ((r0, st.o) :: st.lst) w') (fun st => es.size - st.done.length) (⟨[], o0, lst0⟩ : KS) (fun st => ?_))) (fun w hw => ⟨⟨ho0, by simp, .nil, hI0⟩, hw⟩)
  obtain ⟨done, o, lst⟩ := st
  simp only
  refine JC.pr (fun hx => ?_)
  obtain ⟨hit, hsub, hnd, hInv⟩ := hx
  refine JC.seq (fun K1 hK1 => ?_)
  refine JC.region ?_
  refine J.next (l' := fun o1 => (r0, o1) :: lst) rfl (fun _ => .here) hit (fun w1 hw => by rw [hw.keep b (lt_of_some hb) hbm]; exact hb) rfl (fun eo o1 hN => ?_)
  refine J.extract rfl (nextA_0 eo) rfl ?_
  refine J.nil ?_
  refine JX.thenN (hK1 _ _ ?_)
  refine JC.seq (fun K2 hK2 => ?_)
  refine JC.cond rfl (fun h0 => ?_) (fun h0 => ?_)
  · skip
    obtain ⟨en, rfl⟩ := Option.isSome_iff_exists.1 h0
    obtain ⟨hem, hnb, hon⟩ := hN
    obtain ⟨p, hp⟩ := hkey en hem
    have hlen : done.length + 1 ≤ es.size := by
      have h := nodup_len (l := (done ++ [en]).map (·.born)) (m := es.toList.map (·.born)) (by rw [List.map_append]; exact List.nodup_append.2 ⟨hnd, by simp, fun a ha b hb e => hnb (by simp at hb; rw [← hb, ← e]; exact ha)⟩) (fun x hx => by
        obtain ⟨y, hy, rfl⟩ := List.mem_map.1 hx
        refine List.mem_map.2 ⟨y, ?_, rfl⟩
        exact (List.mem_append.1 hy).elim (hsub y) (fun h => by rw [List.mem_singleton.1 h]; exact hem))
      simpa using h
    refine JC.skip ?_
    refine JX.thenN (hK2 _ _ ?_)
    refine JC.block ?_
    refine JC.seq (fun K3 hK3 => ?_)
    refine JC.region ?_
    refine J.entry rfl (.head _) hon hem hstamp.2.1 (fun w1 hw => by rw [hw.keep b (lt_of_some hb) hbm]; exact hb) rfl ?_
    refine J.extract rfl rfl rfl ?_
    refine J.name 9 rfl hp ?_
    refine J.alloc Ty.z25 rfl rfl (fun b3 => ?_)
    refine J.storeW (cs := cP zP) (vs := cP p) Ty.s25 rfl rfl rfl rfl rfl (one_cP p) .here ?_
    refine J.nil ?_
    refine JX.thenN (hK3 _ _ ?_)
    refine JC.seq (fun K4 hK4 => ?_)
    refine JC.regionI ?_
    refine JI.steps (α := Unit) (os := [_, _]) (rest := [_, _]) (fun _ => [(0, .func (.yield lb) #[] #[]), (1, .pointer (some ⟨Bm, 0, none⟩)), (5, .pointer (some ⟨r0, 0, none⟩)), (10, .func (.yield lb) #[] #[]), (11, .agg (cP p).toArray)]) (fun _ => St w (lst0.map (·.1)) ((b3, cb (cP p) 25) :: (r0, o1) :: lst)) rfl ?_ (fun _ => ?_)
    · refine J.move rfl rfl ?_
      refine J.loadOA (vs := cP p) Ty.a25 Ty.s25 rfl (.head _) rfl rfl rfl ?_
      exact J.nil (JX.qx () ⟨rfl, rfl, rfl, rfl, rfl, trivial⟩ (fun w1 hw => hw))
    refine JI.yield (vs := [.agg (cP p).toArray]) (R := fun v w' => ∃ lst', (v = .bool true ∧ Inv (done ++ [en]) lst') ∧ St w (lst0.map (·.1)) ((b3, cb (cP p) 25) :: (r0, o1) :: lst') w') rfl rfl rfl (fun w2 hw => ?_) (fun v => ?_)
    · have hw' : St w (lst0.map (·.1)) (lst ++ [(b3, cb (cP p) 25), (r0, o1)]) w2 := hw.perm (by (refine perm_cnt (fun _ => ?_)); simp only [cntB_append, cntB_cons, cntB_nil, Nat.add_zero, Nat.zero_add]; try ac_rfl)
      obtain ⟨fn1, T1, as1, bd1, hy1, hy2⟩ := hY done en lst w2 hem (by omega) hInv hw'.owns
      rw [hp] at hy1
      refine ⟨fn1, T1, as1, bd1, hy1, hy2.mono ?_⟩
      rintro e1 w1 ⟨rfl, lst', hi', hst'⟩
      exact ⟨_, rfl, lst', ⟨rfl, hi'⟩, (hw'.call hst').perm (by (refine perm_cnt (fun _ => ?_)); simp only [cntB_append, cntB_cons, cntB_nil, Nat.add_zero, Nat.zero_add]; try ac_rfl)⟩
    refine JI.steps (α := List (Nat × Obj)) (os := [_]) (rest := []) (fun _ => [(0, .func (.yield lb) #[] #[]), (1, .pointer (some ⟨Bm, 0, none⟩)), (5, .pointer (some ⟨r0, 0, none⟩)), (13, .bool false)]) (fun lst' w' => Inv (done ++ [en]) lst' ∧ St w (lst0.map (·.1)) ((b3, cb (cP p) 25) :: (r0, o1) :: lst') w') rfl ?_ (fun lst' => JI.nil ?_)
    · refine J.ex fun lst' => J.pr fun hv => ?_
      obtain ⟨rfl, hi'⟩ := hv
      refine J.not rfl rfl ?_
      exact J.nil (JX.qx lst' ⟨rfl, rfl, rfl, rfl, trivial⟩ (fun w1 hw => ⟨hi', hw⟩))
    refine JX.pr fun hi' => ?_
    refine JX.thenN (hK4 _ _ ?_)
    first | refine JC.condF rfl ?_ | refine JC.cond rfl (fun h => by first | (exfalso; simp at h; omega) | (simp at h)) (fun _ => ?_)
    refine JC.skip ?_
    refine JX.blockN ?_
    refine JX.thenN ?_
    refine JX.again (⟨done ++ [en], o1, lst'⟩ : KS) ?_ ?_ ?_
    · simp only [List.length_append, List.length_singleton]; omega
    · exact ⟨rfl, rfl, rfl, trivial⟩
    · exact fun w1 hw => ⟨⟨by rw [List.map_append]; exact hon.at, fun x hx => (List.mem_append.1 hx).elim (hsub x) (fun h => by rw [List.mem_singleton.1 h]; exact hem), by rw [List.map_append]; exact List.nodup_append.2 ⟨hnd, by simp, fun a ha b hb e => hnb (by simp at hb; rw [← hb, ← e]; exact ha)⟩, hi'⟩, hw.drop (List.sublist_cons_self _ _)⟩
  · skip
    have hnone : eo = none := by cases eo with | none => rfl | some e => cases h0
    subst hnone
    obtain ⟨rfl, hall⟩ := hN
    have hperm := done_perm hstamp.2.1 hnd hsub hall
    refine JC.exit ?_
    refine JX.thenE ?_
    refine JX.thenE ?_
    refine JX.blockE ?_
    refine JX.end0 rfl (fun w1 hw => ?_)
    exact ⟨_, done, lst, rfl, hperm, hInv, hw.drop (List.sublist_cons_self _ _)⟩

end Go.Proofs.Ytpldpkdlloolkaa
/-
  slices.AppendSeq and Collect of maps.Keys at paths; slices.SortedFunc: contracts.
-/
namespace Go.Proofs.Ytpldpkdlloolkaa
open Go.J Go.RowKit
set_option linter.unusedVariables false
set_option linter.unusedSimpArgs false
open Go.Sort Go.Shelf
set_option maxRecDepth 4000
theorem vecP {v : Value} {xs : List PV} {lp : List (Nat × Obj)} (h : Vec 25 17 v xs.length (fP xs) lp) : (v = .slice none 0 0 ∧ xs = [] ∧ lp = []) ∨ ∃ b c sp, v = .slice (some ⟨b, 0, none⟩) xs.length c ∧ lp = [(b, cb (fP xs ++ sp) 25)] ∧ (fP xs ++ sp).length = c * 17 ∧ xs.length ≤ c := by
  rcases h.2 with ⟨h1, h2, h3⟩ | h
  · exact .inl ⟨h1, List.eq_nil_of_length_eq_zero h2, h3⟩
  · exact .inr h
theorem vecP_mk {xs : List PV} {b c : Nat} {sp : List Value} (h1 : (fP xs ++ sp).length = c * 17) : Vec 25 17 (.slice (some ⟨b, 0, none⟩) xs.length c) xs.length (fP xs) [(b, cb (fP xs ++ sp) 25)] := by
  refine ⟨fP_length xs, .inr ⟨b, c, sp, rfl, rfl, h1, ?_⟩⟩
  rw [List.length_append, fP_length] at h1
  omega
theorem fP_append (xs ys : List PV) : fP (xs ++ ys) = fP xs ++ fP ys := by simp [fP]
/-- what the rounds keep: the box, the loop's record, the block for deferred calls, the row -/
def AppInv (Bs l D : Nat) (rec : Loop) (ss : List MapEntry) (lst : List (Nat × Obj)) : Prop :=
  ∃ v lp, Vec 25 17 v (ss.map kpv).length (fP (ss.map kpv)) lp ∧ lst = (Bs, cb [v] 142) :: (l, .loop rec) :: (D, .deferred (some [])) :: lp

theorem St.notin {w0 w : World} {l : List (Nat × Obj)} (h : St w0 [] l w) {b : Nat} (hb : b < w0.heap.size) : b ∉ l.map (·.1) := fun hm => by
  obtain ⟨q, hq, he⟩ := List.mem_map.1 hm
  rcases h.apart q hq with h1 | h1
  · cases h1
  · omega
theorem rec_back {rec : Loop} (h1 : rec.state = .ready) (h2 : rec.pending = none) : ({ ({ rec with state := .busy } : Loop) with state := .ready, pending := none } : Loop) = rec := by
  cases rec
  simp only at h1 h2
  subst h1
  subst h2
  rfl

theorem appendSeq_spec (Bm b clock : Nat) (es : Array MapEntry) (w : World) (hst : MapKept.Stamped es clock) (hkey : ∀ en, en ∈ es.toList → ∃ p : PV, en.key = .agg (cP p).toArray) (hm : w.heap[Bm]? = some (cb [.map (some b)] 99)) (hb : w.heap[b]? = some (.map es clock)) (hn : es.size ≤ 1099511627776) :
    Calls Try.prog 80 [.slice none 0 0, .func (.func 78) #[] #[.pointer (some ⟨Bm, 0, none⟩)]].toArray w fun r w' => ∃ x : List MapEntry × Value × List (Nat × Obj), r = .returned x.2.1 ∧ (x.1.Perm es.toList ∧ Vec 25 17 x.2.1 x.1.length (fP (x.1.map kpv)) x.2.2) ∧ St w [] x.2.2 w' := by
  refine calls_of_JM (args := [.slice none 0 0, .func (.func 78) #[] #[.pointer (some ⟨Bm, 0, none⟩)]]) (e := [(0, .slice none 0 0), (1, .func (.func 78) #[] #[.pointer (some ⟨Bm, 0, none⟩)])]) Try.func80 rfl rfl ⟨rfl, rfl, trivial⟩ (St.start w) ?_
  refine JC.seq (fun K0 hK0 => ?_)
  refine JC.region ?_
  refine J.box rfl rfl rfl (fun b2 => ?_)
  refine J.assign rfl rfl ?_
  refine J.nil ?_
  refine JX.thenN (hK0 _ _ ?_)
  refine JC.seqRaw ?_
  refine JC.seq (fun K2 hK2 => ?_)
  refine JC.region ?_
  refine J.move rfl rfl ?_
  refine J.nil ?_
  refine JX.thenN (hK2 _ _ ?_)
  refine JC.block ?_
  refine JC.rangeFS rfl Ty.bd78 ?_
  intro fn T lb Dd rec W1 hT hrec hW1
  have hst1 : St w [] ([(b2, cb [.slice none 0 0] 142), (lb, .loop rec), (Dd, .deferred (some []))] ++ []) W1 := hW1.perm (by (refine perm_cnt (fun _ => ?_)); simp only [cntB_append, cntB_cons, cntB_nil, Nat.add_zero, Nat.zero_add]; try ac_rfl)
  refine Calls.mono (keys1_spec lb Bm b clock es (AppInv b2 lb Dd rec) [(b2, cb [.slice none 0 0] 142), (lb, .loop rec), (Dd, .deferred (some []))] W1 hst hkey (by rw [hst1.keep Bm (lt_of_some hm) (by simp)]; exact hm) (by rw [hst1.keep b (lt_of_some hb) (by simp)]; exact hb) (St.notin (l := [(b2, cb [.slice none 0 0] 142), (lb, .loop rec), (Dd, .deferred (some []))]) hst1 (lt_of_some hm)) (St.notin (l := [(b2, cb [.slice none 0 0] 142), (lb, .loop rec), (Dd, .deferred (some []))]) hst1 (lt_of_some hb)) hst1.owns ⟨.slice none 0 0, [], Vec.nil _ _, rfl⟩ ?_) ?_
  · intro pre en lst W2 hem hlen hInv hown
    obtain ⟨v, lp, hv, rfl⟩ := hInv
    have hpk := kpv_spec (hkey en hem)
    obtain ⟨p, hp⟩ : ∃ p, kpv en = p := ⟨_, rfl⟩
    rw [hp] at hpk
    refine ⟨rec.fn, _, rec.assign, rec.body, run_yield (hown.own _ (.tail _ (.head _))) (by rw [hrec.params]; rfl), ?_⟩
    rw [hrec.assign, hrec.body, hrec.params, hrec.tmps, hpk]
    refine round1 ?_
    have hT7 := (hT.put (d := 7) rfl (.agg (cP p).toArray)).cov (f := [(7, .agg (cP p).toArray), (2, .pointer (some ⟨b2, 0, none⟩))]) ⟨rfl, rfl, trivial⟩
    refine roundIn_of_J (α := Nat) (β := Value × List (Nat × Obj)) (I := St W2 (((b2, cb [v] 142) :: (lb, .loop rec) :: (Dd, .deferred (some [])) :: lp).map (·.1)) ((b2, cb [v] 142) :: (lb, .loop rec) :: (Dd, .deferred (some [])) :: lp)) (fun b5 => [(2, .pointer (some ⟨b2, 0, none⟩)), (5, .pointer (some ⟨b5, 0, none⟩))])
      (fun b5 => St W2 (((b2, cb [v] 142) :: (lb, .loop rec) :: (Dd, .deferred (some [])) :: lp).map (·.1)) ((b5, cb (cP p) 25) :: (b2, cb [v] 142) :: (lb, .loop rec) :: (Dd, .deferred (some [])) :: lp)) (fun b5 => St W2 (((b2, cb [v] 142) :: (lb, .loop rec) :: (Dd, .deferred (some [])) :: lp).map (·.1)) ((b5, cb (cP p) 25) :: (b2, cb [v] 142) :: (lb, .loop { rec with state := .busy }) :: (Dd, .deferred (some [])) :: lp))
      (fun z w1 => Vec 25 17 z.1 ((pre ++ [en]).map kpv).length (fP ((pre ++ [en]).map kpv)) z.2 ∧ St W2 (((b2, cb [v] 142) :: (lb, .loop rec) :: (Dd, .deferred (some [])) :: lp).map (·.1)) ((b2, cb [z.1] 142) :: (lb, .loop { rec with state := .busy }) :: (Dd, .deferred (some [])) :: z.2) w1) rfl rfl ?_ ?_ ?_ ?_ hT7 hown.st
    · refine J.alloc Ty.z25 rfl rfl (fun b5 => ?_)
      refine J.storeW (cs := cP zP) (vs := cP p) Ty.s25 rfl rfl rfl rfl rfl (one_cP p) .here ?_
      exact J.nil (JX.qx b5 ⟨rfl, rfl, trivial⟩ (fun w1 hw => hw))
    · intro b5 w1 hw
      exact ⟨rec, hw.own _ (.tail _ (.tail _ (.head _))), hrec.state, hw.wrote (.there (.there .here)) (wrote_put (hw.own _ (.tail _ (.tail _ (.head _)))))⟩
    · intro b5
      refine J.loadO (v := v) Ty.a142 rfl (.tail _ (.head _)) rfl rfl ?_
      refine J.loadOA (vs := cP p) Ty.a25 Ty.s25 rfl (.head _) rfl rfl rfl ?_
      refine J.buildSl (cs := cP p) Ty.el142 Ty.s25 Ty.z25 rfl rfl rfl rfl (by kernel_rfl) rfl rfl (fun b10 => ?_)
      refine J.perm (lp ++ [(b10, cb (cP p) 25), (b5, cb (cP p) 25), (b2, cb [v] 142), (lb, .loop { rec with state := .busy }), (Dd, .deferred (some []))]) (by (refine perm_cnt (fun _ => ?_)); simp only [cntB_append, cntB_cons, cntB_nil, Nat.add_zero, Nat.zero_add]; try ac_rfl) ?_
      have hpl : (pre.map kpv).length < es.size := by rw [List.length_map]; exact hlen
      refine J.append (lp := lp) (xs := fP (pre.map kpv)) (ys := cP p) (k := (pre.map kpv).length) (m := 1) Ty.el142 Ty.s25 Ty.b25 Ty.z25 rfl (.inl ⟨25, Ty.u142⟩) rfl rfl hv (fun w3 hw3 => .inl (Row.own hw3 (List.mem_append_right _ (.head _)) rfl (Nat.le_refl _))) rfl (one_cP p) (by omega) (by omega) rfl (fun v2 lp2 hv2 => ?_)
      obtain ⟨a2, c2, rfl, hc2⟩ := hv2.form
      refine J.perm ((b2, cb [v] 142) :: (lb, .loop { rec with state := .busy }) :: (Dd, .deferred (some [])) :: (lp2 ++ [(b10, cb (cP p) 25), (b5, cb (cP p) 25)])) (by (refine perm_cnt (fun _ => ?_)); simp only [cntB_append, cntB_cons, cntB_nil, Nat.add_zero, Nat.zero_add]; try ac_rfl) ?_
      refine J.storeO (cs := [v]) (vs := [.slice a2 ((pre.map kpv).length + 1) c2]) Ty.s142 rfl rfl rfl rfl (by simp [Value.oneCell']) .here (by simp) ?_
      refine J.nil (JX.qx (.slice a2 ((pre.map kpv).length + 1) c2, lp2) trivial (fun w1 hw => ⟨?_, hw.drop (.cons_cons _ (.cons_cons _ (.cons_cons _ (List.sublist_append_left _ _))))⟩))
      rw [List.map_append, List.length_append, fP_append, List.map_cons, List.map_nil, hp]
      simpa [fP] using hv2
    · rintro ⟨v2, lp2⟩ w1 ⟨hv2, hw⟩
      refine ⟨{ rec with state := .busy }, hw.own _ (.tail _ (.head _)), rfl, _, ⟨v2, lp2, hv2, rfl⟩, ?_⟩
      have h := hw.wrote (.there .here) (wrote_put (o' := .loop { ({ rec with state := .busy } : Loop) with state := .ready, pending := none }) (hw.own _ (.tail _ (.head _))))
      rw [rec_back hrec.state hrec.pending] at h ⊢
      exact h
  · rintro r w3 ⟨v0, done, lst', rfl, hperm, ⟨v, lp, hv, rfl⟩, hst3⟩
    have hst4 := hst1.call hst3
    rw [List.append_nil] at hst4
    refine ⟨v0, rfl, hst4.own _ (.tail _ (.head _)), ?_⟩
    have hst5 := hst4.wrote (.there .here) (wrote_put (o' := .loop { rec with state := .exhausted }) (hst4.own _ (.tail _ (.head _))))
    show (Code.seq _ _).wp _ _ _ _
    refine wp_seq (wp_region_more (α := Unit) (e := [(2, .pointer (some ⟨b2, 0, none⟩))]) (I := St w [] ((b2, cb [v] 142) :: (lb, .loop { rec with state := .exhausted }) :: (Dd, .deferred (some [])) :: lp)) (E := fun _ => [(4, v)]) (I' := fun _ => St w [] ((b2, cb [v] 142) :: (lb, .loop { rec with state := .exhausted }) :: (Dd, .deferred (some [])) :: lp)) ?_ (hT.cov ⟨rfl, trivial⟩) hst5 (fun _ T2 w5 hT2 hw5 => wp_ret ?_))
    · refine J.loadO (v := v) Ty.a142 rfl (.head _) rfl rfl ?_
      refine J.assign rfl rfl ?_
      exact J.nil (JX.qx () ⟨rfl, trivial⟩ (fun w1 hw => hw))
    · refine ⟨by simp, .inl ⟨Dd, _, rfl, run_takeDeferred (hw5.own _ (.tail _ (.tail _ (.head _)))), ?_⟩⟩
      have hst6 := hw5.wrote (.there (.there .here)) (wrote_put (o' := .deferred none) (hw5.own _ (.tail _ (.tail _ (.head _)))))
      refine ⟨v, ?_, (done, v, lp), rfl, ⟨hperm, ?_⟩, hst6.drop (.cons _ (.cons _ (.cons _ (List.Sublist.refl _))))⟩
      · rw [results_tmp rfl, Array.getD_eq_getD_getElem?, hT2.2 4 v rfl]; rfl
      · rw [List.length_map] at hv
        exact hv

theorem collect_spec (Bm b clock : Nat) (es : Array MapEntry) (w : World) (hst : MapKept.Stamped es clock) (hkey : ∀ en, en ∈ es.toList → ∃ p : PV, en.key = .agg (cP p).toArray) (hm : w.heap[Bm]? = some (cb [.map (some b)] 99)) (hb : w.heap[b]? = some (.map es clock)) (hn : es.size ≤ 1099511627776) :
    Calls Try.prog 76 [.func (.func 78) #[] #[.pointer (some ⟨Bm, 0, none⟩)]].toArray w fun r w' => ∃ x : List MapEntry × Value × List (Nat × Obj), r = .returned x.2.1 ∧ (x.1.Perm es.toList ∧ Vec 25 17 x.2.1 x.1.length (fP (x.1.map kpv)) x.2.2) ∧ St w [] x.2.2 w' := by
  refine calls_of_J (args := [.func (.func 78) #[] #[.pointer (some ⟨Bm, 0, none⟩)]]) (e := [(0, .func (.func 78) #[] #[.pointer (some ⟨Bm, 0, none⟩)])]) Try.func76 rfl rfl ⟨rfl, trivial⟩ (St.start w) ?_
  refine JC.seq (fun K0 hK0 => ?_)
  refine JC.region ?_
  refine J.assign rfl rfl ?_
  refine J.nil ?_
  refine JX.thenN (hK0 _ _ ?_)
  refine JC.seq (fun K1 hK1 => ?_)
  refine JC.region ?_
  refine J.move rfl rfl ?_
  refine J.perm ([] ++ []) (.refl _) ?_
  refine J.callS (α := List MapEntry × Value × List (Nat × Obj)) (V := (·.2.1)) (Pr := fun x => x.1.Perm es.toList ∧ Vec 25 17 x.2.1 x.1.length (fP (x.1.map kpv)) x.2.2) (L := (·.2.2)) (l1 := []) Ty.bd80 rfl rfl (fun w1 hw => appendSeq_spec Bm b clock es w1 hst hkey (by rw [hw.keep Bm (lt_of_some hm) (by simp)]; exact hm) (by rw [hw.keep b (lt_of_some hb) (by simp)]; exact hb) hn) (fun x hx => ?_)
  obtain ⟨ss, vs, ls⟩ := x
  simp only [List.append_nil] at hx ⊢
  refine J.assign rfl rfl ?_
  refine J.nil ?_
  refine JX.thenN (hK1 _ _ ?_)
  refine JC.ret ?_
  refine JX.ret1 rfl rfl (fun w hw => ?_)
  exact ⟨(ss, vs, ls), rfl, hx, hw⟩

theorem sortP_vec (v : Value) (xs : List PV) (lp : List (Nat × Obj)) (w : World) (hv : Vec 25 17 v xs.length (fP xs) lp) (hw0 : Own w lp) (hlen : xs.length < 4611686018427387904) :
    Calls Try.prog 77 [v, .func (.func 73) #[] #[]].toArray w fun r w' => ∃ x : List PV × List (Nat × Obj), r = .returned (.tuple #[]) ∧ (x.1.Perm xs ∧ x.1.Pairwise (fun a b => ltP b a = false) ∧ Vec 25 17 v x.1.length (fP x.1) x.2) ∧ St w (lp.map (·.1)) x.2 w' := by
  rcases vecP hv with ⟨rfl, rfl, rfl⟩ | ⟨b, c, sp, rfl, rfl, h1, h2⟩
  · exact (AnyF.slices_SortFunc_none Try.sortI none 0 _ w).mono fun r w' ⟨h1, h2⟩ => ⟨([], []), h1, ⟨.refl _, .nil, Vec.nil _ _⟩, by rw [h2]; exact St.start w⟩
  · refine (sortP_spec b xs sp c w (hw0.own _ (.head _)) hlen).mono fun r w' ⟨ys, h3, h4, h5⟩ => ?_
    have hl := h4.1.length_eq
    refine ⟨(ys, [_]), h3, ⟨h4.1, h4.2, ?_⟩, h5⟩
    have := vecP_mk (xs := ys) (b := b) (c := c) (sp := sp) (by rw [List.length_append, fP_length, hl, ← fP_length, ← List.length_append]; exact h1)
    rw [hl] at this ⊢
    exact this

theorem sortedFunc_spec (Bm b clock : Nat) (es : Array MapEntry) (w : World) (hst : MapKept.Stamped es clock) (hkey : ∀ en, en ∈ es.toList → ∃ p : PV, en.key = .agg (cP p).toArray) (hm : w.heap[Bm]? = some (cb [.map (some b)] 99)) (hb : w.heap[b]? = some (.map es clock)) (hn : es.size ≤ 1099511627776) :
    Calls Try.prog 71 [.func (.func 78) #[] #[.pointer (some ⟨Bm, 0, none⟩)], .func (.func 73) #[] #[]].toArray w fun r w' => ∃ x : List PV × Value × List (Nat × Obj), r = .returned x.2.1 ∧ (x.1.Perm (es.toList.map kpv) ∧ x.1.Pairwise (fun a b => ltP b a = false) ∧ Vec 25 17 x.2.1 x.1.length (fP x.1) x.2.2) ∧ St w [] x.2.2 w' := by
  refine calls_of_J (args := [.func (.func 78) #[] #[.pointer (some ⟨Bm, 0, none⟩)], .func (.func 73) #[] #[]]) (e := [(0, .func (.func 78) #[] #[.pointer (some ⟨Bm, 0, none⟩)]), (1, .func (.func 73) #[] #[])]) Try.func71 rfl rfl ⟨rfl, rfl, trivial⟩ (St.start w) ?_
  refine JC.seq (fun K0 hK0 => ?_)
  refine JC.region ?_
  refine J.assign rfl rfl ?_
  refine J.nil ?_
  refine JX.thenN (hK0 _ _ ?_)
  refine JC.seq (fun K1 hK1 => ?_)
  refine JC.region ?_
  refine J.move rfl rfl ?_
  refine J.perm ([] ++ []) (.refl _) ?_
  refine J.callS (α := List MapEntry × Value × List (Nat × Obj)) (V := (·.2.1)) (Pr := fun x => x.1.Perm es.toList ∧ Vec 25 17 x.2.1 x.1.length (fP (x.1.map kpv)) x.2.2) (L := (·.2.2)) (l1 := []) Ty.bd76 rfl rfl (fun w1 hw => collect_spec Bm b clock es w1 hst hkey (by rw [hw.keep Bm (lt_of_some hm) (by simp)]; exact hm) (by rw [hw.keep b (lt_of_some hb) (by simp)]; exact hb) hn) (fun x hx => ?_)
  obtain ⟨ss, vs, ls⟩ := x
  simp only [List.append_nil] at hx ⊢
  refine J.assign rfl rfl ?_
  refine J.nil ?_
  refine JX.thenN (hK1 _ _ ?_)
  refine JC.seq (fun K2 hK2 => ?_)
  refine JC.region ?_
  refine J.move rfl rfl ?_
  refine J.move rfl rfl ?_
  have hl2 := hx.1.length_eq
  refine J.perm (ls ++ []) (by simp) ?_
  refine J.callS (α := List PV × List (Nat × Obj)) (V := fun _ => .tuple #[]) (Pr := fun x => x.1.Perm (ss.map kpv) ∧ x.1.Pairwise (fun a b => ltP b a = false) ∧ Vec 25 17 vs x.1.length (fP x.1) x.2) (L := (·.2)) (l1 := ls) Ty.bd77 rfl rfl (fun w1 hw => sortP_vec vs (ss.map kpv) ls w1 (by rw [List.length_map]; exact hx.2) hw.owns (by rw [List.length_map]; simp at hl2; omega)) (fun x hs => ?_)
  obtain ⟨ks, lk⟩ := x
  simp only [List.append_nil] at hs ⊢
  refine J.nil ?_
  refine JX.thenN (hK2 _ _ ?_)
  refine JC.seq (fun K3 hK3 => ?_)
  refine JC.region ?_
  refine J.move rfl rfl ?_
  refine J.assign rfl rfl ?_
  refine J.nil ?_
  refine JX.thenN (hK3 _ _ ?_)
  refine JC.ret ?_
  refine JX.ret1 rfl rfl (fun w hw => ?_)
  exact ⟨(ks, vs, lk), rfl, ⟨hs.1.trans (hx.1.map _), hs.2⟩, hw⟩

theorem keys_spec (b : Nat) (w : World) :
    Calls Try.prog 72 [.map (some b)].toArray w fun r w' => ∃ Bm : Nat, r = .returned (.func (.func 78) #[] #[.pointer (some ⟨Bm, 0, none⟩)]) ∧ St w [] [(Bm, cb [.map (some b)] 99)] w' := by
  refine calls_of_J (args := [.map (some b)]) (e := [(0, .map (some b))]) Try.func72 rfl rfl ⟨rfl, trivial⟩ (St.start w) ?_
  refine JC.seq (fun K0 hK0 => ?_)
  refine JC.region ?_
  refine J.box rfl rfl rfl (fun b1 => ?_)
  refine J.assign rfl rfl ?_
  refine J.nil ?_
  refine JX.thenN (hK0 _ _ ?_)
  refine JC.seq (fun K1 hK1 => ?_)
  refine JC.region ?_
  refine J.makeFn rfl rfl ?_
  refine J.assign rfl rfl ?_
  refine J.nil ?_
  refine JX.thenN (hK1 _ _ ?_)
  refine JC.ret ?_
  refine JX.ret1 rfl rfl (fun w hw => ?_)
  exact ⟨b1, rfl, hw⟩

end Go.Proofs.Ytpldpkdlloolkaa
/-
  What a table lists, by keys; taking an entry out: contracts.
-/
namespace Go.Proofs.Ytpldpkdlloolkaa
open Go.J Go.RowKit
set_option linter.unusedVariables false
set_option linter.unusedSimpArgs false
open Go.Sort Go.Shelf
set_option maxRecDepth 4000
/- the cells of a row of entries -/
abbrev fE (xs : List EV) : List Value := xs.flatMap cE
theorem fE_length : ∀ xs : List EV, (fE xs).length = xs.length * 51
  | [] => rfl
  | x :: xs => by
    have := fE_length xs
    simp only [fE, List.flatMap_cons, List.length_append, List.length_cons] at this ⊢
    simp only [List.length_nil] at this ⊢
    omega
theorem fE_append (xs ys : List EV) : fE (xs ++ ys) = fE xs ++ fE ys := by simp [fE]
theorem fE_at : ∀ {xs : List EV} {i : Nat} {a : EV}, xs[i]? = some a → ((fE xs).drop (i * 51)).take 51 = cE a
  | [], i, a, h => by simp at h
  | x :: xs, 0, a, h => by
    simp only [List.getElem?_cons_zero, Option.some.injEq] at h
    subst h
    rfl
  | x :: xs, i + 1, a, h => by
    have ih := fE_at (xs := xs) (i := i) (by simpa using h)
    rw [show (i + 1) * 51 = 51 + i * 51 by omega]
    show (((cE x ++ fE xs).drop (51 + i * 51)).take 51) = cE a
    rw [← List.drop_drop, show (cE x ++ fE xs).drop 51 = fE xs from rfl]
    exact ih
theorem one_cI (a : IDV) : ∀ v, v ∈ cI a → v.oneCell' = true := by
  intro v hv
  simp [cI] at hv
  rcases hv with rfl | rfl | rfl | rfl | rfl | rfl | rfl | rfl | rfl | rfl | rfl | rfl | rfl | rfl | rfl | rfl <;> rfl
theorem one_cE (x : EV) : ∀ v, v ∈ cE x → v.oneCell' = true := by
  intro v hv
  rcases List.mem_append.1 hv with hv | hv
  · rcases List.mem_append.1 hv with hv | hv
    · rcases List.mem_append.1 hv with hv | hv
      · exact one_cP x.p v hv
      · exact one_cI x.a v hv
    · exact one_cI x.b v hv
  · rcases List.mem_cons.1 hv with rfl | hv
    · rfl
    · rw [List.mem_singleton.1 hv]; rfl
theorem fE_one {xs : List EV} {v : Value} (h : v ∈ fE xs) : v.oneCell' = true := by
  obtain ⟨p, _, hv⟩ := List.mem_flatMap.1 h
  exact one_cE p v hv
theorem rowE_at {w : World} {b o k c q i : Nat} {xs : List EV} {a : EV} (h : Row w (.slice (some ⟨b, o, none⟩) k c) k (fE xs)) (hi : xs[i]? = some a) (hq : q = o + i * 51) : Cells w b q (cE a) := by
  have hl : i < xs.length := (List.getElem?_eq_some_iff.1 hi).1
  have hlen := fE_length xs
  obtain ⟨b', o', c', hv, _, hc⟩ := Row.some h (by omega)
  simp only [Value.slice.injEq, Option.some.injEq, Addr.mk.injEq] at hv
  obtain ⟨⟨rfl, rfl, _⟩, _, rfl⟩ := hv
  subst hq
  intro j hj
  have hj16 : j < 51 := hj
  rw [Nat.add_assoc, hc (i * 51 + j) (by omega)]
  have e := fE_at hi
  have : (cE a)[j]? = (((fE xs).drop (i * 51)).take 51)[j]? := by rw [e]
  rw [this, List.getElem?_take_of_lt hj16, List.getElem?_drop]
theorem vec_rowM {w0 w : World} {S : List Nat} {l lp : List (Nat × Obj)} {t sz : Nat} {v : Value} {k : Nat} {xs : List Value} (h : Vec t sz v k xs lp) (hw : St w0 S l w) (hm : ∀ p, p ∈ lp → p ∈ l) : Row w v k xs := by
  obtain ⟨hl, h⟩ := h
  rcases h with ⟨rfl, rfl, rfl⟩ | ⟨b, c, sp, rfl, rfl, _, hk⟩
  · exact ⟨none, 0, rfl, Nat.le_refl _, .inl (List.eq_nil_of_length_eq_zero (by simpa using hl))⟩
  · exact Row.own (cs := xs ++ sp) (tb := t) (fr := (0, 0)) hw (hm _ (.head _)) (by simp) hk
theorem vec_pos {t sz : Nat} {a : Option Addr} {k c : Nat} {xs : List Value} {lp : List (Nat × Obj)} (h : Vec t sz (.slice a k c) k xs lp) (h0 : 0 < k) : ∃ q sp, a = some ⟨q, 0, none⟩ ∧ lp = [(q, cb (xs ++ sp) t)] ∧ (xs ++ sp).length = c * sz ∧ k ≤ c := by
  rcases h.2 with ⟨_, h2, _⟩ | ⟨b, c', sp, h1, h2, h3, h4⟩
  · omega
  · simp only [Value.slice.injEq] at h1
    obtain ⟨rfl, _, rfl⟩ := h1
    exact ⟨b, sp, rfl, h2, h3, h4⟩
theorem perm_sorted_eq {α : Type} {le : α → α → Prop} (anti : ∀ a b, le a b → le b a → a = b) : ∀ {l m : List α}, l.Perm m → l.Pairwise le → m.Pairwise le → l = m
  | [], m, hp, _, _ => (List.Perm.nil_eq hp)
  | a :: l, [], hp, _, _ => by have := hp.length_eq; simp at this
  | a :: l, b :: m, hp, hl, hm => by
    have hl' := List.pairwise_cons.1 hl
    have hm' := List.pairwise_cons.1 hm
    have hab : a = b := by
      rcases List.mem_cons.1 (hp.mem_iff.1 (.head _) : a ∈ b :: m) with h | h
      · exact h
      · rcases List.mem_cons.1 (hp.mem_iff.2 (.head _) : b ∈ a :: l) with h2 | h2
        · exact h2.symm
        · exact anti a b (hl'.1 b h2) (hm'.1 a h)
    subst hab
    rw [perm_sorted_eq anti (List.Perm.cons_inv hp) hl'.2 hm'.2]
/-- entries by their keys -/
def ordE (L : List EV) : List EV := L.mergeSort (fun x y => !ltP y.p x.p)
theorem ordE_perm (L : List EV) : (ordE L).Perm L := List.mergeSort_perm _ _
theorem ordE_sorted (L : List EV) : (ordE L).Pairwise (fun a b => ltP b.p a.p = false) := by
  have := List.pairwise_mergeSort (le := fun x y : EV => !ltP y.p x.p) (fun a b c h1 h2 => by
    have := leP_trans a.p b.p c.p
    rw [ltOf_cmpP, ltOf_cmpP, ltOf_cmpP] at this
    exact this h1 h2) (fun a b => by
    have := leP_total a.p b.p
    rw [ltOf_cmpP, ltOf_cmpP] at this
    exact this) L
  exact this.imp fun h => by simpa using h
open Classical in
noncomputable def kpK (v : Value) : PV := if h : ∃ p : PV, v = .agg (cP p).toArray then h.choose else zP
theorem kpK_spec (p : PV) : kpK (.agg (cP p).toArray) = p := by
  have h : ∃ q : PV, Value.agg (cP p).toArray = .agg (cP q).toArray := ⟨p, rfl⟩
  unfold kpK
  rw [dif_pos h]
  exact (cP_eq.1 (agg_inj.1 h.choose_spec)).symm
theorem tab_kps {L : List EV} {es : Array MapEntry} {clock : Nat} (h : Tab L es clock) : es.toList.map kpv = L.map (·.p) := by
  have h1 := congrArg (List.map fun q : Value × Value => kpK q.1) h.is_
  rw [List.map_map, List.map_map] at h1
  refine Eq.trans ?_ (h1.trans ?_)
  · rfl
  · exact List.map_congr_left fun x _ => kpK_spec x.p
theorem tab_key {L : List EV} {es : Array MapEntry} {clock : Nat} (h : Tab L es clock) : ∀ en, en ∈ es.toList → ∃ p : PV, en.key = .agg (cP p).toArray := fun en he => by
  obtain ⟨x, _, hk, _⟩ := h.mem he
  exact ⟨x.p, hk⟩
theorem keys_ord {L : List EV} {es : Array MapEntry} {clock : Nat} {ks : List PV} (hT : Tab L es clock) (hp : ks.Perm (es.toList.map kpv)) (hs : ks.Pairwise (fun a b => ltP b a = false)) : ks = (ordE L).map (·.p) := by
  rw [tab_kps hT] at hp
  refine perm_sorted_eq (le := fun a b => ltP b a = false) (fun a b h1 h2 => ltP_total h2 h1) (hp.trans ((ordE_perm L).map _).symm) hs ?_
  rw [List.pairwise_map]
  exact ordE_sorted L
theorem tget_ord {L : List EV} {es : Array MapEntry} {clock : Nat} (hT : Tab L es clock) {x : EV} (hx : x ∈ ordE L) : (tget L x.p).getD zE = x ∧ okE x := by
  have hm := (ordE_perm L).mem_iff.1 hx
  rw [tget_some hT.dist hm]
  exact ⟨rfl, hT.ok x hm⟩
theorem filter_stepE {p : EV → Bool} {L : List EV} {k : Nat} {y : EV} (h : L[k]? = some y) : (L.take (k + 1)).filter p = (L.take k).filter p ++ if p y then [y] else [] := by
  have hk := (List.getElem?_eq_some_iff.1 h).1
  rw [take_add_one hk, List.filter_append]
  rw [List.getElem?_eq_getElem hk] at h
  cases h
  cases hp : p L[k] <;> simp [hp]

set_option maxHeartbeats 1000000 in
theorem of_spec (t mb : Nat) (most : Int) (L : List EV) (es : Array MapEntry) (clock : Nat) (w : World) (ht : w.heap[t]? = some (tabO most mb)) (hmm : w.heap[mb]? = some (.map es clock)) (hT : Tab L es clock) (hn : L.length ≤ 1099511627776) (F : Nat) (cbv : Array Value) (h : EV → Bool) (lc : List (Nat × Obj)) (hlc : Own w lc) (hbF : bodyT Try.prog F = true) (hh : ∀ x W, okE x → Own W lc → Calls Try.prog F (#[.agg (cE x).toArray] ++ cbv) W fun r W' => r = .returned (.bool (h x)) ∧ Bel W W') :
    Calls Try.prog 57 [.pointer (some ⟨t, 0, none⟩), .func (.func F) #[] cbv].toArray w fun r w' => ∃ x : Value × List (Nat × Obj), r = .returned x.1 ∧ Vec 34 51 x.1 ((ordE L).filter h).length (fE ((ordE L).filter h)) x.2 ∧ St w [] x.2 w' := by
  refine calls_of_J (args := [.pointer (some ⟨t, 0, none⟩), .func (.func F) #[] cbv]) (e := [(0, .pointer (some ⟨t, 0, none⟩)), (1, .func (.func F) #[] cbv)]) Try.func57 rfl rfl ⟨rfl, rfl, trivial⟩ (St.start w) ?_
  refine JC.seq (fun K0 hK0 => ?_)
  refine JC.region ?_
  refine J.assign rfl rfl ?_
  refine J.nil ?_
  refine JX.thenN (hK0 _ _ ?_)
  refine JC.seq (fun K1 hK1 => ?_)
  refine JC.seq (fun K2 hK2 => ?_)
  refine JC.region ?_
  refine J.move rfl rfl ?_
  refine J.eqNil Ty.u29 rfl rfl rfl ?_
  refine J.nil ?_
  refine JX.thenN (hK2 _ _ ?_)
  first | refine JC.condF rfl ?_ | refine JC.cond rfl (fun h => by first | (exfalso; simp at h; omega) | (simp at h)) (fun _ => ?_)
  refine JC.skip ?_
  refine JX.thenN (hK1 _ _ ?_)
  refine JC.seq (fun K3 hK3 => ?_)
  refine JC.region ?_
  refine J.assign rfl rfl ?_
  refine J.nil ?_
  refine JX.thenN (hK3 _ _ ?_)
  refine JC.seq (fun K4 hK4 => ?_)
  refine JC.seq (fun K5 hK5 => ?_)
  refine JC.region ?_
  refine J.move rfl rfl ?_
  refine J.nilCheck rfl rfl ?_
  refine J.fieldAddr Ty.fd101_1 rfl rfl ?_
  refine J.load1 (v := .map (some mb)) Ty.a99 rfl (fun w1 hw => by rw [cell_of (by rw [hw.keep t (lt_of_some ht) (by simp)]; exact ht)]; rfl) rfl ?_
  refine J.callS (α := Nat) (V := fun Bm => .func (.func 78) #[] #[.pointer (some ⟨Bm, 0, none⟩)]) (Pr := fun _ => True) (L := fun Bm => [(Bm, cb [.map (some mb)] 99)]) (l1 := []) (l := []) Ty.bd72 rfl rfl (fun w1 hw => (keys_spec mb w1).mono fun r w2 ⟨Bm, h1, h2⟩ => ⟨Bm, h1, trivial, h2⟩) (fun Bm _ => ?_)
  refine J.callS (α := List PV × Value × List (Nat × Obj)) (V := (·.2.1)) (Pr := fun x => x.1.Perm (es.toList.map kpv) ∧ x.1.Pairwise (fun a b => ltP b a = false) ∧ Vec 25 17 x.2.1 x.1.length (fP x.1) x.2.2) (L := (·.2.2)) (l1 := []) Ty.bd71 rfl rfl (fun w1 hw => sortedFunc_spec Bm mb clock es w1 hT.st (tab_key hT) (hw.own _ (.head _)) (by rw [hw.keep mb (lt_of_some hmm) (by simp)]; exact hmm) (by rw [hT.size]; exact hn)) (fun x hx => ?_)
  obtain ⟨ks, vk, lk⟩ := x
  obtain ⟨hk1, hk2, hvk⟩ := hx
  simp only at hk1 hk2 hvk ⊢
  have hks := keys_ord hT hk1 hk2
  have hkl : ks.length = (ordE L).length := by rw [hks, List.length_map]
  have hol := (ordE_perm L).length_eq
  obtain ⟨aq, cq, rfl, hcq⟩ := hvk.form
  refine J.lenS rfl Ty.u142 rfl rfl ?_
  refine J.move rfl rfl ?_
  refine J.nil ?_
  refine JX.thenN (hK5 _ _ ?_)
  refine JC.block ?_
  refine JC.conseq (JC.cov (f := (fun st => [(0, .pointer (some ⟨t, 0, none⟩)), (1, .func (.func F) #[] cbv), (5, st.2.1), (15, .slice aq ks.length cq), (16, .int .i64 ((ks.length : Nat) : Int)), (17, .int .i64 ((st.1 : Nat) : Int))]) ((0, .slice none 0 0, []) : Nat × Value × List (Nat × Obj))) ⟨rfl, rfl, rfl, rfl, rfl, rfl, trivial⟩ (JC.loop (α := Nat × Value × List (Nat × Obj)) (fun st => [(0, .pointer (some ⟨t, 0, none⟩)), (1, .func (.func F) #[] cbv), (5, st.2.1), (15, .slice aq ks.length cq), (16, .int .i64 ((ks.length : Nat) : Int)), (17, .int .i64 ((st.1 : Nat) : Int))]) (fun st w' => (st.1 ≤ ks.length ∧ Vec 34 51 st.2.1 ((((ordE L).take st.1).filter h)).length (fE ((((ordE L).take st.1).filter h))) st.2.2) ∧ St w [] (st.2.2 ++ lk) w') (fun st => ks.length - st.1) ((0, .slice none 0 0, []) : Nat × Value × List (Nat × Obj)) (fun st => ?_))) (fun w hw => ⟨⟨Nat.zero_le _, Vec.nil _ _⟩, hw.drop (List.sublist_append_left _ _)⟩)
  obtain ⟨i, vo, lo⟩ := st
  refine JC.pr (fun hx => ?_)
  obtain ⟨hi, hvo⟩ := hx
  simp only at hi hvo ⊢
  refine JC.seq (fun K6 hK6 => ?_)
  refine JC.region ?_
  refine J.bin rfl rfl rfl rfl ?_
  refine J.nil ?_
  refine JX.thenN (hK6 _ _ ?_)
  refine JC.seq (fun K7 hK7 => ?_)
  refine JC.cond rfl (fun h1 => ?_) (fun h1 => ?_)
  · skip
    have hlt : i < ks.length := by simp at h1; omega
    obtain ⟨qq, spq, rfl, rfl, hsq, hcq2⟩ := vec_pos hvk (by omega)
    obtain ⟨xe, hxe⟩ : ∃ x, (ordE L)[i]? = some x := ⟨_, List.getElem?_eq_getElem (by omega)⟩
    have hki : ks[i]? = some xe.p := by rw [hks, List.getElem?_map, hxe]; rfl
    obtain ⟨hxget, hxok⟩ := tget_ord hT (List.mem_of_getElem? hxe)
    refine JC.skip ?_
    refine JX.thenN (hK7 _ _ ?_)
    refine JC.seq (fun K8 hK8 => ?_)
    refine JC.block ?_
    refine JC.seq (fun K9 hK9 => ?_)
    refine JC.region ?_
    refine J.indexAddrS Ty.el142 Ty.s25 rfl rfl (by omega) (by omega) rfl ?_
    refine J.loadA (vs := cP xe.p) Ty.a25 Ty.s25 rfl rfl (fun w1 hw => rowP_at (o := 0) (vec_rowM hvk hw (fun q hq => by first | (simp [hq]; done) | (simp at hq; simp [hq]; done) | (simp at hq; subst hq; simp))) hki (by omega)) rfl ?_
    refine J.alloc Ty.z25 rfl rfl (fun b7 => ?_)
    refine J.storeW (cs := cP zP) (vs := cP xe.p) Ty.s25 rfl rfl rfl rfl rfl (one_cP xe.p) .here ?_
    refine J.nil ?_
    refine JX.thenN (hK9 _ _ ?_)
    refine JC.seq (fun K10 hK10 => ?_)
    apply JC.drawL 8 [Eqv (.func (.func F) #[] cbv), Eqv (.pointer (some ⟨t, 0, none⟩)), Eqv (.pointer (some ⟨t, 0, none⟩)), Eqv (.pointer (some ⟨t, 0 + 1, none⟩)), Eqv (.map (some mb)), Eqv (.agg (cP xe.p).toArray), Eqv (.agg (cE xe).toArray), Eqv (.bool (h xe))] Ty.mixed rfl rfl rfl (by kernel_rfl) rfl rfl (fun w w' hw hb => hw.step hb) ⟨fun _ _ _ h _ => h, fun _ _ _ h _ => h, fun _ _ _ h _ => h, fun _ _ _ h _ => h, fun _ _ _ h _ => h, fun _ _ _ h _ => h, fun _ _ _ h _ => h, fun _ _ _ h _ => h, trivial⟩ ?hstep ?htail
    case hstep =>
      refine ⟨fun wi => ?_, fun wi => ?_, fun wi => ?_, fun wi => ?_, fun wi => ?_, fun wi => ?_, fun wi => ?_, fun wi => ?_, trivial⟩
      · skip
        refine Fin.nil ?_
        refine J.move rfl rfl ?_
        exact J.finP rfl
      · skip
        refine Fin.nil ?_
        refine J.move rfl rfl ?_
        exact J.finP rfl
      · skip
        refine Fin.consE rfl (Fin.nil ?_)
        refine J.nilCheck rfl rfl ?_
        exact J.finP rfl
      · skip
        refine Fin.consE rfl (Fin.nil ?_)
        refine J.fieldAddr Ty.fd101_1 rfl rfl ?_
        exact J.finP rfl
      · skip
        refine Fin.consE rfl (Fin.nil ?_)
        refine J.load1 (v := .map (some mb)) Ty.a99 rfl (fun w1 hw => by rw [cell_of (by rw [hw.2.keep t (lt_of_some ht) (by simp)]; exact ht)]; rfl) rfl ?_
        exact J.finP rfl
      · skip
        refine Fin.nil ?_
        refine J.loadA (vs := cP xe.p) Ty.a25 Ty.s25 rfl rfl (fun w1 hw => Cells.of_block (hw.2.own _ (.head _)) rfl) rfl ?_
        exact J.finP rfl
      · skip
        refine Fin.consE rfl (Fin.consE rfl (Fin.nil ?_))
        refine J.lookupT1 (ok := true) (L := L) (xe := xe) Ty.u99 Ty.KP Ty.keyP Ty.zE_ rfl rfl hT hxok.1 hxget (fun w1 hw => by rw [hw.2.keep mb (lt_of_some hmm) (by simp)]; exact hmm) rfl ?_
        exact J.finP rfl
      · skip
        refine Fin.consE rfl (Fin.consE rfl (Fin.nil ?_))
        refine J.callVD (v := .bool (h xe)) hbF rfl rfl rfl (fun w1 hw => hh xe w1 hxok (hlc.at hw)) ?_
        exact J.finQ rfl
    case htail =>
      refine Fin.consE rfl (Fin.consE rfl (Fin.consE rfl (Fin.consE rfl (Fin.consE rfl (Fin.consE rfl (Fin.consE rfl (Fin.consE rfl (Fin.nil ?_))))))))
      refine J.nil ?_
      refine JX.thenN (hK10 _ _ ?_)
      refine JC.cond rfl (fun h2 => ?_) (fun h2 => ?_)
      · skip
        skip
        apply JC.drawX (α := Nat × Value × List (Nat × Obj)) 9 (fun x => match x with | ⟨x36, v37, l37⟩ => [vo, .pointer (some ⟨t, 0, none⟩), .pointer (some ⟨t, 0, none⟩), .pointer (some ⟨t, 0 + 1, none⟩), .map (some mb), .agg (cP xe.p).toArray, .agg (cE xe).toArray, .slice (some ⟨x36, 0, none⟩) 1 1, v37]) (fun m x => match x with | ⟨x36, v37, l37⟩ => fun w1 => (m 8 = true → Vec 34 51 v37 ((((ordE L).take i).filter h).length + 1) (fE (((ordE L).take i).filter h) ++ cE xe) l37) ∧ St w [] ((b7, cb (cP xe.p) 25) :: ((bif m 7 then [(x36, cb (cE xe) 34)] else []) ++ ((bif m 8 then l37 else lo) ++ [(qq, cb (fP ks ++ spq) 25)]))) w1) Ty.mixed rfl rfl rfl (by kernel_rfl) rfl rfl ?hinit ?hstep ?htail
        case hinit => exact fun w1 hw => ⟨(0, .slice none 0 0, []), fun h => (by cases h), hw.drew⟩
        case hstep =>
          refine ⟨fun m x hm hp => ?_, fun m x hm hp => ?_, fun m x hm hp => ?_, fun m x hm hp => ?_, fun m x hm hp => ?_, fun m x hm hp => ?_, fun m x hm hp => ?_, fun m x hm hp => ?_, fun m x hm hp => ?_, trivial⟩
          · skip
            obtain ⟨x36, v37, l37⟩ := x
            show J _ _ _ _ _ (_) _
            refine J.pr (fun hF => ?_)
            refine J.move rfl rfl ?_
            exact J.finX rfl (fun _ hw => ⟨⟨x36, v37, l37⟩, rfl, fun _ _ _ => rfl, hF, hw⟩)
          · skip
            obtain ⟨x36, v37, l37⟩ := x
            show J _ _ _ _ _ (_) _
            refine J.pr (fun hF => ?_)
            refine J.move rfl rfl ?_
            exact J.finX rfl (fun _ hw => ⟨⟨x36, v37, l37⟩, rfl, fun _ _ _ => rfl, hF, hw⟩)
          · skip
            obtain ⟨x36, v37, l37⟩ := x
            show J _ _ _ _ _ ((30, .pointer (some ⟨t, 0, none⟩)) :: _) _
            refine J.pr (fun hF => ?_)
            refine J.nilCheck rfl rfl ?_
            exact J.finX rfl (fun _ hw => ⟨⟨x36, v37, l37⟩, rfl, fun _ _ _ => rfl, hF, hw⟩)
          · skip
            obtain ⟨x36, v37, l37⟩ := x
            show J _ _ _ _ _ ((31, .pointer (some ⟨t, 0, none⟩)) :: _) _
            refine J.pr (fun hF => ?_)
            refine J.fieldAddr Ty.fd101_1 rfl rfl ?_
            exact J.finX rfl (fun _ hw => ⟨⟨x36, v37, l37⟩, rfl, fun _ _ _ => rfl, hF, hw⟩)
          · skip
            obtain ⟨x36, v37, l37⟩ := x
            show J _ _ _ _ _ ((32, .pointer (some ⟨t, 0 + 1, none⟩)) :: _) _
            refine J.pr (fun hF => ?_)
            refine J.load1 (v := .map (some mb)) Ty.a99 rfl (fun w1 hw => by rw [cell_of (by rw [hw.keep t (lt_of_some ht) (by simp)]; exact ht)]; rfl) rfl ?_
            exact J.finX rfl (fun _ hw => ⟨⟨x36, v37, l37⟩, rfl, fun _ _ _ => rfl, hF, hw⟩)
          · skip
            obtain ⟨x36, v37, l37⟩ := x
            show J _ _ _ _ _ (_) _
            refine J.pr (fun hF => ?_)
            refine J.loadA (vs := cP xe.p) Ty.a25 Ty.s25 rfl rfl (fun w1 hw => Cells.of_block (hw.own _ (.head _)) rfl) rfl ?_
            exact J.finX rfl (fun _ hw => ⟨⟨x36, v37, l37⟩, rfl, fun _ _ _ => rfl, hF, hw⟩)
          · skip
            obtain ⟨x36, v37, l37⟩ := x
            show J _ _ _ _ _ ((34, .agg (cP xe.p).toArray) :: (33, .map (some mb)) :: _) _
            refine J.pr (fun hF => ?_)
            refine J.lookupT1 (ok := true) (L := L) (xe := xe) Ty.u99 Ty.KP Ty.keyP Ty.zE_ rfl rfl hT hxok.1 hxget (fun w1 hw => by rw [hw.keep mb (lt_of_some hmm) (by simp)]; exact hmm) rfl ?_
            exact J.finX rfl (fun _ hw => ⟨⟨x36, v37, l37⟩, rfl, fun _ _ _ => rfl, hF, hw⟩)
          · skip
            obtain ⟨x36, v37, l37⟩ := x
            show J _ _ _ _ _ ((35, .agg (cE xe).toArray) :: _) _
            refine J.pr (fun hF => ?_)
            refine J.buildSl (cs := cE xe) Ty.el62 Ty.s34 Ty.zE_ rfl rfl rfl rfl (by kernel_rfl) rfl rfl (fun b36 => ?_)
            refine J.nil (JX.finB rfl (fun w1 hw => ⟨⟨⟨b36, v37, l37⟩, rfl, fun j h1 h2 => ?_, ?_⟩, trivial⟩))
            · match j, h1 with
              | 0, _ => (first | rfl | trivial)
              | 1, _ => (first | rfl | trivial)
              | 2, _ => (first | rfl | trivial)
              | 3, _ => (first | rfl | trivial)
              | 4, _ => (first | rfl | trivial)
              | 5, _ => (first | rfl | trivial)
              | 6, _ => (first | rfl | trivial)
              | 7, _ => exact absurd (h2.symm.trans hm) (by decide)
              | 8, _ => (first | rfl | trivial)
              | j + 9, h1 => omega
            show (m 8 = true → Vec 34 51 v37 ((((ordE L).take i).filter h).length + 1) (fE (((ordE L).take i).filter h) ++ cE xe) l37) ∧ St w [] ((b7, cb (cP xe.p) 25) :: ((bif true then [(b36, cb (cE xe) 34)] else []) ++ ((bif m 8 then l37 else lo) ++ [(qq, cb (fP ks ++ spq) 25)]))) w1
            simp only [hm, cond_true, cond_false] at hw ⊢
            exact ⟨hF, hw.perm (by (refine perm_cnt (fun _ => ?_)); simp only [cntB_append, cntB_cons, cntB_nil, Nat.add_zero, Nat.zero_add]; try ac_rfl)⟩
          · skip
            obtain ⟨x36, v37, l37⟩ := x
            show J _ _ _ _ _ ((36, .slice (some ⟨x36, 0, none⟩) 1 1) :: (29, vo) :: _) _
            have hp7 : m 7 = true := predsT hp (by kernel_rfl)
            refine J.pr (fun hF => ?_)
            have hol : (((ordE L).take i).filter h).length ≤ i := Nat.le_trans (List.length_filter_le _ _) (by rw [List.length_take]; omega)
            refine J.conseq (I' := St w [] (lo ++ ((x36, cb (cE xe) 34) :: (b7, cb (cP xe.p) 25) :: [(qq, cb (fP ks ++ spq) 25)]))) ?_ (fun w1 hw => by simp only [hm, hp7, cond_true, cond_false] at hw; exact hw.perm (by (refine perm_cnt (fun _ => ?_)); simp only [cntB_append, cntB_cons, cntB_nil, Nat.add_zero, Nat.zero_add]; try ac_rfl))
            refine J.append (lp := lo) (xs := fE (((ordE L).take i).filter h)) (ys := cE xe) (k := (((ordE L).take i).filter h).length) (m := 1) Ty.el62 Ty.s34 Ty.b34 Ty.zE_ rfl (.inl ⟨34, Ty.u62⟩) rfl rfl hvo (fun w3 hw3 => .inl (Row.own hw3 (List.mem_append_right _ (.head _)) rfl (Nat.le_refl _))) rfl (one_cE xe) (by omega) (by omega) rfl (fun vn ln hvn => ?_)
            refine J.nil (JX.finB rfl (fun w1 hw => ⟨⟨⟨x36, vn, ln⟩, rfl, fun j h1 h2 => ?_, ?_⟩, trivial⟩))
            · match j, h1 with
              | 0, _ => (first | rfl | trivial)
              | 1, _ => (first | rfl | trivial)
              | 2, _ => (first | rfl | trivial)
              | 3, _ => (first | rfl | trivial)
              | 4, _ => (first | rfl | trivial)
              | 5, _ => (first | rfl | trivial)
              | 6, _ => (first | rfl | trivial)
              | 7, _ => (first | rfl | trivial)
              | 8, _ => exact absurd (h2.symm.trans hm) (by decide)
              | j + 9, h1 => omega
            show (true = true → Vec 34 51 vn ((((ordE L).take i).filter h).length + 1) (fE (((ordE L).take i).filter h) ++ cE xe) ln) ∧ St w [] ((b7, cb (cP xe.p) 25) :: ((bif m 7 then [(x36, cb (cE xe) 34)] else []) ++ ((bif true then ln else lo) ++ [(qq, cb (fP ks ++ spq) 25)]))) w1
            simp only [hm, hp7, cond_true, cond_false] at hw ⊢
            exact ⟨fun _ => hvn, hw.perm (by (refine perm_cnt (fun _ => ?_)); simp only [cntB_append, cntB_cons, cntB_nil, Nat.add_zero, Nat.zero_add]; try ac_rfl)⟩
        case htail =>
          intro x
          obtain ⟨x36, v37, l37⟩ := x
          show J _ _ _ _ _ ((37, v37) :: (36, .slice (some ⟨x36, 0, none⟩) 1 1) :: (35, .agg (cE xe).toArray) :: (34, .agg (cP xe.p).toArray) :: (33, .map (some mb)) :: (32, .pointer (some ⟨t, 0 + 1, none⟩)) :: (31, .pointer (some ⟨t, 0, none⟩)) :: (30, .pointer (some ⟨t, 0, none⟩)) :: (29, vo) :: _) (fun w1 => (true = true → Vec 34 51 v37 ((((ordE L).take i).filter h).length + 1) (fE (((ordE L).take i).filter h) ++ cE xe) l37) ∧ St w [] ((b7, cb (cP xe.p) 25) :: ((bif true then [(x36, cb (cE xe) 34)] else []) ++ ((bif true then l37 else lo) ++ [(qq, cb (fP ks ++ spq) 25)]))) w1)
          refine J.pr (fun hF => ?_)
          have hv37 := hF rfl
          refine J.conseq (I' := St w [] (l37 ++ [(qq, cb (fP ks ++ spq) 25)])) ?_ (fun w1 hw => by simp only [cond_true] at hw; exact hw.drop (.cons _ (.cons _ (List.Sublist.refl _))))
          refine J.assign rfl rfl ?_
          refine J.nil ?_
          refine JX.blockN ?_
          refine JX.thenN (hK8 _ _ ?_)
          refine JC.region ?_
          (first | refine J.addN rfl rfl (by omega) (by omega) rfl ?_ | refine J.bin rfl rfl rfl rfl ?_)
          refine J.move rfl rfl ?_
          refine J.nil ?_
          refine JX.thenN ?_
          refine JX.again ((i + 1, v37, l37) : Nat × Value × List (Nat × Obj)) ?_ ?_ ?_
          · simp only; omega
          · exact ⟨rfl, rfl, rfl, rfl, rfl, rfl, trivial⟩
          · exact fun w1 hw => ⟨⟨hlt, by rw [filter_stepE hxe]; simp only [h2, if_true]; rw [List.length_append, fE_append]; simpa [fE] using hv37⟩, hw⟩
      · skip
        skip
        refine JC.skip ?_
        refine JX.blockN ?_
        refine JX.thenN (hK8 _ _ ?_)
        refine JC.region ?_
        (first | refine J.addN rfl rfl (by omega) (by omega) rfl ?_ | refine J.bin rfl rfl rfl rfl ?_)
        refine J.move rfl rfl ?_
        refine J.nil ?_
        refine JX.thenN ?_
        refine JX.again ((i + 1, vo, lo) : Nat × Value × List (Nat × Obj)) ?_ ?_ ?_
        · simp only; omega
        · exact ⟨rfl, rfl, rfl, rfl, rfl, rfl, trivial⟩
        · exact fun w1 hw => ⟨⟨hlt, by rw [filter_stepE hxe]; simp only [h2, Bool.false_eq_true, if_false, List.append_nil]; exact hvo⟩, hw.drop (List.sublist_cons_self _ _)⟩
  · skip
    have hge : i = ks.length := by simp at h1; omega
    have hdone : (ordE L).take i = ordE L := List.take_of_length_le (by omega)
    rw [hdone] at hvo
    refine JC.exit ?_
    refine JX.thenE ?_
    refine JX.thenE ?_
    refine JX.blockE ?_
    refine JX.thenN (hK4 _ _ ?_)
    refine JC.seq (fun K11 hK11 => ?_)
    refine JC.region ?_
    refine J.move rfl rfl ?_
    refine J.assign rfl rfl ?_
    refine J.nil ?_
    refine JX.thenN (hK11 _ _ ?_)
    refine JC.ret ?_
    refine JX.ret1 rfl rfl (fun w hw => ?_)
    exact ⟨(vo, lo), rfl, hvo, hw.drop (List.sublist_append_left _ _)⟩

end Go.Proofs.Ytpldpkdlloolkaa
/-
  All, Via, To, Own and Remove of a table; a nil table; Other: contracts.
-/
namespace Go.Proofs.Ytpldpkdlloolkaa
open Go.J Go.RowKit
set_option linter.unusedVariables false
set_option linter.unusedSimpArgs false
set_option maxRecDepth 4000
def viaB (n : Int) (x : EV) : Bool := decide (0 ≤ n) && (decide (x.na = n) || decide (x.nb = n))
def toB (id : IDV) (x : EV) : Bool := decide (x.a = id) || decide (x.b = id)
def ownB (x : EV) : Bool := decide (x.na = -1) || decide (x.nb = -1)
theorem filter_all {L : List EV} : L.filter (fun _ => true) = L := List.filter_eq_self.2 fun _ _ => rfl
theorem own_nil (w : World) : Own w [] := ⟨(fun p hp => by cases hp), .nil⟩
theorem ret_bool {a b : Bool} (h : a = true ↔ b = true) : Ending.returned (.bool a) = Ending.returned (.bool b) := by rw [Bool.eq_iff_iff.2 h]
theorem all1_spec (x : EV) (w : World) :
    Calls Try.prog 58 [.agg (cE x).toArray].toArray w fun r w' => r = .returned (.bool true) ∧ Bel w w' := by
  refine calls_of_J (args := [.agg (cE x).toArray]) (e := [(0, .agg (cE x).toArray)]) Try.func58 rfl rfl ⟨rfl, trivial⟩ (St.start w) ?_
  refine JC.seq (fun K0 hK0 => ?_)
  refine JC.region ?_
  refine J.box rfl rfl rfl (fun b1 => ?_)
  refine J.assign rfl rfl ?_
  refine J.nil ?_
  refine JX.thenN (hK0 _ _ ?_)
  refine JC.seq (fun K1 hK1 => ?_)
  refine JC.region ?_
  refine J.assign rfl rfl ?_
  refine J.nil ?_
  refine JX.thenN (hK1 _ _ ?_)
  refine JC.ret ?_
  refine JX.ret1 rfl rfl (fun w hw => ?_)
  exact ⟨rfl, hw.below⟩

theorem all_spec (t mb : Nat) (most : Int) (L : List EV) (es : Array MapEntry) (clock : Nat) (w : World) (ht : w.heap[t]? = some (tabO most mb)) (hmm : w.heap[mb]? = some (.map es clock)) (hT : Tab L es clock) (hn : L.length ≤ 1099511627776) :
    Calls Try.prog 25 [.pointer (some ⟨t, 0, none⟩)].toArray w fun r w' => ∃ x : Value × List (Nat × Obj), r = .returned x.1 ∧ Vec 34 51 x.1 (ordE L).length (fE (ordE L)) x.2 ∧ St w [] x.2 w' := by
  refine calls_of_J (args := [.pointer (some ⟨t, 0, none⟩)]) (e := [(0, .pointer (some ⟨t, 0, none⟩))]) Try.func25 rfl rfl ⟨rfl, trivial⟩ (St.start w) ?_
  refine JC.seq (fun K0 hK0 => ?_)
  refine JC.region ?_
  refine J.assign rfl rfl ?_
  refine J.nil ?_
  refine JX.thenN (hK0 _ _ ?_)
  refine JC.seq (fun K1 hK1 => ?_)
  refine JC.region ?_
  refine J.move rfl rfl ?_
  refine J.perm ([] ++ ([])) (.refl _) ?_
  refine J.callS (α := Value × List (Nat × Obj)) (V := (·.1)) (Pr := fun x => Vec 34 51 x.1 ((ordE L).filter (fun _ => true)).length (fE ((ordE L).filter (fun _ => true))) x.2) (L := (·.2)) (l1 := []) Ty.bd57 rfl rfl (fun w1 hw => of_spec t mb most L es clock w1 (by rw [hw.keep t (lt_of_some ht) (by simp)]; exact ht) (by rw [hw.keep mb (lt_of_some hmm) (by simp)]; exact hmm) hT hn 58 #[] (fun _ => true) [] (own_nil _) Ty.bd58 (fun x W hx hW => by simpa using all1_spec x W)) (fun x hvl => ?_)
  obtain ⟨vl, ll⟩ := x
  simp only at hvl ⊢
  rw [filter_all] at hvl
  refine J.assign rfl rfl ?_
  refine J.nil ?_
  refine JX.thenN (hK1 _ _ ?_)
  refine JC.ret ?_
  refine JX.ret1 rfl rfl (fun w hw => ?_)
  exact ⟨(vl, ll), rfl, hvl, hw.drop (List.sublist_append_left _ _)⟩

end Go.Proofs.Ytpldpkdlloolkaa
/-
  The document's table, and Other: contracts.
-/
namespace Go.Proofs.Ytpldpkdlloolkaa
open Go.J Go.RowKit
set_option linter.unusedVariables false
set_option linter.unusedSimpArgs false
set_option maxRecDepth 4000
abbrev rtabO (v : Value) (most : Int) : Obj := cb [v, .int .i64 most] 82
theorem cells_sub {w : World} {b o k : Nat} {xs ys : List Value} (h : Cells w b o xs) (hy : (xs.drop k).take ys.length = ys) : Cells w b (o + k) ys := by
  intro j hj
  have hlt : k + j < xs.length := by
    have := congrArg List.length hy
    rw [List.length_take, List.length_drop] at this
    omega
  rw [Nat.add_assoc, h (k + j) hlt]
  have : ys[j]? = ((xs.drop k).take ys.length)[j]? := by rw [hy]
  rw [this, List.getElem?_take_of_lt hj, List.getElem?_drop]
def otherV (x : EV) : IDV × Int × Bool := if x.na = -1 then (x.b, x.nb, false) else (x.a, x.na, true)
theorem tget_at {R : List EV} {i : Nat} {x : EV} {p : PV} (h : R[i]? = some x) (hp : x.p = p) (hb : ∀ j y, j < i → R[j]? = some y → y.p ≠ p) : tget R p = some x := by
  unfold tget
  rw [List.find?_eq_some_iff_append]
  have hi := (List.getElem?_eq_some_iff.1 h).1
  refine ⟨by simpa using hp, R.take i, R.drop (i + 1), ?_, fun y hy => ?_⟩
  · rw [List.getElem?_eq_getElem hi] at h
    cases h
    rw [List.getElem_cons_drop, List.take_append_drop]
  · obtain ⟨j, hj, rfl⟩ := List.getElem_of_mem hy
    rw [List.length_take] at hj
    have := hb j R[j] (by omega) (List.getElem?_eq_getElem (by omega))
    rw [List.getElem_take]
    simpa using this
theorem tget_not {R : List EV} {p : PV} (hb : ∀ j y, j < R.length → R[j]? = some y → y.p ≠ p) : tget R p = none := tget_none.2 fun x hx => by
  obtain ⟨j, hj, rfl⟩ := List.getElem_of_mem hx
  exact hb j _ hj (List.getElem?_eq_getElem hj)
theorem same_uptoE {xs ys : List EV} {i : Nat} (hl : xs.length = ys.length) (h : ∀ j, j < i → xs[j]? = ys[j]?) (hi : i = xs.length) : xs = ys := by
  refine List.ext_getElem? fun j => ?_
  rcases Nat.lt_or_ge j i with h1 | h1
  · exact h j h1
  · rw [List.getElem?_eq_none (by omega), List.getElem?_eq_none (by omega)]

theorem rnew_spec (n : Int) (w : World) :
    Calls Try.prog 37 [.int .i64 n].toArray w fun r w' => ∃ rt : Nat, r = .returned (.pointer (some ⟨rt, 0, none⟩)) ∧ St w [] [(rt, rtabO (.slice none 0 0) (min (max n 0) 128))] w' := by
  refine calls_of_J (args := [.int .i64 n]) (e := [(0, .int .i64 n)]) Try.func37 rfl rfl ⟨rfl, trivial⟩ (St.start w) ?_
  refine JC.seq (fun K0 hK0 => ?_)
  refine JC.region ?_
  refine J.assign rfl rfl ?_
  refine J.nil ?_
  refine JX.thenN (hK0 _ _ ?_)
  refine JC.seq (fun K1 hK1 => ?_)
  refine JC.seq (fun K2 hK2 => ?_)
  refine JC.region ?_
  refine J.move rfl rfl ?_
  refine J.bin rfl rfl rfl rfl ?_
  refine J.nil ?_
  refine JX.thenN (hK2 _ _ ?_)
  refine JC.cond rfl (fun h0 => ?_) (fun h0 => ?_)
  · skip
    have hn0 : n < 0 := by simpa using h0
    refine JC.region ?_
    refine J.assign rfl rfl ?_
    refine J.nil ?_
    refine JX.thenN (hK1 _ _ ?_)
    refine JC.seq (fun K3 hK3 => ?_)
    refine JC.seq (fun K4 hK4 => ?_)
    refine JC.region ?_
    refine J.move rfl rfl ?_
    refine J.bin rfl rfl rfl rfl ?_
    refine J.nil ?_
    refine JX.thenN (hK4 _ _ ?_)
    first | refine JC.condF rfl ?_ | refine JC.cond rfl (fun h => by first | (exfalso; simp at h; omega) | (simp at h)) (fun _ => ?_)
    refine JC.skip ?_
    refine JX.thenN (hK3 _ _ ?_)
    refine JC.seq (fun K5 hK5 => ?_)
    refine JC.region ?_
    refine J.move rfl rfl ?_
    refine J.buildS Ty.pl82 Ty.z82 rfl rfl rfl ?_
    refine J.box rfl rfl rfl (fun b9 => ?_)
    refine J.assign rfl rfl ?_
    refine J.nil ?_
    refine JX.thenN (hK5 _ _ ?_)
    refine JC.ret ?_
    refine JX.ret1 rfl rfl (fun w hw => ?_)
    refine ⟨b9, rfl, ?_⟩
    rw [show min (max n 0) 128 = (0 : Int) from by omega]
    exact hw
  · skip
    have hn0 : ¬ n < 0 := by simpa using h0
    refine JC.skip ?_
    refine JX.thenN (hK1 _ _ ?_)
    refine JC.seq (fun K6 hK6 => ?_)
    refine JC.seq (fun K7 hK7 => ?_)
    refine JC.region ?_
    refine J.move rfl rfl ?_
    refine J.bin rfl rfl rfl rfl ?_
    refine J.nil ?_
    refine JX.thenN (hK7 _ _ ?_)
    refine JC.cond rfl (fun h1 => ?_) (fun h1 => ?_)
    · skip
      have hn1 : n > 128 := by simpa using h1
      refine JC.region ?_
      refine J.assign rfl rfl ?_
      refine J.nil ?_
      refine JX.thenN (hK6 _ _ ?_)
      refine JC.seq (fun K8 hK8 => ?_)
      refine JC.region ?_
      refine J.move rfl rfl ?_
      refine J.buildS Ty.pl82 Ty.z82 rfl rfl rfl ?_
      refine J.box rfl rfl rfl (fun b9 => ?_)
      refine J.assign rfl rfl ?_
      refine J.nil ?_
      refine JX.thenN (hK8 _ _ ?_)
      refine JC.ret ?_
      refine JX.ret1 rfl rfl (fun w hw => ?_)
      refine ⟨b9, rfl, ?_⟩
      rw [show min (max n 0) 128 = (128 : Int) from by omega]
      exact hw
    · skip
      have hn1 : ¬ n > 128 := by simpa using h1
      refine JC.skip ?_
      refine JX.thenN (hK6 _ _ ?_)
      refine JC.seq (fun K9 hK9 => ?_)
      refine JC.region ?_
      refine J.move rfl rfl ?_
      refine J.buildS Ty.pl82 Ty.z82 rfl rfl rfl ?_
      refine J.box rfl rfl rfl (fun b9 => ?_)
      refine J.assign rfl rfl ?_
      refine J.nil ?_
      refine JX.thenN (hK9 _ _ ?_)
      refine JC.ret ?_
      refine JX.ret1 rfl rfl (fun w hw => ?_)
      refine ⟨b9, rfl, ?_⟩
      rw [show min (max n 0) 128 = n from by omega]
      exact hw

theorem rget_spec (rt : Nat) (v : Value) (most : Int) (R : List EV) (w : World) (hrt : w.heap[rt]? = some (rtabO v most)) (hrv : Row w v R.length (fE R)) (hR : ∀ x, x ∈ R → okE x) (hrl : R.length ≤ 1099511627776) (p : PV) (hp : okN p.n) :
    Calls Try.prog 40 [.pointer (some ⟨rt, 0, none⟩), .agg (cP p).toArray].toArray w fun r w' => r = .returned (.tuple #[.agg (cE ((tget R p).getD zE)).toArray, .bool (tget R p).isSome]) ∧ Bel w w' := by
  obtain ⟨ar, cr, rfl, hcr, _⟩ := id hrv
  refine calls_of_J (args := [.pointer (some ⟨rt, 0, none⟩), .agg (cP p).toArray]) (e := [(0, .pointer (some ⟨rt, 0, none⟩)), (1, .agg (cP p).toArray)]) Try.func40 rfl rfl ⟨rfl, rfl, trivial⟩ (St.start w) ?_
  refine JC.seq (fun K0 hK0 => ?_)
  refine JC.region ?_
  refine J.box rfl rfl rfl (fun b3 => ?_)
  refine J.alloc Ty.zE_ rfl rfl (fun b4 => ?_)
  refine J.assign rfl rfl ?_
  refine J.nil ?_
  refine JX.thenN (hK0 _ _ ?_)
  refine JC.seq (fun K1 hK1 => ?_)
  refine JC.seq (fun K2 hK2 => ?_)
  refine JC.region ?_
  refine J.assign rfl rfl ?_
  refine J.nil ?_
  refine JX.thenN (hK2 _ _ ?_)
  refine JC.block ?_
  refine JC.conseq (JC.cov (f := (fun i => [(0, .pointer (some ⟨rt, 0, none⟩)), (3, .pointer (some ⟨b3, 0, none⟩)), (4, .pointer (some ⟨b4, 0, none⟩)), (6, .int .i64 ((i : Nat) : Int))]) 0) ⟨rfl, rfl, rfl, rfl, trivial⟩ (JC.loop (α := Nat) (fun i => [(0, .pointer (some ⟨rt, 0, none⟩)), (3, .pointer (some ⟨b3, 0, none⟩)), (4, .pointer (some ⟨b4, 0, none⟩)), (6, .int .i64 ((i : Nat) : Int))]) (fun i w' => (i ≤ R.length ∧ ∀ j y, j < i → R[j]? = some y → y.p ≠ p) ∧ St w [] [(b4, cb (cE zE) 34), (b3, cb (cP p) 25)] w') (fun i => R.length - i) 0 (fun i => ?_))) (fun w hw => ⟨⟨Nat.zero_le _, fun j y hj => by omega⟩, hw⟩)
  refine JC.pr (fun hx => ?_)
  obtain ⟨hi, hbef⟩ := hx
  refine JC.seq (fun K3 hK3 => ?_)
  refine JC.seq (fun K4 hK4 => ?_)
  refine JC.region ?_
  refine J.move rfl rfl ?_
  refine J.move rfl rfl ?_
  refine J.nilCheck rfl rfl ?_
  refine J.fieldAddr Ty.fd82_0 rfl rfl ?_
  refine J.load1 (v := .slice ar R.length cr) Ty.a62 rfl (fun w1 hw => by rw [cell_of (by rw [hw.keep rt (lt_of_some hrt) (by simp)]; exact hrt)]; rfl) rfl ?_
  refine J.lenS rfl Ty.u62 rfl rfl ?_
  refine J.bin rfl rfl rfl rfl ?_
  refine J.nil ?_
  refine JX.thenN (hK4 _ _ ?_)
  refine JC.cond rfl (fun h0 => ?_) (fun h0 => ?_)
  · skip
    have hlt : i < R.length := by simp at h0; omega
    have hflR := fE_length R
    have hclR := (Row.some hrv (by omega))
    obtain ⟨q1, o1, c1', hqe, _, _⟩ := hclR
    simp only [Value.slice.injEq] at hqe
    obtain ⟨rfl, _, rfl⟩ := hqe
    obtain ⟨xe, hxe⟩ : ∃ x, R[i]? = some x := ⟨_, List.getElem?_eq_getElem hlt⟩
    have hxo := hR xe (List.mem_of_getElem? hxe)
    refine JC.skip ?_
    refine JX.thenN (hK3 _ _ ?_)
    refine JC.seq (fun K5 hK5 => ?_)
    refine JC.block ?_
    refine JC.seq (fun K6 hK6 => ?_)
    apply JC.drawL 10 [Eqv (.pointer (some ⟨rt, 0, none⟩)), Eqv (.pointer (some ⟨rt, 0, none⟩)), Eqv (.pointer (some ⟨rt, 0 + 0, none⟩)), Eqv (.slice (some ⟨q1, o1, none⟩) R.length cr), Eqv (.int .i64 ((i : Nat) : Int)), Eqv (.pointer (some ⟨q1, o1 + (i : Int).toNat * 51, none⟩)), Eqv (.pointer (some ⟨q1, o1 + (i : Int).toNat * 51 + 0, none⟩)), Eqv (.agg (cP xe.p).toArray), Eqv (.agg (cP p).toArray), Eqv (.bool (decide (xe.p = p)))] Ty.mixed rfl rfl rfl (by kernel_rfl) rfl rfl (fun w w' hw hb => hw.step hb) ⟨fun _ _ _ h _ => h, fun _ _ _ h _ => h, fun _ _ _ h _ => h, fun _ _ _ h _ => h, fun _ _ _ h _ => h, fun _ _ _ h _ => h, fun _ _ _ h _ => h, fun _ _ _ h _ => h, fun _ _ _ h _ => h, fun _ _ _ h _ => h, trivial⟩ ?hstep ?htail
    case hstep =>
      refine ⟨fun wi => ?_, fun wi => ?_, fun wi => ?_, fun wi => ?_, fun wi => ?_, fun wi => ?_, fun wi => ?_, fun wi => ?_, fun wi => ?_, fun wi => ?_, trivial⟩
      · skip
        refine Fin.nil ?_
        refine J.move rfl rfl ?_
        exact J.finP rfl
      · skip
        refine Fin.consE rfl (Fin.nil ?_)
        refine J.nilCheck rfl rfl ?_
        exact J.finP rfl
      · skip
        refine Fin.consE rfl (Fin.nil ?_)
        refine J.fieldAddr Ty.fd82_0 rfl rfl ?_
        exact J.finP rfl
      · skip
        refine Fin.consE rfl (Fin.nil ?_)
        refine J.load1 (v := .slice (some ⟨q1, o1, none⟩) R.length cr) Ty.a62 rfl (fun w1 hw => by rw [cell_of (by rw [hw.2.keep rt (lt_of_some hrt) (by simp)]; exact hrt)]; rfl) rfl ?_
        exact J.finP rfl
      · skip
        refine Fin.nil ?_
        refine J.move rfl rfl ?_
        exact J.finP rfl
      · skip
        refine Fin.consE rfl (Fin.consE rfl (Fin.nil ?_))
        refine J.indexAddrS Ty.el62 Ty.s34 rfl rfl (by omega) (by omega) rfl ?_
        exact J.finP rfl
      · skip
        refine Fin.consE rfl (Fin.nil ?_)
        refine J.fieldAddr Ty.fd34_0 rfl rfl ?_
        exact J.finP rfl
      · skip
        refine Fin.consE rfl (Fin.nil ?_)
        refine J.loadA (vs := cP xe.p) Ty.a25 Ty.s25 rfl rfl (fun w1 hw => cells_sub (rowE_at (hrv.below (hw.2.drop (List.nil_sublist _)).below) hxe (by omega)) rfl) rfl ?_
        exact J.finP rfl
      · skip
        refine Fin.nil ?_
        refine J.loadA (vs := cP p) Ty.a25 Ty.s25 rfl rfl (fun w1 hw => Cells.of_block (hw.2.own _ (.tail _ (.head _))) rfl) rfl ?_
        exact J.finP rfl
      · skip
        refine Fin.consE rfl (Fin.consE rfl (Fin.nil ?_))
        refine J.eqP Ty.QP Ty.keyP rfl rfl hxo.1 hp rfl ?_
        exact J.finP rfl
    case htail =>
      refine Fin.consE rfl (Fin.consE rfl (Fin.consE rfl (Fin.consE rfl (Fin.consE rfl (Fin.consE rfl (Fin.consE rfl (Fin.consE rfl (Fin.consE rfl (Fin.consE rfl (Fin.nil ?_))))))))))
      refine J.nil ?_
      refine JX.thenN (hK6 _ _ ?_)
      refine JC.cond rfl (fun h1 => ?_) (fun h1 => ?_)
      · skip
        have heq : xe.p = p := by simpa using h1
        have hres := tget_at hxe heq hbef
        refine JC.seq (fun K7 hK7 => ?_)
        refine JC.region ?_
        refine J.move rfl rfl ?_
        refine J.nilCheck rfl rfl ?_
        refine J.fieldAddr Ty.fd82_0 rfl rfl ?_
        refine J.load1 (v := .slice (some ⟨q1, o1, none⟩) R.length cr) Ty.a62 rfl (fun w1 hw => by rw [cell_of (by rw [hw.keep rt (lt_of_some hrt) (by simp)]; exact hrt)]; rfl) rfl ?_
        refine J.move rfl rfl ?_
        refine J.indexAddrS Ty.el62 Ty.s34 rfl rfl (by omega) (by omega) rfl ?_
        refine J.loadA (vs := cE xe) Ty.a34 Ty.s34 rfl rfl (fun w1 hw => rowE_at (hrv.below (hw.drop (List.nil_sublist _)).below) hxe (by omega)) rfl ?_
        refine J.storeW (cs := cE zE) (vs := cE xe) Ty.s34 rfl rfl rfl rfl rfl (one_cE _) .here ?_
        refine J.assign rfl rfl ?_
        refine J.nil ?_
        refine JX.thenN (hK7 _ _ ?_)
        refine JC.ret ?_
        refine JX.blockR ?_
        refine JX.thenR ?_
        refine JX.thenR ?_
        refine JX.blockR ?_
        refine JX.thenR ?_
        refine JX.retCT rfl rfl rfl Ty.a34 Ty.s34 (vs := cE xe) rfl (fun w1 hw => Cells.of_block (hw.own _ (.head _)) rfl) (fun w1 hw => ?_)
        exact ⟨by rw [hres]; rfl, (hw.drop (List.nil_sublist _)).below⟩
      · skip
        have hne : xe.p ≠ p := by simpa using h1
        refine JC.skip ?_
        refine JX.blockN ?_
        refine JX.thenN (hK5 _ _ ?_)
        refine JC.region ?_
        refine J.move rfl rfl ?_
        (first | refine J.addN rfl rfl (by omega) (by omega) rfl ?_ | refine J.bin rfl rfl rfl rfl ?_)
        refine J.assign rfl rfl ?_
        refine J.nil ?_
        refine JX.thenN ?_
        refine JX.again (i + 1) ?_ ?_ ?_
        · omega
        · exact ⟨rfl, rfl, rfl, rfl, trivial⟩
        · exact fun w1 hw => ⟨⟨hlt, fun j y hj hy => by
          rcases Nat.lt_or_ge j i with h | h
          · exact hbef j y h hy
          · have : j = i := by omega
            subst this
            rw [hxe] at hy; cases hy; exact hne⟩, hw⟩
  · skip
    have hge : i = R.length := by simp at h0; omega
    have hres := tget_not (p := p) (fun j y hj => hbef j y (by omega))
    refine JC.exit ?_
    refine JX.thenE ?_
    refine JX.thenE ?_
    refine JX.blockE ?_
    refine JX.thenN (hK1 _ _ ?_)
    refine JC.seq (fun K8 hK8 => ?_)
    refine JC.region ?_
    refine J.buildS (cs := cE zE) Ty.pl34 Ty.zE_ rfl (by kernel_rfl) rfl ?_
    refine J.storeW (cs := cE zE) (vs := cE zE) Ty.s34 rfl rfl rfl rfl rfl (one_cE _) .here ?_
    refine J.assign rfl rfl ?_
    refine J.nil ?_
    refine JX.thenN (hK8 _ _ ?_)
    refine JC.ret ?_
    refine JX.retCT rfl rfl rfl Ty.a34 Ty.s34 (vs := cE zE) rfl (fun w1 hw => Cells.of_block (hw.own _ (.head _)) rfl) (fun w1 hw => ?_)
    exact ⟨by rw [hres]; rfl, (hw.drop (List.nil_sublist _)).below⟩

theorem rsame_spec (v1 v2 : Value) (xs ys : List EV) (w : World) (hr1 : Row w v1 xs.length (fE xs)) (hr2 : Row w v2 ys.length (fE ys)) (hx : ∀ x, x ∈ xs → okE x) (hy : ∀ x, x ∈ ys → okE x) (hl1 : xs.length < 4611686018427387904) (hl2 : ys.length < 4611686018427387904) :
    Calls Try.prog 26 [v1, v2].toArray w fun r w' => r = .returned (.bool (decide (xs = ys))) ∧ Bel w w' := by
  obtain ⟨a1, c1, rfl, hc1, _⟩ := id hr1
  obtain ⟨a2, c2, rfl, hc2, _⟩ := id hr2
  refine calls_of_J (args := [.slice a1 xs.length c1, .slice a2 ys.length c2]) (e := [(0, .slice a1 xs.length c1), (1, .slice a2 ys.length c2)]) Try.func26 rfl rfl ⟨rfl, rfl, trivial⟩ (St.start w) ?_
  refine JC.seq (fun K0 hK0 => ?_)
  refine JC.region ?_
  refine J.assign rfl rfl ?_
  refine J.nil ?_
  refine JX.thenN (hK0 _ _ ?_)
  refine JC.seq (fun K1 hK1 => ?_)
  refine JC.seq (fun K2 hK2 => ?_)
  refine JC.region ?_
  refine J.move rfl rfl ?_
  refine J.lenS rfl Ty.u62 rfl rfl ?_
  refine J.move rfl rfl ?_
  refine J.lenS rfl Ty.u62 rfl rfl ?_
  refine J.bin rfl rfl rfl rfl ?_
  refine J.nil ?_
  refine JX.thenN (hK2 _ _ ?_)
  refine JC.cond rfl (fun h0 => ?_) (fun h0 => ?_)
  · skip
    have hne : xs.length ≠ ys.length := by simp at h0; omega
    have hres : decide (xs = ys) = false := by simp; intro e; exact hne (by rw [e])
    refine JC.seq (fun K3 hK3 => ?_)
    refine JC.region ?_
    refine J.assign rfl rfl ?_
    refine J.nil ?_
    refine JX.thenN (hK3 _ _ ?_)
    refine JC.ret ?_
    refine JX.thenR ?_
    refine JX.ret1 rfl rfl (fun w hw => ?_)
    exact ⟨by rw [hres], hw.below⟩
  · skip
    have hle : xs.length = ys.length := by simp at h0; omega
    refine JC.skip ?_
    refine JX.thenN (hK1 _ _ ?_)
    refine JC.seq (fun K4 hK4 => ?_)
    refine JC.seq (fun K5 hK5 => ?_)
    refine JC.region ?_
    refine J.assign rfl rfl ?_
    refine J.nil ?_
    refine JX.thenN (hK5 _ _ ?_)
    refine JC.block ?_
    refine JC.conseq (JC.cov (f := (fun i => [(0, .slice a1 xs.length c1), (1, .slice a2 ys.length c2), (5, .int .i64 ((i : Nat) : Int))]) 0) ⟨rfl, rfl, rfl, trivial⟩ (JC.loop (α := Nat) (fun i => [(0, .slice a1 xs.length c1), (1, .slice a2 ys.length c2), (5, .int .i64 ((i : Nat) : Int))]) (fun i w' => (i ≤ xs.length ∧ ∀ j, j < i → xs[j]? = ys[j]?) ∧ St w [] [] w') (fun i => xs.length - i) 0 (fun i => ?_))) (fun w hw => ⟨⟨Nat.zero_le _, fun j hj => by omega⟩, hw⟩)
    refine JC.pr (fun hx => ?_)
    obtain ⟨hi, hpre⟩ := hx
    refine JC.seq (fun K6 hK6 => ?_)
    refine JC.seq (fun K7 hK7 => ?_)
    refine JC.region ?_
    refine J.move rfl rfl ?_
    refine J.move rfl rfl ?_
    refine J.lenS rfl Ty.u62 rfl rfl ?_
    refine J.bin rfl rfl rfl rfl ?_
    refine J.nil ?_
    refine JX.thenN (hK7 _ _ ?_)
    refine JC.cond rfl (fun h1 => ?_) (fun h1 => ?_)
    · skip
      have hlt : i < xs.length := by simp at h1; omega
      have hlt2 : i < ys.length := by omega
      have hfxs := fE_length xs
      have hcl := (Row.some hr1 (by omega))
      obtain ⟨q1, o1, c1', hqe, _, _⟩ := hcl
      simp only [Value.slice.injEq] at hqe
      obtain ⟨rfl, _, rfl⟩ := hqe
      have hfys := fE_length ys
      have hcl := (Row.some hr2 (by omega))
      obtain ⟨q2, o2, c2', hqe, _, _⟩ := hcl
      simp only [Value.slice.injEq] at hqe
      obtain ⟨rfl, _, rfl⟩ := hqe
      obtain ⟨xa, hxa⟩ : ∃ x, xs[i]? = some x := ⟨_, List.getElem?_eq_getElem hlt⟩
      obtain ⟨yb, hyb⟩ : ∃ x, ys[i]? = some x := ⟨_, List.getElem?_eq_getElem hlt2⟩
      have hxo := hx xa (List.mem_of_getElem? hxa)
      have hyo := hy yb (List.mem_of_getElem? hyb)
      refine JC.skip ?_
      refine JX.thenN (hK6 _ _ ?_)
      refine JC.seq (fun K8 hK8 => ?_)
      refine JC.block ?_
      refine JC.seq (fun K9 hK9 => ?_)
      apply JC.drawL 9 [Eqv (.slice (some ⟨q1, o1, none⟩) xs.length c1), Eqv (.int .i64 ((i : Nat) : Int)), Eqv (.pointer (some ⟨q1, o1 + (i : Int).toNat * 51, none⟩)), Eqv (.agg (cE xa).toArray), Eqv (.slice (some ⟨q2, o2, none⟩) ys.length c2), Eqv (.int .i64 ((i : Nat) : Int)), Eqv (.pointer (some ⟨q2, o2 + (i : Int).toNat * 51, none⟩)), Eqv (.agg (cE yb).toArray), Eqv (.bool (!decide (xa = yb)))] Ty.mixed rfl rfl rfl (by kernel_rfl) rfl rfl (fun w w' hw hb => hw.step hb) ⟨fun _ _ _ h _ => h, fun _ _ _ h _ => h, fun _ _ _ h _ => h, fun _ _ _ h _ => h, fun _ _ _ h _ => h, fun _ _ _ h _ => h, fun _ _ _ h _ => h, fun _ _ _ h _ => h, fun _ _ _ h _ => h, trivial⟩ ?hstep ?htail
      case hstep =>
        refine ⟨fun wi => ?_, fun wi => ?_, fun wi => ?_, fun wi => ?_, fun wi => ?_, fun wi => ?_, fun wi => ?_, fun wi => ?_, fun wi => ?_, trivial⟩
        · skip
          refine Fin.nil ?_
          refine J.move rfl rfl ?_
          exact J.finP rfl
        · skip
          refine Fin.nil ?_
          refine J.move rfl rfl ?_
          exact J.finP rfl
        · skip
          refine Fin.consE rfl (Fin.consE rfl (Fin.nil ?_))
          refine J.indexAddrS Ty.el62 Ty.s34 rfl rfl (by omega) (by omega) rfl ?_
          exact J.finP rfl
        · skip
          refine Fin.consE rfl (Fin.nil ?_)
          refine J.loadA (vs := cE xa) Ty.a34 Ty.s34 rfl rfl (fun w1 hw => rowE_at (hr1.below hw.2.below) hxa (by omega)) rfl ?_
          exact J.finP rfl
        · skip
          refine Fin.nil ?_
          refine J.move rfl rfl ?_
          exact J.finP rfl
        · skip
          refine Fin.nil ?_
          refine J.move rfl rfl ?_
          exact J.finP rfl
        · skip
          refine Fin.consE rfl (Fin.consE rfl (Fin.nil ?_))
          refine J.indexAddrS Ty.el62 Ty.s34 rfl rfl (by omega) (by omega) rfl ?_
          exact J.finP rfl
        · skip
          refine Fin.consE rfl (Fin.nil ?_)
          refine J.loadA (vs := cE yb) Ty.a34 Ty.s34 rfl rfl (fun w1 hw => rowE_at (hr2.below hw.2.below) hyb (by omega)) rfl ?_
          exact J.finP rfl
        · skip
          refine Fin.consE rfl (Fin.consE rfl (Fin.nil ?_))
          refine J.neE Ty.QE Ty.keyE rfl rfl hxo hyo rfl ?_
          exact J.finP rfl
      case htail =>
        refine Fin.consE rfl (Fin.consE rfl (Fin.consE rfl (Fin.consE rfl (Fin.consE rfl (Fin.consE rfl (Fin.consE rfl (Fin.consE rfl (Fin.consE rfl (Fin.nil ?_)))))))))
        refine J.nil ?_
        refine JX.thenN (hK9 _ _ ?_)
        refine JC.cond rfl (fun h2 => ?_) (fun h2 => ?_)
        · skip
          have hne : xa ≠ yb := by simpa using h2
          have hres : decide (xs = ys) = false := by rw [decide_eq_false_iff_not]; intro e; rw [e, hyb] at hxa; cases hxa; exact hne rfl
          refine JC.seq (fun K10 hK10 => ?_)
          refine JC.region ?_
          refine J.assign rfl rfl ?_
          refine J.nil ?_
          refine JX.thenN (hK10 _ _ ?_)
          refine JC.ret ?_
          refine JX.blockR ?_
          refine JX.thenR ?_
          refine JX.thenR ?_
          refine JX.blockR ?_
          refine JX.thenR ?_
          refine JX.ret1 rfl rfl (fun w hw => ?_)
          exact ⟨by rw [hres], hw.below⟩
        · skip
          have heq : xa = yb := by simpa using h2
          refine JC.skip ?_
          refine JX.blockN ?_
          refine JX.thenN (hK8 _ _ ?_)
          refine JC.region ?_
          refine J.move rfl rfl ?_
          (first | refine J.addN rfl rfl (by omega) (by omega) rfl ?_ | refine J.bin rfl rfl rfl rfl ?_)
          refine J.assign rfl rfl ?_
          refine J.nil ?_
          refine JX.thenN ?_
          refine JX.again (i + 1) ?_ ?_ ?_
          · omega
          · exact ⟨rfl, rfl, rfl, trivial⟩
          · exact fun w1 hw => ⟨⟨hlt, fun j hj => by
            rcases Nat.lt_or_ge j i with h | h
            · exact hpre j h
            · have : j = i := by omega
              subst this
              rw [hxa, hyb, heq]⟩, hw⟩
    · skip
      have hge : i = xs.length := by simp at h1; omega
      have hres : decide (xs = ys) = true := by simpa using same_uptoE hle hpre hge
      refine JC.exit ?_
      refine JX.thenE ?_
      refine JX.thenE ?_
      refine JX.blockE ?_
      refine JX.thenN (hK4 _ _ ?_)
      refine JC.seq (fun K11 hK11 => ?_)
      refine JC.region ?_
      refine J.assign rfl rfl ?_
      refine J.nil ?_
      refine JX.thenN (hK11 _ _ ?_)
      refine JC.ret ?_
      refine JX.ret1 rfl rfl (fun w hw => ?_)
      exact ⟨by rw [hres], hw.below⟩

end Go.Proofs.Ytpldpkdlloolkaa
/-
  Other; the document's Right, Add and Remove: contracts.
-/
namespace Go.Proofs.Ytpldpkdlloolkaa
open Go.J Go.RowKit
set_option linter.unusedVariables false
set_option linter.unusedSimpArgs false
set_option maxRecDepth 4000
/-- an entry put in at its place -/
def insE : List EV → EV → List EV
  | [], x => [x]
  | y :: l, x => if ltP y.p x.p then y :: insE l x else x :: y :: l
def posE (R : List EV) (x : EV) : Nat := (R.takeWhile (fun y => ltP y.p x.p)).length
theorem insE_pos : ∀ (R : List EV) (x : EV), insE R x = R.take (posE R x) ++ x :: R.drop (posE R x)
  | [], x => rfl
  | y :: R, x => by
    unfold insE posE
    rw [List.takeWhile_cons]
    cases h : ltP y.p x.p
    · rfl
    · simp only [if_true, List.length_cons, List.take_succ_cons, List.drop_succ_cons, List.cons_append]
      rw [insE_pos R x]
      rfl
theorem posE_of : ∀ {R : List EV} {x : EV} {k : Nat}, k ≤ R.length → (∀ j y, j < k → R[j]? = some y → ltP y.p x.p = true) → (∀ y, R[k]? = some y → ltP y.p x.p = false) → posE R x = k
  | [], x, k, hk, _, _ => by simp at hk; subst hk; rfl
  | y :: R, x, 0, _, _, h2 => by
    have := h2 y rfl
    unfold posE
    rw [List.takeWhile_cons, this]
    rfl
  | y :: R, x, k + 1, hk, h1, h2 => by
    have h3 := h1 0 y (by omega) rfl
    have ih := posE_of (R := R) (x := x) (k := k) (by simpa using hk) (fun j z hj hz => h1 (j + 1) z (by omega) (by simpa using hz)) (fun z hz => h2 z (by simpa using hz))
    unfold posE at ih ⊢
    rw [List.takeWhile_cons, h3]
    simp only [if_true, List.length_cons, ih]
/-- what the document's Add answers, and leaves -/
def radd (R : List EV) (most : Int) (x : EV) : Int × List EV :=
  if ¬ rightP x then (1, R) else if (tget R x.p).isSome then (7, R) else if most ≤ (R.length : Int) then (5, R) else (0, insE R x)

theorem rright_spec (x : EV) (w : World) :
    Calls Try.prog 34 [.agg (cE x).toArray].toArray w fun r w' => r = .returned (.bool (decide (rightP x))) ∧ Bel w w' := by
  refine calls_of_J (args := [.agg (cE x).toArray]) (e := [(0, .agg (cE x).toArray)]) Try.func34 rfl rfl ⟨rfl, trivial⟩ (St.start w) ?_
  refine JC.seq (fun K0 hK0 => ?_)
  refine JC.region ?_
  refine J.box rfl rfl rfl (fun b1 => ?_)
  refine J.assign rfl rfl ?_
  refine J.nil ?_
  refine JX.thenN (hK0 _ _ ?_)
  refine JC.seq (fun K1 hK1 => ?_)
  refine JC.region ?_
  refine J.fieldAddr Ty.fd34_1 rfl rfl ?_
  refine J.loadOA (vs := cI x.a) Ty.a23 Ty.s23 rfl (.head _) rfl rfl rfl ?_
  refine J.fieldAddr Ty.fd34_2 rfl rfl ?_
  refine J.loadOA (vs := cI x.b) Ty.a23 Ty.s23 rfl (.head _) rfl rfl rfl ?_
  refine J.neI Ty.QI Ty.keyI rfl rfl rfl ?_
  refine J.move rfl rfl ?_
  refine J.split 8 rfl (fun hs8 => ?_) (fun hs8 => ?_)
  · skip
    try simp only [decide_eq_true_eq, decide_eq_false_iff_not, beq_iff_eq, bne_iff_ne, bne_eq_false_iff_eq, ne_eq, beq_eq_false_iff_ne, Bool.not_eq_true, Bool.not_eq_false, Int.not_lt, Int.not_le] at hs8
    first
    | exact absurd hs8 (by decide)
    | skip
      first | refine J.skip rfl rfl rfl rfl rfl ?_ | refine J.skipU rfl rfl rfl rfl ?_ | (refine J.unguard rfl rfl rfl ?_; refine J.fieldAddr Ty.fd34_3 rfl rfl ?_)
      first | refine J.skip rfl rfl rfl rfl rfl ?_ | refine J.skipU rfl rfl rfl rfl ?_ | (refine J.unguard rfl rfl rfl ?_; refine J.loadO Ty.a3 rfl (by repeat first | exact .head _ | apply List.Mem.tail | apply List.mem_append_right) (by exact rfl) rfl ?_)
      first | refine J.skip rfl rfl rfl rfl rfl ?_ | refine J.skipU rfl rfl rfl rfl ?_ | (refine J.unguard rfl rfl rfl ?_; refine J.fieldAddr Ty.fd34_4 rfl rfl ?_)
      first | refine J.skip rfl rfl rfl rfl rfl ?_ | refine J.skipU rfl rfl rfl rfl ?_ | (refine J.unguard rfl rfl rfl ?_; refine J.loadO Ty.a3 rfl (by repeat first | exact .head _ | apply List.Mem.tail | apply List.mem_append_right) (by exact rfl) rfl ?_)
      first | refine J.skip rfl rfl rfl rfl rfl ?_ | refine J.skipU rfl rfl rfl rfl ?_ | (refine J.unguard rfl rfl rfl ?_; refine J.bin rfl rfl rfl rfl ?_)
      (first | refine J.pickT rfl rfl rfl ?_ | refine J.pickF rfl rfl rfl ?_)
      refine J.move rfl rfl ?_
      refine J.split 15 rfl (fun hs15 => ?_) (fun hs15 => ?_)
      · skip
        try simp only [decide_eq_true_eq, decide_eq_false_iff_not, beq_iff_eq, bne_iff_ne, bne_eq_false_iff_eq, ne_eq, beq_eq_false_iff_ne, Bool.not_eq_true, Bool.not_eq_false, Int.not_lt, Int.not_le] at hs15
        first
        | exact absurd hs15 (by decide)
        | skip
          first | refine J.skip rfl rfl rfl rfl rfl ?_ | refine J.skipU rfl rfl rfl rfl ?_ | (refine J.unguard rfl rfl rfl ?_; refine J.fieldAddr Ty.fd34_3 rfl rfl ?_)
          first | refine J.skip rfl rfl rfl rfl rfl ?_ | refine J.skipU rfl rfl rfl rfl ?_ | (refine J.unguard rfl rfl rfl ?_; refine J.loadO Ty.a3 rfl (by repeat first | exact .head _ | apply List.Mem.tail | apply List.mem_append_right) (by exact rfl) rfl ?_)
          first | refine J.skip rfl rfl rfl rfl rfl ?_ | refine J.skipU rfl rfl rfl rfl ?_ | (refine J.unguard rfl rfl rfl ?_; refine J.bin rfl rfl rfl rfl ?_)
          (first | refine J.pickT rfl rfl rfl ?_ | refine J.pickF rfl rfl rfl ?_)
          refine J.move rfl rfl ?_
          refine J.split 20 rfl (fun hs20 => ?_) (fun hs20 => ?_)
          · skip
            try simp only [decide_eq_true_eq, decide_eq_false_iff_not, beq_iff_eq, bne_iff_ne, bne_eq_false_iff_eq, ne_eq, beq_eq_false_iff_ne, Bool.not_eq_true, Bool.not_eq_false, Int.not_lt, Int.not_le] at hs20
            first
            | exact absurd hs20 (by decide)
            | skip
              first | refine J.skip rfl rfl rfl rfl rfl ?_ | refine J.skipU rfl rfl rfl rfl ?_ | (refine J.unguard rfl rfl rfl ?_; refine J.fieldAddr Ty.fd34_3 rfl rfl ?_)
              first | refine J.skip rfl rfl rfl rfl rfl ?_ | refine J.skipU rfl rfl rfl rfl ?_ | (refine J.unguard rfl rfl rfl ?_; refine J.loadO Ty.a3 rfl (by repeat first | exact .head _ | apply List.Mem.tail | apply List.mem_append_right) (by exact rfl) rfl ?_)
              first | refine J.skip rfl rfl rfl rfl rfl ?_ | refine J.skipU rfl rfl rfl rfl ?_ | (refine J.unguard rfl rfl rfl ?_; refine J.bin rfl rfl rfl rfl ?_)
              (first | refine J.pickT rfl rfl rfl ?_ | refine J.pickF rfl rfl rfl ?_)
              refine J.move rfl rfl ?_
              refine J.split 25 rfl (fun hs25 => ?_) (fun hs25 => ?_)
              · skip
                try simp only [decide_eq_true_eq, decide_eq_false_iff_not, beq_iff_eq, bne_iff_ne, bne_eq_false_iff_eq, ne_eq, beq_eq_false_iff_ne, Bool.not_eq_true, Bool.not_eq_false, Int.not_lt, Int.not_le] at hs25
                first
                | exact absurd hs25 (by decide)
                | skip
                  first | refine J.skip rfl rfl rfl rfl rfl ?_ | refine J.skipU rfl rfl rfl rfl ?_ | (refine J.unguard rfl rfl rfl ?_; refine J.fieldAddr Ty.fd34_4 rfl rfl ?_)
                  first | refine J.skip rfl rfl rfl rfl rfl ?_ | refine J.skipU rfl rfl rfl rfl ?_ | (refine J.unguard rfl rfl rfl ?_; refine J.loadO Ty.a3 rfl (by repeat first | exact .head _ | apply List.Mem.tail | apply List.mem_append_right) (by exact rfl) rfl ?_)
                  first | refine J.skip rfl rfl rfl rfl rfl ?_ | refine J.skipU rfl rfl rfl rfl ?_ | (refine J.unguard rfl rfl rfl ?_; refine J.bin rfl rfl rfl rfl ?_)
                  (first | refine J.pickT rfl rfl rfl ?_ | refine J.pickF rfl rfl rfl ?_)
                  refine J.move rfl rfl ?_
                  refine J.split 30 rfl (fun hs30 => ?_) (fun hs30 => ?_)
                  · skip
                    try simp only [decide_eq_true_eq, decide_eq_false_iff_not, beq_iff_eq, bne_iff_ne, bne_eq_false_iff_eq, ne_eq, beq_eq_false_iff_ne, Bool.not_eq_true, Bool.not_eq_false, Int.not_lt, Int.not_le] at hs30
                    first
                    | exact absurd hs30 (by decide)
                    | skip
                      first | refine J.skip rfl rfl rfl rfl rfl ?_ | refine J.skipU rfl rfl rfl rfl ?_ | (refine J.unguard rfl rfl rfl ?_; refine J.fieldAddr Ty.fd34_4 rfl rfl ?_)
                      first | refine J.skip rfl rfl rfl rfl rfl ?_ | refine J.skipU rfl rfl rfl rfl ?_ | (refine J.unguard rfl rfl rfl ?_; refine J.loadO Ty.a3 rfl (by repeat first | exact .head _ | apply List.Mem.tail | apply List.mem_append_right) (by exact rfl) rfl ?_)
                      first | refine J.skip rfl rfl rfl rfl rfl ?_ | refine J.skipU rfl rfl rfl rfl ?_ | (refine J.unguard rfl rfl rfl ?_; refine J.bin rfl rfl rfl rfl ?_)
                      (first | refine J.pickT rfl rfl rfl ?_ | refine J.pickF rfl rfl rfl ?_)
                      refine J.assign rfl rfl ?_
                      refine J.nil ?_
                      refine JX.thenN (hK1 _ _ ?_)
                      refine JC.ret ?_
                      refine JX.ret1 rfl rfl (fun w hw => ?_)
                      refine ⟨ret_bool ?_, (hw.drop (List.nil_sublist _)).below⟩
                      first | (simp_all [rightP, okTN]; done) | (simp [rightP, okTN] at *; omega) | (simp_all [rightP, okTN]; omega)
                  · skip
                    try simp only [decide_eq_true_eq, decide_eq_false_iff_not, beq_iff_eq, bne_iff_ne, bne_eq_false_iff_eq, ne_eq, beq_eq_false_iff_ne, Bool.not_eq_true, Bool.not_eq_false, Int.not_lt, Int.not_le] at hs30
                    first
                    | exact absurd hs30 (by decide)
                    | skip
                      first | refine J.skip rfl rfl rfl rfl rfl ?_ | refine J.skipU rfl rfl rfl rfl ?_ | (refine J.unguard rfl rfl rfl ?_; refine J.fieldAddr Ty.fd34_4 rfl rfl ?_)
                      first | refine J.skip rfl rfl rfl rfl rfl ?_ | refine J.skipU rfl rfl rfl rfl ?_ | (refine J.unguard rfl rfl rfl ?_; refine J.loadO Ty.a3 rfl (by repeat first | exact .head _ | apply List.Mem.tail | apply List.mem_append_right) (by exact rfl) rfl ?_)
                      first | refine J.skip rfl rfl rfl rfl rfl ?_ | refine J.skipU rfl rfl rfl rfl ?_ | (refine J.unguard rfl rfl rfl ?_; refine J.bin rfl rfl rfl rfl ?_)
                      (first | refine J.pickT rfl rfl rfl ?_ | refine J.pickF rfl rfl rfl ?_)
                      refine J.assign rfl rfl ?_
                      refine J.nil ?_
                      refine JX.thenN (hK1 _ _ ?_)
                      refine JC.ret ?_
                      refine JX.ret1 rfl rfl (fun w hw => ?_)
                      refine ⟨ret_bool ?_, (hw.drop (List.nil_sublist _)).below⟩
                      first | (simp_all [rightP, okTN]; done) | (simp [rightP, okTN] at *; omega) | (simp_all [rightP, okTN]; omega)
              · skip
                try simp only [decide_eq_true_eq, decide_eq_false_iff_not, beq_iff_eq, bne_iff_ne, bne_eq_false_iff_eq, ne_eq, beq_eq_false_iff_ne, Bool.not_eq_true, Bool.not_eq_false, Int.not_lt, Int.not_le] at hs25
                first
                | exact absurd hs25 (by decide)
                | skip
                  first | refine J.skip rfl rfl rfl rfl rfl ?_ | refine J.skipU rfl rfl rfl rfl ?_ | (refine J.unguard rfl rfl rfl ?_; refine J.fieldAddr Ty.fd34_4 rfl rfl ?_)
                  first | refine J.skip rfl rfl rfl rfl rfl ?_ | refine J.skipU rfl rfl rfl rfl ?_ | (refine J.unguard rfl rfl rfl ?_; refine J.loadO Ty.a3 rfl (by repeat first | exact .head _ | apply List.Mem.tail | apply List.mem_append_right) (by exact rfl) rfl ?_)
                  first | refine J.skip rfl rfl rfl rfl rfl ?_ | refine J.skipU rfl rfl rfl rfl ?_ | (refine J.unguard rfl rfl rfl ?_; refine J.bin rfl rfl rfl rfl ?_)
                  (first | refine J.pickT rfl rfl rfl ?_ | refine J.pickF rfl rfl rfl ?_)
                  refine J.move rfl rfl ?_
                  first | refine J.skip rfl rfl rfl rfl rfl ?_ | refine J.skipU rfl rfl rfl rfl ?_ | (refine J.unguard rfl rfl rfl ?_; refine J.fieldAddr Ty.fd34_4 rfl rfl ?_)
                  first | refine J.skip rfl rfl rfl rfl rfl ?_ | refine J.skipU rfl rfl rfl rfl ?_ | (refine J.unguard rfl rfl rfl ?_; refine J.loadO Ty.a3 rfl (by repeat first | exact .head _ | apply List.Mem.tail | apply List.mem_append_right) (by exact rfl) rfl ?_)
                  first | refine J.skip rfl rfl rfl rfl rfl ?_ | refine J.skipU rfl rfl rfl rfl ?_ | (refine J.unguard rfl rfl rfl ?_; refine J.bin rfl rfl rfl rfl ?_)
                  (first | refine J.pickT rfl rfl rfl ?_ | refine J.pickF rfl rfl rfl ?_)
                  refine J.assign rfl rfl ?_
                  refine J.nil ?_
                  refine JX.thenN (hK1 _ _ ?_)
                  refine JC.ret ?_
                  refine JX.ret1 rfl rfl (fun w hw => ?_)
                  refine ⟨ret_bool ?_, (hw.drop (List.nil_sublist _)).below⟩
                  first | (simp_all [rightP, okTN]; done) | (simp [rightP, okTN] at *; omega) | (simp_all [rightP, okTN]; omega)
          · skip
            try simp only [decide_eq_true_eq, decide_eq_false_iff_not, beq_iff_eq, bne_iff_ne, bne_eq_false_iff_eq, ne_eq, beq_eq_false_iff_ne, Bool.not_eq_true, Bool.not_eq_false, Int.not_lt, Int.not_le] at hs20
            first
            | exact absurd hs20 (by decide)
            | skip
              first | refine J.skip rfl rfl rfl rfl rfl ?_ | refine J.skipU rfl rfl rfl rfl ?_ | (refine J.unguard rfl rfl rfl ?_; refine J.fieldAddr Ty.fd34_3 rfl rfl ?_)
              first | refine J.skip rfl rfl rfl rfl rfl ?_ | refine J.skipU rfl rfl rfl rfl ?_ | (refine J.unguard rfl rfl rfl ?_; refine J.loadO Ty.a3 rfl (by repeat first | exact .head _ | apply List.Mem.tail | apply List.mem_append_right) (by exact rfl) rfl ?_)
              first | refine J.skip rfl rfl rfl rfl rfl ?_ | refine J.skipU rfl rfl rfl rfl ?_ | (refine J.unguard rfl rfl rfl ?_; refine J.bin rfl rfl rfl rfl ?_)
              (first | refine J.pickT rfl rfl rfl ?_ | refine J.pickF rfl rfl rfl ?_)
              refine J.move rfl rfl ?_
              first | refine J.skip rfl rfl rfl rfl rfl ?_ | refine J.skipU rfl rfl rfl rfl ?_ | (refine J.unguard rfl rfl rfl ?_; refine J.fieldAddr Ty.fd34_4 rfl rfl ?_)
              first | refine J.skip rfl rfl rfl rfl rfl ?_ | refine J.skipU rfl rfl rfl rfl ?_ | (refine J.unguard rfl rfl rfl ?_; refine J.loadO Ty.a3 rfl (by repeat first | exact .head _ | apply List.Mem.tail | apply List.mem_append_right) (by exact rfl) rfl ?_)
              first | refine J.skip rfl rfl rfl rfl rfl ?_ | refine J.skipU rfl rfl rfl rfl ?_ | (refine J.unguard rfl rfl rfl ?_; refine J.bin rfl rfl rfl rfl ?_)
              (first | refine J.pickT rfl rfl rfl ?_ | refine J.pickF rfl rfl rfl ?_)
              refine J.move rfl rfl ?_
              first | refine J.skip rfl rfl rfl rfl rfl ?_ | refine J.skipU rfl rfl rfl rfl ?_ | (refine J.unguard rfl rfl rfl ?_; refine J.fieldAddr Ty.fd34_4 rfl rfl ?_)
              first | refine J.skip rfl rfl rfl rfl rfl ?_ | refine J.skipU rfl rfl rfl rfl ?_ | (refine J.unguard rfl rfl rfl ?_; refine J.loadO Ty.a3 rfl (by repeat first | exact .head _ | apply List.Mem.tail | apply List.mem_append_right) (by exact rfl) rfl ?_)
              first | refine J.skip rfl rfl rfl rfl rfl ?_ | refine J.skipU rfl rfl rfl rfl ?_ | (refine J.unguard rfl rfl rfl ?_; refine J.bin rfl rfl rfl rfl ?_)
              (first | refine J.pickT rfl rfl rfl ?_ | refine J.pickF rfl rfl rfl ?_)
              refine J.assign rfl rfl ?_
              refine J.nil ?_
              refine JX.thenN (hK1 _ _ ?_)
              refine JC.ret ?_
              refine JX.ret1 rfl rfl (fun w hw => ?_)
              refine ⟨ret_bool ?_, (hw.drop (List.nil_sublist _)).below⟩
              first | (simp_all [rightP, okTN]; done) | (simp [rightP, okTN] at *; omega) | (simp_all [rightP, okTN]; omega)
      · skip
        try simp only [decide_eq_true_eq, decide_eq_false_iff_not, beq_iff_eq, bne_iff_ne, bne_eq_false_iff_eq, ne_eq, beq_eq_false_iff_ne, Bool.not_eq_true, Bool.not_eq_false, Int.not_lt, Int.not_le] at hs15
        first
        | exact absurd hs15 (by decide)
        | skip
          first | refine J.skip rfl rfl rfl rfl rfl ?_ | refine J.skipU rfl rfl rfl rfl ?_ | (refine J.unguard rfl rfl rfl ?_; refine J.fieldAddr Ty.fd34_3 rfl rfl ?_)
          first | refine J.skip rfl rfl rfl rfl rfl ?_ | refine J.skipU rfl rfl rfl rfl ?_ | (refine J.unguard rfl rfl rfl ?_; refine J.loadO Ty.a3 rfl (by repeat first | exact .head _ | apply List.Mem.tail | apply List.mem_append_right) (by exact rfl) rfl ?_)
          first | refine J.skip rfl rfl rfl rfl rfl ?_ | refine J.skipU rfl rfl rfl rfl ?_ | (refine J.unguard rfl rfl rfl ?_; refine J.bin rfl rfl rfl rfl ?_)
          (first | refine J.pickT rfl rfl rfl ?_ | refine J.pickF rfl rfl rfl ?_)
          refine J.move rfl rfl ?_
          first | refine J.skip rfl rfl rfl rfl rfl ?_ | refine J.skipU rfl rfl rfl rfl ?_ | (refine J.unguard rfl rfl rfl ?_; refine J.fieldAddr Ty.fd34_3 rfl rfl ?_)
          first | refine J.skip rfl rfl rfl rfl rfl ?_ | refine J.skipU rfl rfl rfl rfl ?_ | (refine J.unguard rfl rfl rfl ?_; refine J.loadO Ty.a3 rfl (by repeat first | exact .head _ | apply List.Mem.tail | apply List.mem_append_right) (by exact rfl) rfl ?_)
          first | refine J.skip rfl rfl rfl rfl rfl ?_ | refine J.skipU rfl rfl rfl rfl ?_ | (refine J.unguard rfl rfl rfl ?_; refine J.bin rfl rfl rfl rfl ?_)
          (first | refine J.pickT rfl rfl rfl ?_ | refine J.pickF rfl rfl rfl ?_)
          refine J.move rfl rfl ?_
          first | refine J.skip rfl rfl rfl rfl rfl ?_ | refine J.skipU rfl rfl rfl rfl ?_ | (refine J.unguard rfl rfl rfl ?_; refine J.fieldAddr Ty.fd34_4 rfl rfl ?_)
          first | refine J.skip rfl rfl rfl rfl rfl ?_ | refine J.skipU rfl rfl rfl rfl ?_ | (refine J.unguard rfl rfl rfl ?_; refine J.loadO Ty.a3 rfl (by repeat first | exact .head _ | apply List.Mem.tail | apply List.mem_append_right) (by exact rfl) rfl ?_)
          first | refine J.skip rfl rfl rfl rfl rfl ?_ | refine J.skipU rfl rfl rfl rfl ?_ | (refine J.unguard rfl rfl rfl ?_; refine J.bin rfl rfl rfl rfl ?_)
          (first | refine J.pickT rfl rfl rfl ?_ | refine J.pickF rfl rfl rfl ?_)
          refine J.move rfl rfl ?_
          first | refine J.skip rfl rfl rfl rfl rfl ?_ | refine J.skipU rfl rfl rfl rfl ?_ | (refine J.unguard rfl rfl rfl ?_; refine J.fieldAddr Ty.fd34_4 rfl rfl ?_)
          first | refine J.skip rfl rfl rfl rfl rfl ?_ | refine J.skipU rfl rfl rfl rfl ?_ | (refine J.unguard rfl rfl rfl ?_; refine J.loadO Ty.a3 rfl (by repeat first | exact .head _ | apply List.Mem.tail | apply List.mem_append_right) (by exact rfl) rfl ?_)
          first | refine J.skip rfl rfl rfl rfl rfl ?_ | refine J.skipU rfl rfl rfl rfl ?_ | (refine J.unguard rfl rfl rfl ?_; refine J.bin rfl rfl rfl rfl ?_)
          (first | refine J.pickT rfl rfl rfl ?_ | refine J.pickF rfl rfl rfl ?_)
          refine J.assign rfl rfl ?_
          refine J.nil ?_
          refine JX.thenN (hK1 _ _ ?_)
          refine JC.ret ?_
          refine JX.ret1 rfl rfl (fun w hw => ?_)
          refine ⟨ret_bool ?_, (hw.drop (List.nil_sublist _)).below⟩
          first | (simp_all [rightP, okTN]; done) | (simp [rightP, okTN] at *; omega) | (simp_all [rightP, okTN]; omega)
  · skip
    try simp only [decide_eq_true_eq, decide_eq_false_iff_not, beq_iff_eq, bne_iff_ne, bne_eq_false_iff_eq, ne_eq, beq_eq_false_iff_ne, Bool.not_eq_true, Bool.not_eq_false, Int.not_lt, Int.not_le] at hs8
    first
    | exact absurd hs8 (by decide)
    | skip
      first | refine J.skip rfl rfl rfl rfl rfl ?_ | refine J.skipU rfl rfl rfl rfl ?_ | (refine J.unguard rfl rfl rfl ?_; refine J.fieldAddr Ty.fd34_3 rfl rfl ?_)
      first | refine J.skip rfl rfl rfl rfl rfl ?_ | refine J.skipU rfl rfl rfl rfl ?_ | (refine J.unguard rfl rfl rfl ?_; refine J.loadO Ty.a3 rfl (by repeat first | exact .head _ | apply List.Mem.tail | apply List.mem_append_right) (by exact rfl) rfl ?_)
      first | refine J.skip rfl rfl rfl rfl rfl ?_ | refine J.skipU rfl rfl rfl rfl ?_ | (refine J.unguard rfl rfl rfl ?_; refine J.fieldAddr Ty.fd34_4 rfl rfl ?_)
      first | refine J.skip rfl rfl rfl rfl rfl ?_ | refine J.skipU rfl rfl rfl rfl ?_ | (refine J.unguard rfl rfl rfl ?_; refine J.loadO Ty.a3 rfl (by repeat first | exact .head _ | apply List.Mem.tail | apply List.mem_append_right) (by exact rfl) rfl ?_)
      first | refine J.skip rfl rfl rfl rfl rfl ?_ | refine J.skipU rfl rfl rfl rfl ?_ | (refine J.unguard rfl rfl rfl ?_; refine J.bin rfl rfl rfl rfl ?_)
      (first | refine J.pickT rfl rfl rfl ?_ | refine J.pickF rfl rfl rfl ?_)
      refine J.move rfl rfl ?_
      first | refine J.skip rfl rfl rfl rfl rfl ?_ | refine J.skipU rfl rfl rfl rfl ?_ | (refine J.unguard rfl rfl rfl ?_; refine J.fieldAddr Ty.fd34_3 rfl rfl ?_)
      first | refine J.skip rfl rfl rfl rfl rfl ?_ | refine J.skipU rfl rfl rfl rfl ?_ | (refine J.unguard rfl rfl rfl ?_; refine J.loadO Ty.a3 rfl (by repeat first | exact .head _ | apply List.Mem.tail | apply List.mem_append_right) (by exact rfl) rfl ?_)
      first | refine J.skip rfl rfl rfl rfl rfl ?_ | refine J.skipU rfl rfl rfl rfl ?_ | (refine J.unguard rfl rfl rfl ?_; refine J.bin rfl rfl rfl rfl ?_)
      (first | refine J.pickT rfl rfl rfl ?_ | refine J.pickF rfl rfl rfl ?_)
      refine J.move rfl rfl ?_
      first | refine J.skip rfl rfl rfl rfl rfl ?_ | refine J.skipU rfl rfl rfl rfl ?_ | (refine J.unguard rfl rfl rfl ?_; refine J.fieldAddr Ty.fd34_3 rfl rfl ?_)
      first | refine J.skip rfl rfl rfl rfl rfl ?_ | refine J.skipU rfl rfl rfl rfl ?_ | (refine J.unguard rfl rfl rfl ?_; refine J.loadO Ty.a3 rfl (by repeat first | exact .head _ | apply List.Mem.tail | apply List.mem_append_right) (by exact rfl) rfl ?_)
      first | refine J.skip rfl rfl rfl rfl rfl ?_ | refine J.skipU rfl rfl rfl rfl ?_ | (refine J.unguard rfl rfl rfl ?_; refine J.bin rfl rfl rfl rfl ?_)
      (first | refine J.pickT rfl rfl rfl ?_ | refine J.pickF rfl rfl rfl ?_)
      refine J.move rfl rfl ?_
      first | refine J.skip rfl rfl rfl rfl rfl ?_ | refine J.skipU rfl rfl rfl rfl ?_ | (refine J.unguard rfl rfl rfl ?_; refine J.fieldAddr Ty.fd34_4 rfl rfl ?_)
      first | refine J.skip rfl rfl rfl rfl rfl ?_ | refine J.skipU rfl rfl rfl rfl ?_ | (refine J.unguard rfl rfl rfl ?_; refine J.loadO Ty.a3 rfl (by repeat first | exact .head _ | apply List.Mem.tail | apply List.mem_append_right) (by exact rfl) rfl ?_)
      first | refine J.skip rfl rfl rfl rfl rfl ?_ | refine J.skipU rfl rfl rfl rfl ?_ | (refine J.unguard rfl rfl rfl ?_; refine J.bin rfl rfl rfl rfl ?_)
      (first | refine J.pickT rfl rfl rfl ?_ | refine J.pickF rfl rfl rfl ?_)
      refine J.move rfl rfl ?_
      first | refine J.skip rfl rfl rfl rfl rfl ?_ | refine J.skipU rfl rfl rfl rfl ?_ | (refine J.unguard rfl rfl rfl ?_; refine J.fieldAddr Ty.fd34_4 rfl rfl ?_)
      first | refine J.skip rfl rfl rfl rfl rfl ?_ | refine J.skipU rfl rfl rfl rfl ?_ | (refine J.unguard rfl rfl rfl ?_; refine J.loadO Ty.a3 rfl (by repeat first | exact .head _ | apply List.Mem.tail | apply List.mem_append_right) (by exact rfl) rfl ?_)
      first | refine J.skip rfl rfl rfl rfl rfl ?_ | refine J.skipU rfl rfl rfl rfl ?_ | (refine J.unguard rfl rfl rfl ?_; refine J.bin rfl rfl rfl rfl ?_)
      (first | refine J.pickT rfl rfl rfl ?_ | refine J.pickF rfl rfl rfl ?_)
      refine J.assign rfl rfl ?_
      refine J.nil ?_
      refine JX.thenN (hK1 _ _ ?_)
      refine JC.ret ?_
      refine JX.ret1 rfl rfl (fun w hw => ?_)
      refine ⟨ret_bool ?_, (hw.drop (List.nil_sublist _)).below⟩
      first | (simp_all [rightP, okTN]; done) | (simp [rightP, okTN] at *; omega) | (simp_all [rightP, okTN]; omega)

theorem take_snocE {R : List EV} {i : Nat} {x : EV} (h : R[i]? = some x) : R.take (i + 1) = R.take i ++ [x] := by
  have hi := (List.getElem?_eq_some_iff.1 h).1
  rw [take_add_one hi]
  rw [List.getElem?_eq_getElem hi] at h
  cases h
  rfl
theorem fE_take (xs : List EV) (n : Nat) : fE (xs.take n) = (fE xs).take (n * 51) := by
  have h : fE xs = fE (xs.take n) ++ fE (xs.drop n) := by rw [← fE_append, List.take_append_drop]
  have hl := fE_length (xs.take n)
  rw [List.length_take] at hl
  rcases Nat.le_total n xs.length with hn | hn
  · rw [h, List.take_left' (by rw [hl, Nat.min_eq_left hn])]
  · rw [List.take_of_length_le hn, List.take_of_length_le (by rw [fE_length]; omega)]
theorem fE_drop (xs : List EV) (n : Nat) : fE (xs.drop n) = (fE xs).drop (n * 51) := by
  have h : fE xs = fE (xs.take n) ++ fE (xs.drop n) := by rw [← fE_append, List.take_append_drop]
  have hl := fE_length (xs.take n)
  rw [List.length_take] at hl
  rcases Nat.le_total n xs.length with hn | hn
  · rw [h, List.drop_left' (by rw [hl, Nat.min_eq_left hn])]
  · rw [List.drop_of_length_le hn, List.drop_of_length_le (by rw [fE_length]; omega)]; rfl

set_option maxHeartbeats 1000000 in
theorem radd_spec (rt : Nat) (v : Value) (most : Int) (R : List EV) (lp : List (Nat × Obj)) (w : World) (hw0 : Own w ((rt, rtabO v most) :: lp)) (hv : Vec 34 51 v R.length (fE R) lp) (hR : ∀ x, x ∈ R → okE x) (hrl : R.length ≤ 549755813888) (x : EV) (hx : okE x) :
    Calls Try.prog 38 [.pointer (some ⟨rt, 0, none⟩), .agg (cE x).toArray].toArray w fun r w' => ∃ y : Value × List (Nat × Obj), r = .returned (.int .i64 (radd R most x).1) ∧ Vec 34 51 y.1 (radd R most x).2.length (fE (radd R most x).2) y.2 ∧ St w (rt :: lp.map (·.1)) ((rt, rtabO y.1 most) :: y.2) w' := by
  obtain ⟨ar, cr, rfl, hcr⟩ := hv.form
  refine calls_of_J (args := [.pointer (some ⟨rt, 0, none⟩), .agg (cE x).toArray]) (e := [(0, .pointer (some ⟨rt, 0, none⟩)), (1, .agg (cE x).toArray)]) Try.func38 rfl rfl ⟨rfl, rfl, trivial⟩ (hw0.st) ?_
  refine JC.seq (fun K0 hK0 => ?_)
  refine JC.region ?_
  refine J.box rfl rfl rfl (fun b3 => ?_)
  refine J.assign rfl rfl ?_
  refine J.nil ?_
  refine JX.thenN (hK0 _ _ ?_)
  refine JC.seq (fun K1 hK1 => ?_)
  refine JC.seq (fun K2 hK2 => ?_)
  refine JC.region ?_
  refine J.loadOA (vs := cE x) Ty.a34 Ty.s34 rfl (by repeat first | exact .head _ | apply List.Mem.tail | apply List.mem_append_right) (by exact rfl) rfl rfl ?_
  refine J.callB (v := .bool (decide (rightP x))) (fun w1 w2 hw hb => hw.step hb) Ty.bd34 rfl rfl (fun w1 hw => rright_spec x w1) ?_
  refine J.not rfl rfl ?_
  refine J.nil ?_
  refine JX.thenN (hK2 _ _ ?_)
  refine JC.cond rfl (fun h0 => ?_) (fun h0 => ?_)
  · skip
    have hri : ¬ rightP x := by simpa using h0
    refine JC.seq (fun K3 hK3 => ?_)
    refine JC.region ?_
    refine J.assign rfl rfl ?_
    refine J.nil ?_
    refine JX.thenN (hK3 _ _ ?_)
    refine JC.ret ?_
    refine JX.thenR ?_
    refine JX.ret1 rfl rfl (fun w hw => ?_)
    have hra : radd R most x = (1, R) := by simp [radd, *]
    exact ⟨(.slice ar R.length cr, lp), by rw [hra], by rw [hra]; exact hv, hw.drop (.cons _ (List.Sublist.refl _))⟩
  · skip
    have hri : rightP x := by simpa using h0
    refine JC.skip ?_
    refine JX.thenN (hK1 _ _ ?_)
    refine JC.seq (fun K4 hK4 => ?_)
    refine JC.seq (fun K5 hK5 => ?_)
    refine JC.region ?_
    refine J.move rfl rfl ?_
    refine J.fieldAddr Ty.fd34_0 rfl rfl ?_
    refine J.loadOA (vs := cP x.p) Ty.a25 Ty.s25 rfl (by repeat first | exact .head _ | apply List.Mem.tail | apply List.mem_append_right) (by exact rfl) rfl rfl ?_
    refine J.callB (v := .tuple #[.agg (cE ((tget R x.p).getD zE)).toArray, .bool (tget R x.p).isSome]) (fun w1 w2 hw hb => hw.step hb) Ty.bd40 rfl rfl (fun w1 hw => rget_spec rt _ most R w1 (hw.own _ (.tail _ (.head _))) (vec_rowM hv hw (fun q hq => by simp [hq])) hR (by omega) x.p hx.1) ?_
    refine J.move rfl rfl ?_
    refine J.extract rfl rfl rfl ?_
    refine J.extract rfl rfl rfl ?_
    refine J.alloc Ty.zE_ rfl rfl (fun b5 => ?_)
    refine J.storeW (cs := cE zE) (vs := cE ((tget R x.p).getD zE)) Ty.s34 rfl rfl rfl rfl rfl (one_cE _) .here ?_
    refine J.assign rfl rfl ?_
    refine J.nil ?_
    refine JX.thenN (hK5 _ _ ?_)
    refine JC.seq (fun K6 hK6 => ?_)
    refine JC.region ?_
    refine J.move rfl rfl ?_
    refine J.nil ?_
    refine JX.thenN (hK6 _ _ ?_)
    refine JC.cond rfl (fun h1 => ?_) (fun h1 => ?_)
    · skip
      have hsome : (tget R x.p).isSome = true := h1
      refine JC.seq (fun K7 hK7 => ?_)
      refine JC.region ?_
      refine J.assign rfl rfl ?_
      refine J.nil ?_
      refine JX.thenN (hK7 _ _ ?_)
      refine JC.ret ?_
      refine JX.thenR ?_
      refine JX.ret1 rfl rfl (fun w hw => ?_)
      have hra : radd R most x = (7, R) := by simp [radd, *]
      exact ⟨(.slice ar R.length cr, lp), by rw [hra], by rw [hra]; exact hv, hw.drop (.cons _ (.cons _ (List.Sublist.refl _)))⟩
    · skip
      have hsome : (tget R x.p).isSome = false := h1
      refine JC.skip ?_
      refine JX.thenN (hK4 _ _ ?_)
      refine JC.seq (fun K8 hK8 => ?_)
      refine JC.seq (fun K9 hK9 => ?_)
      apply JC.drawL 10 [Eqv (.pointer (some ⟨rt, 0, none⟩)), Eqv (.pointer (some ⟨rt, 0, none⟩)), Eqv (.pointer (some ⟨rt, 0 + 0, none⟩)), Eqv (.slice ar R.length cr), Eqv (.int .i64 ((R.length : Nat) : Int)), Eqv (.pointer (some ⟨rt, 0, none⟩)), Eqv (.pointer (some ⟨rt, 0, none⟩)), Eqv (.pointer (some ⟨rt, 0 + 1, none⟩)), Eqv (.int .i64 most), Eqv (.bool (decide (((R.length : Nat) : Int) ≥ most)))] Ty.mixed rfl rfl rfl (by kernel_rfl) rfl rfl (fun w w' hw hb => hw.step hb) ⟨fun _ _ _ h _ => h, fun _ _ _ h _ => h, fun _ _ _ h _ => h, fun _ _ _ h _ => h, fun _ _ _ h _ => h, fun _ _ _ h _ => h, fun _ _ _ h _ => h, fun _ _ _ h _ => h, fun _ _ _ h _ => h, fun _ _ _ h _ => h, trivial⟩ ?hstep ?htail
      case hstep =>
        refine ⟨fun wi => ?_, fun wi => ?_, fun wi => ?_, fun wi => ?_, fun wi => ?_, fun wi => ?_, fun wi => ?_, fun wi => ?_, fun wi => ?_, fun wi => ?_, trivial⟩
        · skip
          refine Fin.nil ?_
          refine J.move rfl rfl ?_
          exact J.finP rfl
        · skip
          refine Fin.consE rfl (Fin.nil ?_)
          refine J.nilCheck rfl rfl ?_
          exact J.finP rfl
        · skip
          refine Fin.consE rfl (Fin.nil ?_)
          refine J.fieldAddr Ty.fd82_0 rfl rfl ?_
          exact J.finP rfl
        · skip
          refine Fin.consE rfl (Fin.nil ?_)
          refine J.load1 (v := .slice ar R.length cr) Ty.a62 rfl (fun w1 hw => by rw [cell_of (hw.2.own _ (.tail _ (.tail _ (.head _))))]; rfl) rfl ?_
          exact J.finP rfl
        · skip
          refine Fin.consE rfl (Fin.nil ?_)
          refine J.lenS rfl Ty.u62 rfl rfl ?_
          exact J.finP rfl
        · skip
          refine Fin.nil ?_
          refine J.move rfl rfl ?_
          exact J.finP rfl
        · skip
          refine Fin.consE rfl (Fin.nil ?_)
          refine J.nilCheck rfl rfl ?_
          exact J.finP rfl
        · skip
          refine Fin.consE rfl (Fin.nil ?_)
          refine J.fieldAddr Ty.fd82_1 rfl rfl ?_
          exact J.finP rfl
        · skip
          refine Fin.consE rfl (Fin.nil ?_)
          refine J.load1 (v := .int .i64 most) Ty.a3 rfl (fun w1 hw => by rw [cell_of (hw.2.own _ (.tail _ (.tail _ (.head _))))]; rfl) rfl ?_
          exact J.finP rfl
        · skip
          refine Fin.consE rfl (Fin.consE rfl (Fin.nil ?_))
          refine J.bin rfl rfl rfl rfl ?_
          exact J.finP rfl
      case htail =>
        refine Fin.consE rfl (Fin.consE rfl (Fin.consE rfl (Fin.consE rfl (Fin.consE rfl (Fin.consE rfl (Fin.consE rfl (Fin.consE rfl (Fin.consE rfl (Fin.consE rfl (Fin.nil ?_))))))))))
        refine J.nil ?_
        refine JX.thenN (hK9 _ _ ?_)
        refine JC.cond rfl (fun h2 => ?_) (fun h2 => ?_)
        · skip
          have hful : most ≤ (R.length : Int) := by simp at h2; omega
          refine JC.seq (fun K10 hK10 => ?_)
          refine JC.region ?_
          refine J.assign rfl rfl ?_
          refine J.nil ?_
          refine JX.thenN (hK10 _ _ ?_)
          refine JC.ret ?_
          refine JX.thenR ?_
          refine JX.ret1 rfl rfl (fun w hw => ?_)
          have hra : radd R most x = (5, R) := by simp [radd, *]
          exact ⟨(.slice ar R.length cr, lp), by rw [hra], by rw [hra]; exact hv, hw.drop (.cons _ (.cons _ (List.Sublist.refl _)))⟩
        · skip
          have hful : ¬ most ≤ (R.length : Int) := by simp at h2; omega
          refine JC.skip ?_
          refine JX.thenN (hK8 _ _ ?_)
          refine JC.seq (fun K11 hK11 => ?_)
          refine JC.region ?_
          refine J.assign rfl rfl ?_
          refine J.nil ?_
          refine JX.thenN (hK11 _ _ ?_)
          refine JC.seq (fun K12 hK12 => ?_)
          refine JC.region ?_
          refine J.assign rfl rfl ?_
          refine J.nil ?_
          refine JX.thenN (hK12 _ _ ?_)
          refine JC.seq (fun K13 hK13 => ?_)
          refine JC.block ?_
          refine JC.conseq (JC.cov (f := (fun st => [(0, .pointer (some ⟨rt, 0, none⟩)), (3, .pointer (some ⟨b3, 0, none⟩)), (7, st.2.1), (8, .int .i64 ((st.1 : Nat) : Int))]) ((0, .slice none 0 0, []) : Nat × Value × List (Nat × Obj))) ⟨rfl, rfl, rfl, rfl, trivial⟩ (JC.loop (α := Nat × Value × List (Nat × Obj)) (fun st => [(0, .pointer (some ⟨rt, 0, none⟩)), (3, .pointer (some ⟨b3, 0, none⟩)), (7, st.2.1), (8, .int .i64 ((st.1 : Nat) : Int))]) (fun st w' => ((st.1 ≤ R.length ∧ ∀ j y, j < st.1 → R[j]? = some y → ltP y.p x.p = true) ∧ Vec 34 51 st.2.1 ((R.take st.1)).length (fE (R.take st.1)) st.2.2) ∧ St w (rt :: lp.map (·.1)) (st.2.2 ++ ((b5, cb (cE ((tget R x.p).getD zE)) 34) :: (b3, cb (cE x) 34) :: (rt, rtabO (.slice ar R.length cr) most) :: lp)) w') (fun st => R.length - st.1) ((0, .slice none 0 0, []) : Nat × Value × List (Nat × Obj)) (fun st => ?_))) (fun w hw => ⟨⟨⟨Nat.zero_le _, fun j y hj => by simp only at hj; omega⟩, Vec.nil _ _⟩, hw⟩)
          obtain ⟨i, vo, lo⟩ := st
          refine JC.pr (fun hx1 => ?_)
          obtain ⟨⟨hi, hbef⟩, hvo⟩ := hx1
          simp only at hi hbef hvo ⊢
          refine JC.seq (fun K14 hK14 => ?_)
          refine JC.seq (fun K15 hK15 => ?_)
          by_cases hlt : i < R.length
          · skip
            obtain ⟨q1, sp1, rfl, hlp, hsp, _⟩ := vec_pos hv (by omega)
            obtain ⟨xe, hxe⟩ : ∃ x, R[i]? = some x := ⟨_, List.getElem?_eq_getElem hlt⟩
            have hxo := hR xe (List.mem_of_getElem? hxe)
            apply JC.drawL 20 [Eqv (.int .i64 ((i : Nat) : Int)), Eqv (.pointer (some ⟨rt, 0, none⟩)), Eqv (.pointer (some ⟨rt, 0, none⟩)), Eqv (.pointer (some ⟨rt, 0 + 0, none⟩)), Eqv (.slice (some ⟨q1, 0, none⟩) R.length cr), Eqv (.int .i64 ((R.length : Nat) : Int)), Eqv (.bool true), Eqv (.bool true), Eqv (.pointer (some ⟨rt, 0, none⟩)), Eqv (.pointer (some ⟨rt, 0, none⟩)), Eqv (.pointer (some ⟨rt, 0 + 0, none⟩)), Eqv (.slice (some ⟨q1, 0, none⟩) R.length cr), Eqv (.int .i64 ((i : Nat) : Int)), Eqv (.pointer (some ⟨q1, 0 + (i : Int).toNat * 51, none⟩)), Eqv (.pointer (some ⟨q1, 0 + (i : Int).toNat * 51 + 0, none⟩)), Eqv (.agg (cP xe.p).toArray), Eqv (.pointer (some ⟨b3, 0 + 0, none⟩)), Eqv (.agg (cP x.p).toArray), Eqv (.bool (ltP xe.p x.p)), Eqv (.bool (ltP xe.p x.p))] Ty.mixed rfl rfl rfl (by kernel_rfl) rfl rfl (fun w w' hw hb => hw.step hb) ⟨fun _ _ _ h _ => h, fun _ _ _ h _ => h, fun _ _ _ h _ => h, fun _ _ _ h _ => h, fun _ _ _ h _ => h, fun _ _ _ h _ => h, fun _ _ _ h _ => h, fun _ _ _ h _ => h, fun _ _ _ h _ => h, fun _ _ _ h _ => h, fun _ _ _ h _ => h, fun _ _ _ h _ => h, fun _ _ _ h _ => h, fun _ _ _ h _ => h, fun _ _ _ h _ => h, fun _ _ _ h _ => h, fun _ _ _ h _ => h, fun _ _ _ h _ => h, fun _ _ _ h _ => h, fun _ _ _ h _ => h, trivial⟩ ?hstep ?htail
            case hstep =>
              refine ⟨fun wi => ?_, fun wi => ?_, fun wi => ?_, fun wi => ?_, fun wi => ?_, fun wi => ?_, fun wi => ?_, fun wi => ?_, fun wi => ?_, fun wi => ?_, fun wi => ?_, fun wi => ?_, fun wi => ?_, fun wi => ?_, fun wi => ?_, fun wi => ?_, fun wi => ?_, fun wi => ?_, fun wi => ?_, fun wi => ?_, trivial⟩
              · skip
                refine Fin.nil ?_
                refine J.move rfl rfl ?_
                exact J.finP rfl
              · skip
                refine Fin.nil ?_
                refine J.move rfl rfl ?_
                exact J.finP rfl
              · skip
                refine Fin.consE rfl (Fin.nil ?_)
                refine J.nilCheck rfl rfl ?_
                exact J.finP rfl
              · skip
                refine Fin.consE rfl (Fin.nil ?_)
                refine J.fieldAddr Ty.fd82_0 rfl rfl ?_
                exact J.finP rfl
              · skip
                refine Fin.consE rfl (Fin.nil ?_)
                refine J.load1 (v := .slice (some ⟨q1, 0, none⟩) R.length cr) Ty.a62 rfl (fun w1 hw => by rw [cell_of (hw.2.own _ (List.mem_append_right _ (.tail _ (.tail _ (.head _)))))]; rfl) rfl ?_
                exact J.finP rfl
              · skip
                refine Fin.consE rfl (Fin.nil ?_)
                refine J.lenS rfl Ty.u62 rfl rfl ?_
                exact J.finP rfl
              · skip
                refine Fin.consE rfl (Fin.consE rfl (Fin.nil ?_))
                refine J.bin rfl rfl rfl rfl ?_
                refine J.name 36 rfl (show _ = Value.bool true by simp; omega) ?_
                exact J.finP rfl
              · skip
                refine Fin.consE rfl (Fin.nil ?_)
                refine J.move rfl rfl ?_
                exact J.finP rfl
              · skip
                refine Fin.consE rfl (Fin.nil ?_)
                first | refine J.skip rfl rfl rfl rfl rfl ?_ | refine J.skipU rfl rfl rfl rfl ?_ | (refine J.unguard rfl rfl rfl ?_; refine J.move rfl rfl ?_)
                exact J.finP rfl
              · skip
                refine Fin.consE rfl (Fin.consE rfl (Fin.nil ?_))
                first | refine J.skip rfl rfl rfl rfl rfl ?_ | refine J.skipU rfl rfl rfl rfl ?_ | (refine J.unguard rfl rfl rfl ?_; refine J.nilCheck rfl rfl ?_)
                exact J.finP rfl
              · skip
                refine Fin.consE rfl (Fin.consE rfl (Fin.nil ?_))
                first | refine J.skip rfl rfl rfl rfl rfl ?_ | refine J.skipU rfl rfl rfl rfl ?_ | (refine J.unguard rfl rfl rfl ?_; refine J.fieldAddr Ty.fd82_0 rfl rfl ?_)
                exact J.finP rfl
              · skip
                refine Fin.consE rfl (Fin.consE rfl (Fin.nil ?_))
                refine J.unguard rfl rfl rfl ?_
                refine J.load1 (v := .slice (some ⟨q1, 0, none⟩) R.length cr) Ty.a62 rfl (fun w1 hw => by rw [cell_of (hw.2.own _ (List.mem_append_right _ (.tail _ (.tail _ (.head _)))))]; rfl) rfl ?_
                exact J.finP rfl
              · skip
                refine Fin.consE rfl (Fin.nil ?_)
                first | refine J.skip rfl rfl rfl rfl rfl ?_ | refine J.skipU rfl rfl rfl rfl ?_ | (refine J.unguard rfl rfl rfl ?_; refine J.move rfl rfl ?_)
                exact J.finP rfl
              · skip
                refine Fin.consE rfl (Fin.consE rfl (Fin.consE rfl (Fin.nil ?_)))
                refine J.unguard rfl rfl rfl ?_
                refine J.indexAddrS Ty.el62 Ty.s34 rfl rfl (by omega) (by omega) rfl ?_
                exact J.finP rfl
              · skip
                refine Fin.consE rfl (Fin.consE rfl (Fin.nil ?_))
                first | refine J.skip rfl rfl rfl rfl rfl ?_ | refine J.skipU rfl rfl rfl rfl ?_ | (refine J.unguard rfl rfl rfl ?_; refine J.fieldAddr Ty.fd34_0 rfl rfl ?_)
                exact J.finP rfl
              · skip
                refine Fin.consE rfl (Fin.consE rfl (Fin.nil ?_))
                refine J.unguard rfl rfl rfl ?_
                refine J.loadA (vs := cP xe.p) Ty.a25 Ty.s25 rfl rfl (fun w1 hw => cells_sub (rowE_at (vec_rowM hv hw.2 (fun q hq => List.mem_append_right _ (.tail _ (.tail _ (.tail _ hq))))) hxe (by omega)) rfl) rfl ?_
                exact J.finP rfl
              · skip
                refine Fin.consE rfl (Fin.nil ?_)
                first | refine J.skip rfl rfl rfl rfl rfl ?_ | refine J.skipU rfl rfl rfl rfl ?_ | (refine J.unguard rfl rfl rfl ?_; refine J.fieldAddr Ty.fd34_0 rfl rfl ?_)
                exact J.finP rfl
              · skip
                refine Fin.consE rfl (Fin.consE rfl (Fin.nil ?_))
                refine J.unguard rfl rfl rfl ?_
                refine J.loadA (vs := cP x.p) Ty.a25 Ty.s25 rfl rfl (fun w1 hw => cells_sub (Cells.of_block (hw.2.own _ (List.mem_append_right _ (.tail _ (.head _)))) rfl : Cells w1 b3 0 (cE x)) rfl) rfl ?_
                exact J.finP rfl
              · skip
                refine Fin.consE rfl (Fin.consE rfl (Fin.consE rfl (Fin.consE rfl (Fin.nil ?_))))
                refine J.unguard rfl rfl rfl ?_
                refine J.callD (v := .bool (ltP xe.p x.p)) Ty.bd32 rfl rfl (fun w1 hw => rless12_spec xe.p x.p w1) ?_
                exact J.finQ rfl
              · skip
                refine Fin.consE rfl (Fin.consE rfl (Fin.nil ?_))
                (first | refine J.pickT rfl rfl rfl ?_ | refine J.pickF rfl rfl rfl ?_)
                exact J.finP rfl
            case htail =>
              refine Fin.consE rfl (Fin.consE rfl (Fin.consE rfl (Fin.consE rfl (Fin.consE rfl (Fin.consE rfl (Fin.consE rfl (Fin.consE rfl (Fin.consE rfl (Fin.consE rfl (Fin.consE rfl (Fin.consE rfl (Fin.consE rfl (Fin.consE rfl (Fin.consE rfl (Fin.consE rfl (Fin.consE rfl (Fin.consE rfl (Fin.consE rfl (Fin.consE rfl (Fin.nil ?_))))))))))))))))))))
              refine J.nil ?_
              refine JX.thenN (hK15 _ _ ?_)
              refine JC.cond rfl (fun h3 => ?_) (fun h3 => ?_)
              · skip
                have hless : ltP xe.p x.p = true := h3
                refine JC.skip ?_
                refine JX.thenN (hK14 _ _ ?_)
                refine JC.block ?_
                refine JC.seq (fun K16 hK16 => ?_)
                refine JC.region ?_
                refine J.move rfl rfl ?_
                refine J.move rfl rfl ?_
                refine J.nilCheck rfl rfl ?_
                refine J.fieldAddr Ty.fd82_0 rfl rfl ?_
                refine J.load1 (v := .slice (some ⟨q1, 0, none⟩) R.length cr) Ty.a62 rfl (fun w1 hw => by rw [cell_of (hw.own _ (List.mem_append_right _ (.tail _ (.tail _ (.head _)))))]; rfl) rfl ?_
                refine J.move rfl rfl ?_
                refine J.indexAddrS Ty.el62 Ty.s34 rfl rfl (by omega) (by omega) rfl ?_
                refine J.loadA (vs := cE xe) Ty.a34 Ty.s34 rfl rfl (fun w1 hw => rowE_at (vec_rowM hv hw (fun q hq => List.mem_append_right _ (.tail _ (.tail _ (.tail _ hq))))) hxe (by omega)) rfl ?_
                refine J.buildSl (cs := cE xe) Ty.el62 Ty.s34 Ty.zE_ rfl rfl rfl rfl (by kernel_rfl) rfl rfl (fun b58 => ?_)
                have htl : (R.take i).length ≤ i := by rw [List.length_take]; omega
                refine J.perm (lo ++ ((b58, cb (cE xe) 34) :: (b5, cb (cE ((tget R x.p).getD zE)) 34) :: (b3, cb (cE x) 34) :: (rt, rtabO (.slice (some ⟨q1, 0, none⟩) R.length cr) most) :: lp)) (by (refine perm_cnt (fun _ => ?_)); simp only [cntB_append, cntB_cons, cntB_nil, Nat.add_zero, Nat.zero_add]; try ac_rfl) ?_
                refine J.append (lp := lo) (xs := fE (R.take i)) (ys := cE xe) (k := (R.take i).length) (m := 1) Ty.el62 Ty.s34 Ty.b34 Ty.zE_ rfl (.inl ⟨34, Ty.u62⟩) rfl rfl hvo (fun w3 hw3 => .inl (Row.own hw3 (List.mem_append_right _ (.head _)) rfl (Nat.le_refl _))) rfl (one_cE xe) (by omega) (by omega) rfl (fun vn ln hvn => ?_)
                refine J.assign rfl rfl ?_
                refine J.nil ?_
                refine JX.thenN (hK16 _ _ ?_)
                refine JC.region ?_
                refine J.move rfl rfl ?_
                (first | refine J.addN rfl rfl (by omega) (by omega) rfl ?_ | refine J.bin rfl rfl rfl rfl ?_)
                refine J.assign rfl rfl ?_
                refine J.nil ?_
                refine JX.blockN ?_
                refine JX.thenN ?_
                refine JX.again ((i + 1, vn, ln) : Nat × Value × List (Nat × Obj)) ?_ ?_ ?_
                · simp only; omega
                · exact ⟨rfl, rfl, rfl, rfl, trivial⟩
                · exact fun w1 hw => ⟨⟨⟨hlt, fun j y hj hy => by
                  rcases Nat.lt_or_ge j i with h | h
                  · exact hbef j y h hy
                  · have : j = i := by omega
                    subst this
                    rw [hxe] at hy; cases hy; exact hless⟩, by rw [take_snocE hxe, List.length_append, fE_append]; simpa [fE] using hvn⟩, hw.drop (List.Sublist.append_left (List.sublist_cons_self _ _) _)⟩
              · skip
                have hstop : ∀ y, R[i]? = some y → ltP y.p x.p = false := fun y hy => by rw [hxe] at hy; cases hy; exact h3
                refine JC.exit ?_
                refine JX.thenE ?_
                refine JX.thenE ?_
                refine JX.blockE ?_
                refine JX.thenN (hK13 _ _ ?_)
                refine JC.seq (fun K17 hK17 => ?_)
                refine JC.region ?_
                refine J.move rfl rfl ?_
                refine J.loadA (vs := cE x) Ty.a34 Ty.s34 rfl rfl (fun w1 hw => Cells.of_block (hw.own _ (List.mem_append_right _ (.tail _ (.head _)))) rfl) rfl ?_
                refine J.buildSl (cs := cE x) Ty.el62 Ty.s34 Ty.zE_ rfl rfl rfl rfl (by kernel_rfl) rfl rfl (fun b64 => ?_)
                have htl : (R.take i).length ≤ i := by rw [List.length_take]; omega
                refine J.perm (lo ++ ((b64, cb (cE x) 34) :: (b5, cb (cE ((tget R x.p).getD zE)) 34) :: (b3, cb (cE x) 34) :: (rt, rtabO (.slice (some ⟨q1, 0, none⟩) R.length cr) most) :: lp)) (by (refine perm_cnt (fun _ => ?_)); simp only [cntB_append, cntB_cons, cntB_nil, Nat.add_zero, Nat.zero_add]; try ac_rfl) ?_
                refine J.append (lp := lo) (xs := fE (R.take i)) (ys := cE x) (k := (R.take i).length) (m := 1) Ty.el62 Ty.s34 Ty.b34 Ty.zE_ rfl (.inl ⟨34, Ty.u62⟩) rfl rfl hvo (fun w3 hw3 => .inl (Row.own hw3 (List.mem_append_right _ (.head _)) rfl (Nat.le_refl _))) rfl (one_cE x) (by omega) (by omega) rfl (fun v65 l65 hv65 => ?_)
                refine J.assign rfl rfl ?_
                refine J.nil ?_
                refine JX.thenN (hK17 _ _ ?_)
                refine JC.seq (fun K18 hK18 => ?_)
                refine JC.region ?_
                refine J.move rfl rfl ?_
                refine J.move rfl rfl ?_
                refine J.move rfl rfl ?_
                refine J.nilCheck rfl rfl ?_
                refine J.fieldAddr Ty.fd82_0 rfl rfl ?_
                refine J.load1 (v := .slice (some ⟨q1, 0, none⟩) R.length cr) Ty.a62 rfl (fun w1 hw => by rw [cell_of (hw.own _ (List.mem_append_right _ (.tail _ (.tail _ (.tail _ (.head _))))))]; rfl) rfl ?_
                refine J.move rfl rfl ?_
                refine J.sliceS Ty.el62 Ty.s34 rfl rfl rfl rfl rfl (by omega) (by omega) (by omega) rfl ?_
                refine J.append (lp := l65) (xs := fE (R.take i ++ [x])) (ys := fE (R.drop i)) (k := (R.take i).length + 1) (m := R.length - i) Ty.el62 Ty.s34 Ty.b34 Ty.zE_ rfl (.inl ⟨34, Ty.u62⟩) rfl rfl (by rw [fE_append, show fE [x] = cE x from by simp [fE]]; exact hv65) (fun w3 hw3 => .inl (by
                  have h := Row.slice (vec_rowM hv hw3 (fun q hq => List.mem_append_right _ (by simp [hq]))) (sz := 51) (fE_length R) (show i ≤ R.length from hi) (Nat.le_refl _)
                  rw [fE_drop]
                  rw [List.take_of_length_le (by rw [List.length_drop, fE_length]; omega)] at h
                  exact h)) (by rw [fE_length, List.length_drop]) (fun y hy => fE_one hy) (by omega) (by omega) rfl (fun v74 l74 hv74 => ?_)
                obtain ⟨a74, c74, rfl, hc74⟩ := hv74.form
                refine J.nilCheck rfl rfl ?_
                refine J.fieldAddr Ty.fd82_0 rfl rfl ?_
                refine J.perm ((rt, rtabO (.slice (some ⟨q1, 0, none⟩) R.length cr) most) :: (l74 ++ ((b64, cb (cE x) 34) :: (b5, cb (cE ((tget R x.p).getD zE)) 34) :: (b3, cb (cE x) 34) :: lp))) (by (refine perm_cnt (fun _ => ?_)); simp only [cntB_append, cntB_cons, cntB_nil, Nat.add_zero, Nat.zero_add]; try ac_rfl) ?_
                refine J.storeO (vs := [.slice a74 ((R.take i).length + 1 + (R.length - i)) c74]) Ty.s62 rfl rfl rfl rfl (by simp [Value.oneCell']) .here (by simp) ?_
                refine J.nil ?_
                refine JX.thenN (hK18 _ _ ?_)
                refine JC.seq (fun K19 hK19 => ?_)
                refine JC.region ?_
                refine J.assign rfl rfl ?_
                refine J.nil ?_
                refine JX.thenN (hK19 _ _ ?_)
                refine JC.ret ?_
                refine JX.ret1 rfl rfl (fun w hw => ?_)
                have hra : radd R most x = (0, insE R x) := by first | (simp [radd, *]; done) | (simp [radd, *]; omega)
                have hpos := posE_of hi hbef hstop
                refine ⟨(_, l74), by rw [hra], ?_, hw.drop (.cons_cons _ (List.sublist_append_left _ _))⟩
                rw [hra, insE_pos, hpos]
                simp only [List.length_append, List.length_cons, List.length_drop, List.length_take]
                rw [List.length_take] at hv74
                have e : fE (R.take i ++ x :: R.drop i) = fE (R.take i ++ [x]) ++ fE (R.drop i) := by rw [← fE_append]; simp
                rw [e, show min i R.length + (R.length - i + 1) = min i R.length + 1 + (R.length - i) by omega]
                exact hv74
          · skip
            have hstop : ∀ y, R[i]? = some y → ltP y.p x.p = false := fun y hy => absurd (List.getElem?_eq_some_iff.1 hy).1 hlt
            apply JC.drawL 20 [Eqv (.int .i64 ((i : Nat) : Int)), Eqv (.pointer (some ⟨rt, 0, none⟩)), Eqv (.pointer (some ⟨rt, 0, none⟩)), Eqv (.pointer (some ⟨rt, 0 + 0, none⟩)), Eqv (.slice ar R.length cr), Eqv (.int .i64 ((R.length : Nat) : Int)), Eqv (.bool false), Eqv (.bool false), Eqv (undef), Eqv (undef), Eqv (undef), Eqv (undef), Eqv (undef), Eqv (undef), Eqv (undef), Eqv (undef), Eqv (undef), Eqv (undef), Eqv (undef), Eqv (.bool false)] Ty.mixed rfl rfl rfl (by kernel_rfl) rfl rfl (fun w w' hw hb => hw.step hb) ⟨fun _ _ _ h _ => h, fun _ _ _ h _ => h, fun _ _ _ h _ => h, fun _ _ _ h _ => h, fun _ _ _ h _ => h, fun _ _ _ h _ => h, fun _ _ _ h _ => h, fun _ _ _ h _ => h, fun _ _ _ h _ => h, fun _ _ _ h _ => h, fun _ _ _ h _ => h, fun _ _ _ h _ => h, fun _ _ _ h _ => h, fun _ _ _ h _ => h, fun _ _ _ h _ => h, fun _ _ _ h _ => h, fun _ _ _ h _ => h, fun _ _ _ h _ => h, fun _ _ _ h _ => h, fun _ _ _ h _ => h, trivial⟩ ?hstep ?htail
            case hstep =>
              refine ⟨fun wi => ?_, fun wi => ?_, fun wi => ?_, fun wi => ?_, fun wi => ?_, fun wi => ?_, fun wi => ?_, fun wi => ?_, fun wi => ?_, fun wi => ?_, fun wi => ?_, fun wi => ?_, fun wi => ?_, fun wi => ?_, fun wi => ?_, fun wi => ?_, fun wi => ?_, fun wi => ?_, fun wi => ?_, fun wi => ?_, trivial⟩
              · skip
                refine Fin.nil ?_
                refine J.move rfl rfl ?_
                exact J.finP rfl
              · skip
                refine Fin.nil ?_
                refine J.move rfl rfl ?_
                exact J.finP rfl
              · skip
                refine Fin.consE rfl (Fin.nil ?_)
                refine J.nilCheck rfl rfl ?_
                exact J.finP rfl
              · skip
                refine Fin.consE rfl (Fin.nil ?_)
                refine J.fieldAddr Ty.fd82_0 rfl rfl ?_
                exact J.finP rfl
              · skip
                refine Fin.consE rfl (Fin.nil ?_)
                refine J.load1 (v := .slice ar R.length cr) Ty.a62 rfl (fun w1 hw => by rw [cell_of (hw.2.own _ (List.mem_append_right _ (.tail _ (.tail _ (.head _)))))]; rfl) rfl ?_
                exact J.finP rfl
              · skip
                refine Fin.consE rfl (Fin.nil ?_)
                refine J.lenS rfl Ty.u62 rfl rfl ?_
                exact J.finP rfl
              · skip
                refine Fin.consE rfl (Fin.consE rfl (Fin.nil ?_))
                refine J.bin rfl rfl rfl rfl ?_
                refine J.name 36 rfl (show _ = Value.bool false by simp; omega) ?_
                exact J.finP rfl
              · skip
                refine Fin.consE rfl (Fin.nil ?_)
                refine J.move rfl rfl ?_
                exact J.finP rfl
              · skip
                refine Fin.consE rfl (Fin.nil ?_)
                first | refine J.skip rfl rfl rfl rfl rfl ?_ | refine J.skipU rfl rfl rfl rfl ?_ | (refine J.unguard rfl rfl rfl ?_; refine J.move rfl rfl ?_)
                exact J.finP rfl
              · skip
                refine Fin.consE rfl (Fin.consE rfl (Fin.nil ?_))
                first | refine J.skip rfl rfl rfl rfl rfl ?_ | refine J.skipU rfl rfl rfl rfl ?_ | (refine J.unguard rfl rfl rfl ?_; refine J.nilCheck rfl rfl ?_)
                exact J.finP rfl
              · skip
                refine Fin.consE rfl (Fin.consE rfl (Fin.nil ?_))
                first | refine J.skip rfl rfl rfl rfl rfl ?_ | refine J.skipU rfl rfl rfl rfl ?_ | (refine J.unguard rfl rfl rfl ?_; refine J.fieldAddr Ty.fd82_0 rfl rfl ?_)
                exact J.finP rfl
              · skip
                refine Fin.consE rfl (Fin.consE rfl (Fin.nil ?_))
                first | refine J.skip rfl rfl rfl rfl rfl ?_ | refine J.skipU rfl rfl rfl rfl ?_ | (refine J.unguard rfl rfl rfl ?_; refine J.load1 Ty.a62 rfl (fun w hw => (cell_of (hw.2.own (_, _) (by repeat first | exact .head _ | apply List.Mem.tail | apply List.mem_append_right))).trans (by exact rfl)) rfl ?_)
                exact J.finP rfl
              · skip
                refine Fin.consE rfl (Fin.nil ?_)
                first | refine J.skip rfl rfl rfl rfl rfl ?_ | refine J.skipU rfl rfl rfl rfl ?_ | (refine J.unguard rfl rfl rfl ?_; refine J.move rfl rfl ?_)
                exact J.finP rfl
              · skip
                refine Fin.consE rfl (Fin.consE rfl (Fin.consE rfl (Fin.nil ?_)))
                first | refine J.skip rfl rfl rfl rfl rfl ?_ | refine J.skipU rfl rfl rfl rfl ?_ | (refine J.unguard rfl rfl rfl ?_; refine J.indexAddrS Ty.el62 Ty.s34 rfl rfl (by omega) (by omega) rfl ?_)
                exact J.finP rfl
              · skip
                refine Fin.consE rfl (Fin.consE rfl (Fin.nil ?_))
                first | refine J.skip rfl rfl rfl rfl rfl ?_ | refine J.skipU rfl rfl rfl rfl ?_ | (refine J.unguard rfl rfl rfl ?_; refine J.fieldAddr Ty.fd34_0 rfl rfl ?_)
                exact J.finP rfl
              · skip
                refine Fin.consE rfl (Fin.consE rfl (Fin.nil ?_))
                first | refine J.skip rfl rfl rfl rfl rfl ?_ | refine J.skipU rfl rfl rfl rfl ?_ | (refine J.unguard rfl rfl rfl ?_; refine J.loadOA Ty.a25 Ty.s25 rfl (by repeat first | exact .head _ | apply List.Mem.tail | apply List.mem_append_right) (by exact rfl) rfl rfl ?_)
                exact J.finP rfl
              · skip
                refine Fin.consE rfl (Fin.nil ?_)
                first | refine J.skip rfl rfl rfl rfl rfl ?_ | refine J.skipU rfl rfl rfl rfl ?_ | (refine J.unguard rfl rfl rfl ?_; refine J.fieldAddr Ty.fd34_0 rfl rfl ?_)
                exact J.finP rfl
              · skip
                refine Fin.consE rfl (Fin.consE rfl (Fin.nil ?_))
                first | refine J.skip rfl rfl rfl rfl rfl ?_ | refine J.skipU rfl rfl rfl rfl ?_ | (refine J.unguard rfl rfl rfl ?_; refine J.loadOA Ty.a25 Ty.s25 rfl (by repeat first | exact .head _ | apply List.Mem.tail | apply List.mem_append_right) (by exact rfl) rfl rfl ?_)
                exact J.finP rfl
              · skip
                refine Fin.consE rfl (Fin.consE rfl (Fin.consE rfl (Fin.consE rfl (Fin.nil ?_))))
                first | refine J.skip rfl rfl rfl rfl rfl ?_ | refine J.skipU rfl rfl rfl rfl ?_ | (refine J.unguard rfl rfl rfl ?_; fail)
                exact J.finP rfl
              · skip
                refine Fin.consE rfl (Fin.consE rfl (Fin.nil ?_))
                (first | refine J.pickT rfl rfl rfl ?_ | refine J.pickF rfl rfl rfl ?_)
                exact J.finP rfl
            case htail =>
              refine Fin.consE rfl (Fin.consE rfl (Fin.consE rfl (Fin.consE rfl (Fin.consE rfl (Fin.consE rfl (Fin.consE rfl (Fin.consE rfl (Fin.consE rfl (Fin.consE rfl (Fin.consE rfl (Fin.consE rfl (Fin.consE rfl (Fin.consE rfl (Fin.consE rfl (Fin.consE rfl (Fin.consE rfl (Fin.consE rfl (Fin.consE rfl (Fin.consE rfl (Fin.nil ?_))))))))))))))))))))
              refine J.nil ?_
              refine JX.thenN (hK15 _ _ ?_)
              first | refine JC.condF rfl ?_ | refine JC.cond rfl (fun h => by first | (exfalso; simp at h; omega) | (simp at h)) (fun _ => ?_)
              refine JC.exit ?_
              refine JX.thenE ?_
              refine JX.thenE ?_
              refine JX.blockE ?_
              refine JX.thenN (hK13 _ _ ?_)
              refine JC.seq (fun K20 hK20 => ?_)
              refine JC.region ?_
              refine J.move rfl rfl ?_
              refine J.loadA (vs := cE x) Ty.a34 Ty.s34 rfl rfl (fun w1 hw => Cells.of_block (hw.own _ (List.mem_append_right _ (.tail _ (.head _)))) rfl) rfl ?_
              refine J.buildSl (cs := cE x) Ty.el62 Ty.s34 Ty.zE_ rfl rfl rfl rfl (by kernel_rfl) rfl rfl (fun b64 => ?_)
              have htl : (R.take i).length ≤ i := by rw [List.length_take]; omega
              refine J.perm (lo ++ ((b64, cb (cE x) 34) :: (b5, cb (cE ((tget R x.p).getD zE)) 34) :: (b3, cb (cE x) 34) :: (rt, rtabO (.slice ar R.length cr) most) :: lp)) (by (refine perm_cnt (fun _ => ?_)); simp only [cntB_append, cntB_cons, cntB_nil, Nat.add_zero, Nat.zero_add]; try ac_rfl) ?_
              refine J.append (lp := lo) (xs := fE (R.take i)) (ys := cE x) (k := (R.take i).length) (m := 1) Ty.el62 Ty.s34 Ty.b34 Ty.zE_ rfl (.inl ⟨34, Ty.u62⟩) rfl rfl hvo (fun w3 hw3 => .inl (Row.own hw3 (List.mem_append_right _ (.head _)) rfl (Nat.le_refl _))) rfl (one_cE x) (by omega) (by omega) rfl (fun v65 l65 hv65 => ?_)
              refine J.assign rfl rfl ?_
              refine J.nil ?_
              refine JX.thenN (hK20 _ _ ?_)
              refine JC.seq (fun K21 hK21 => ?_)
              refine JC.region ?_
              refine J.move rfl rfl ?_
              refine J.move rfl rfl ?_
              refine J.move rfl rfl ?_
              refine J.nilCheck rfl rfl ?_
              refine J.fieldAddr Ty.fd82_0 rfl rfl ?_
              refine J.load1 (v := .slice ar R.length cr) Ty.a62 rfl (fun w1 hw => by rw [cell_of (hw.own _ (List.mem_append_right _ (.tail _ (.tail _ (.tail _ (.head _))))))]; rfl) rfl ?_
              refine J.move rfl rfl ?_
              refine J.sliceS Ty.el62 Ty.s34 rfl rfl rfl rfl rfl (by omega) (by omega) (by omega) rfl ?_
              refine J.append (lp := l65) (xs := fE (R.take i ++ [x])) (ys := fE (R.drop i)) (k := (R.take i).length + 1) (m := R.length - i) Ty.el62 Ty.s34 Ty.b34 Ty.zE_ rfl (.inl ⟨34, Ty.u62⟩) rfl rfl (by rw [fE_append, show fE [x] = cE x from by simp [fE]]; exact hv65) (fun w3 hw3 => .inl (by
                have h := Row.slice (vec_rowM hv hw3 (fun q hq => List.mem_append_right _ (by simp [hq]))) (sz := 51) (fE_length R) (show i ≤ R.length from hi) (Nat.le_refl _)
                rw [fE_drop]
                rw [List.take_of_length_le (by rw [List.length_drop, fE_length]; omega)] at h
                exact h)) (by rw [fE_length, List.length_drop]) (fun y hy => fE_one hy) (by omega) (by omega) rfl (fun v74 l74 hv74 => ?_)
              obtain ⟨a74, c74, rfl, hc74⟩ := hv74.form
              refine J.nilCheck rfl rfl ?_
              refine J.fieldAddr Ty.fd82_0 rfl rfl ?_
              refine J.perm ((rt, rtabO (.slice ar R.length cr) most) :: (l74 ++ ((b64, cb (cE x) 34) :: (b5, cb (cE ((tget R x.p).getD zE)) 34) :: (b3, cb (cE x) 34) :: lp))) (by (refine perm_cnt (fun _ => ?_)); simp only [cntB_append, cntB_cons, cntB_nil, Nat.add_zero, Nat.zero_add]; try ac_rfl) ?_
              refine J.storeO (vs := [.slice a74 ((R.take i).length + 1 + (R.length - i)) c74]) Ty.s62 rfl rfl rfl rfl (by simp [Value.oneCell']) .here (by simp) ?_
              refine J.nil ?_
              refine JX.thenN (hK21 _ _ ?_)
              refine JC.seq (fun K22 hK22 => ?_)
              refine JC.region ?_
              refine J.assign rfl rfl ?_
              refine J.nil ?_
              refine JX.thenN (hK22 _ _ ?_)
              refine JC.ret ?_
              refine JX.ret1 rfl rfl (fun w hw => ?_)
              have hra : radd R most x = (0, insE R x) := by first | (simp [radd, *]; done) | (simp [radd, *]; omega)
              have hpos := posE_of hi hbef hstop
              refine ⟨(_, l74), by rw [hra], ?_, hw.drop (.cons_cons _ (List.sublist_append_left _ _))⟩
              rw [hra, insE_pos, hpos]
              simp only [List.length_append, List.length_cons, List.length_drop, List.length_take]
              rw [List.length_take] at hv74
              have e : fE (R.take i ++ x :: R.drop i) = fE (R.take i ++ [x]) ++ fE (R.drop i) := by rw [← fE_append]; simp
              rw [e, show min i R.length + (R.length - i + 1) = min i R.length + 1 + (R.length - i) by omega]
              exact hv74

end Go.Proofs.Ytpldpkdlloolkaa
/-
  The document's Remove; where a key stands: contracts.
-/
namespace Go.Proofs.Ytpldpkdlloolkaa
open Go.J Go.RowKit
set_option linter.unusedVariables false
set_option linter.unusedSimpArgs false
set_option maxRecDepth 4000
/-- another key -/
def neK (p : PV) (y : EV) : Bool := decide (y.p ≠ p)
def placeE (xs : List EV) (p : PV) : Int := match xs.findIdx? (fun x => decide (x.p = p)) with
  | some i => (i : Int)
  | none => -1
end Go.Proofs.Ytpldpkdlloolkaa
/-
  Layer 12's example; TableAsks and TableNil: the walks.
-/
namespace Go.Proofs.Ytpldpkdlloolkaa
open Go.J Go.RowKit
set_option linter.unusedVariables false
set_option linter.unusedSimpArgs false
set_option maxRecDepth 4000
def idB : IDV := fun i => if i = 0 then 1 else 0
def fx1 : EV := ⟨⟨zI, 1⟩, zI, idB, -1, 2⟩
def fx2 : EV := ⟨⟨zI, 2⟩, zI, idB, -1, 2⟩
end Go.Proofs.Ytpldpkdlloolkaa
/-
  What an argument that can be read as data looks like in memory; and the frame of a law's row. Proved over any program.
-/
namespace Go.J
open Go.ChangeShapes Go.WideShapes Go.ChangeAt Go.RowKit
set_option linter.unusedVariables false
set_option linter.unusedSimpArgs false

def Decodes (P : Program) (t : TypeId) {α : Type} (R : World → List Value → α → Prop) : Prop :=
  ∀ (H : Type) (enc : TypeId × Value → H) (w : World) (fuel : Nat) (cs : List Value) (x : DataW H × List MemPlace),
    DataW.trod enc P w 0 (fun _ => true) true fuel t cs = some x → (∀ n, n ∈ x.1.weights P t → n ≤ reachBytes) → ∃ y : α, R w cs y

def RInt (k : IntKind) : World → List Value → Int → Prop := fun _ cs n => cs = [.int k n] ∧ (Lit.int k n).wf = true
def RU8 : World → List Value → UInt8 → Prop := fun _ cs b => cs = [u8 b]
def RBool : World → List Value → Bool → Prop := fun _ cs b => cs = [.bool b]
def RStr : World → List Value → ByteArray → Prop := fun _ cs s => cs = [.string s] ∧ s.size ≤ reachBytes
structure Sl (α : Type) where
  a : Option Addr
  c : Nat
  xs : List α
/-- the slice's own value -/
abbrev Sl.v {α : Type} (s : Sl α) : Value := .slice s.a s.xs.length s.c
def RSl {α : Type} (sz by_ : Nat) (R : World → List Value → α → Prop) : World → List Value → Sl α → Prop := fun w cs s =>
  cs = [s.v] ∧ s.xs.length ≤ s.c ∧ s.c * by_ ≤ reachBytes ∧
    (s.xs = [] ∨ ∃ b o, s.a = some ⟨b, o, none⟩ ∧ ∀ i x, s.xs[i]? = some x → ∃ cs', cs'.length = sz ∧ Cells w b (o + i * sz) cs' ∧ R w cs' x)

theorem dec_int {P : Program} {t : TypeId} {k : IntKind} (hu : P.underlying t = some (.int k)) : Decodes P t (RInt k) := by
  intro H enc w fuel cs x h _
  obtain ⟨n, rfl, _, hw⟩ := DataW.trod_int hu h
  exact ⟨n, rfl, hw⟩
theorem dec_u8 {P : Program} {t : TypeId} (hu : P.underlying t = some (.int .u8)) : Decodes P t RU8 := by
  intro H enc w fuel cs x h _
  obtain ⟨n, rfl, _, hw⟩ := DataW.trod_int hu h
  have := bounds_u8 hw
  exact ⟨UInt8.ofNat n.toNat, by
    show [Value.int .u8 n] = [Value.int .u8 ((UInt8.ofNat n.toNat).toNat : Int)]
    have h2 : (UInt8.ofNat n.toNat).toNat = n.toNat := by simp; omega
    rw [h2]; congr 2; omega⟩
theorem dec_bool {P : Program} {t : TypeId} (hu : P.underlying t = some .bool) : Decodes P t RBool := by
  intro H enc w fuel cs x h _
  obtain ⟨b, rfl, _⟩ := DataW.trod_bool hu h
  exact ⟨b, rfl⟩
theorem cells_none {w : World} {a : Addr} {k : Nat} {cs : List Value} (h : w.cells? 0 a k = some cs) (hk : 0 < k) : ∃ b o, a = ⟨b, o, none⟩ ∧ cs.length = k ∧ Cells w b o cs := by
  unfold World.cells? at h
  rw [if_pos (Nat.zero_le _)] at h
  have hl := mapM_some_length h
  have hg := fun i (hi : i < k) => mapM_some_get h i i (by simp [hi])
  obtain ⟨b, o, s⟩ := a
  have h0 : w.cell? (⟨b, o, s⟩ : Addr) = cs[0]? := by simpa [Addr.add] using hg 0 hk
  have hs : s = none := World.cell?_spot (a := ⟨b, o, s⟩) (v := cs[0]'(by simp at hl; omega)) (by rw [h0, List.getElem?_eq_getElem])
  subst hs
  refine ⟨b, o, rfl, by simpa using hl, fun j hj => ?_⟩
  have := hg j (by simp at hl; omega)
  rw [addr_add] at this
  exact this

theorem weights_all {H : Type} {P : Program} {e : TypeId} : ∀ {ds : List (DataW H)} {d : DataW H}, d ∈ ds → ∀ n, n ∈ d.weights P e → n ∈ DataW.weightsAll P e ds := by
  intro ds
  induction ds with
  | nil => intro d h; cases h
  | cons d0 ds ih =>
    intro d h n hn
    simp only [DataW.weightsAll, List.mem_append]
    cases h with
    | head => exact .inl hn
    | tail _ h => exact .inr (ih h n hn)

theorem list_of {α : Type} {p : Nat → α → Prop} : ∀ (k : Nat), (∀ i, i < k → ∃ x, p i x) → ∃ xs : List α, xs.length = k ∧ ∀ i x, xs[i]? = some x → p i x := by
  intro k
  induction k with
  | zero => intro _; exact ⟨[], rfl, fun i x h => by simp at h⟩
  | succ k ih =>
    intro h
    obtain ⟨xs, hl, hx⟩ := ih (fun i hi => h i (by omega))
    obtain ⟨y, hy⟩ := h k (by omega)
    refine ⟨xs ++ [y], by simp [hl], fun i x hi => ?_⟩
    by_cases h1 : i < k
    · rw [List.getElem?_append_left (by omega)] at hi; exact hx i x hi
    · rw [List.getElem?_append_right (by omega)] at hi
      have : i - xs.length = 0 := by
        have := (List.getElem?_eq_some_iff.1 hi).1
        simp at this; omega
      rw [this] at hi
      simp at hi
      subst hi
      rw [show i = k by omega]; exact hy

theorem dec_slice {P : Program} {t e : TypeId} {sz by_ : Nat} {α : Type} {R : World → List Value → α → Prop} (he : elemT P t = some e) (hs : sizeT P e = some sz) (hb : bytesT P e = some by_) (hsz : 0 < sz) (D : Decodes P e R) : Decodes P t (RSl sz by_ R) := by
  intro H enc w fuel cs x h hn
  have hu := elem_u he
  have hcz : P.cellsOf e = sz := by
    unfold Program.cellsOf; unfold sizeT at hs; rw [hs]; rfl
  have hbz : P.bytesOf e = by_ := by
    unfold Program.bytesOf; unfold bytesT at hb; rw [hb]; rfl
  rcases Deep.open_slice hu h with ⟨rfl, rfl⟩ | ⟨a, len, cap, m, n, Dd, Pl, rfl, _, hl, _, hm, rfl, hel⟩
  · exact ⟨⟨none, 0, []⟩, rfl, Nat.le_refl _, by simp, .inl rfl⟩
  · simp only [if_true] at hm
    subst hm
    have hw1 : m * by_ ≤ reachBytes := by
      have := hn (((List.range len).map Dd).length + ((List.range (m - len)).map fun j => Dd (len + j)).length |> (· * P.bytesOf e)) (by simp [DataW.weights, hu])
      simp only [List.length_map, List.length_range, hbz] at this
      rwa [show len + (m - len) = m by omega] at this
    have hwe : ∀ i, i < len → ∀ k, k ∈ (Dd i).weights P e → k ≤ reachBytes := by
      intro i hi k hk
      refine hn k ?_
      simp only [DataW.weights, hu, List.mem_cons, List.mem_append]
      exact .inr (.inl (weights_all (List.mem_map.2 ⟨i, List.mem_range.2 hi, rfl⟩) k hk))
    obtain ⟨xs, hxl, hx⟩ := list_of (p := fun i (y : α) => ∃ cs', w.cells? 0 (a.add (i * sz)) sz = some cs' ∧ R w cs' y) len (fun i hi => by
      obtain ⟨cs', h1, h2⟩ := hel i (by omega)
      obtain ⟨y, hy⟩ := D H enc w n cs' _ h2 (hwe i hi)
      exact ⟨y, cs', by rw [← hcz]; exact h1, hy⟩)
    refine ⟨⟨some a, m, xs⟩, by simp [Sl.v, hxl], by simp only [hxl]; exact hl, hw1, ?_⟩
    by_cases h0 : xs = []
    · exact .inl h0
    · right
      have h0l : 0 < xs.length := List.length_pos_iff.2 h0
      obtain ⟨cs0, hc0, _⟩ := hx 0 xs[0] (List.getElem?_eq_getElem h0l)
      have ha0 : a.add (0 * sz) = a := by simp [Addr.add]
      rw [ha0] at hc0
      obtain ⟨b, o, rfl, _, _⟩ := cells_none hc0 hsz
      refine ⟨b, o, rfl, fun i y hi => ?_⟩
      obtain ⟨cs', hc, hr⟩ := hx i y hi
      rw [addr_add] at hc
      obtain ⟨b', o', he', hl', hcc⟩ := cells_none hc hsz
      simp only [Addr.mk.injEq] at he'
      obtain ⟨rfl, rfl, _⟩ := he'
      exact ⟨cs', hl', hcc, hr⟩

/-- the fields of a struct: types, places, sizes -/
def fieldsL (P : Program) : List Field → Option (List (TypeId × Nat × Nat))
  | [] => some []
  | f :: fs => match sizeT P f.type, fieldsL P fs with
    | some k, some r => some ((f.type, f.offset, k) :: r)
    | _, _ => none
def fieldsT (P : Program) (t : TypeId) : Option (List (TypeId × Nat × Nat)) := match P.underlying t with
  | some (.struct fs) => fieldsL P fs.toList
  | _ => none
theorem fieldsL_get {P : Program} : ∀ {l : List Field} {r : List (TypeId × Nat × Nat)}, fieldsL P l = some r → ∀ (j : Nat) (q : TypeId × Nat × Nat), r[j]? = some q → ∃ f, l[j]? = some f ∧ q.1 = f.type ∧ q.2.1 = f.offset ∧ sizeT P f.type = some q.2.2 := by
  intro l
  induction l with
  | nil => intro r h j q hq; simp only [fieldsL, Option.some.injEq] at h; subst h; simp at hq
  | cons f fs ih =>
    intro r h j q hq
    simp only [fieldsL] at h
    split at h
    · rename_i k r' hk hr
      simp only [Option.some.injEq] at h
      subst h
      cases j with
      | zero => simp only [List.getElem?_cons_zero, Option.some.injEq] at hq; subst hq; exact ⟨f, rfl, rfl, rfl, hk⟩
      | succ j => simp only [List.getElem?_cons_succ] at hq ⊢; exact ih hr j q hq
    · cases h
/-- each field of a struct that was read can be decoded -/
theorem dec_field {P : Program} {t : TypeId} {l : List (TypeId × Nat × Nat)} (hf : fieldsT P t = some l) {H : Type} {enc : TypeId × Value → H} {w : World} {fuel : Nat} {cs : List Value} {x : DataW H × List MemPlace}
    (h : DataW.trod enc P w 0 (fun _ => true) true fuel t cs = some x) (hn : ∀ n, n ∈ x.1.weights P t → n ≤ reachBytes) :
    ∀ (j : Nat) (q : TypeId × Nat × Nat), l[j]? = some q → ∀ {α : Type} {R : World → List Value → α → Prop}, Decodes P q.1 R → ∃ y : α, R w ((cs.drop q.2.1).take q.2.2) y := by
  intro j q hq α R D
  unfold fieldsT at hf
  split at hf
  · rename_i fs hu
    obtain ⟨xs, n, _, rfl, hlen, hxl, hfl⟩ := DataW.trod_struct hu h
    obtain ⟨f, hfj, h1, h2, h3⟩ := fieldsL_get hf j q hq
    have hfj' : fs[j]? = some f := by simpa using hfj
    have := hfl j f hfj'
    have hcz : P.cellsOf f.type = q.2.2 := by
      unfold Program.cellsOf; unfold sizeT at h3; rw [h3]; rfl
    rw [hcz, ← h2] at this
    have hj : j < xs.length := by rw [hxl]; exact (Array.getElem?_eq_some_iff.1 hfj').1
    rw [List.getElem?_eq_getElem hj] at this
    refine D H enc w n _ xs[j] (h1 ▸ this) (fun k hk => hn k ?_)
    simp only [DataW.weights, hu]
    refine DataW.weights_mem_each (j := j) (t := f.type) (d := xs[j].1) ?_ ?_ k (h1 ▸ hk)
    · simp [hfj]
    · simp [List.getElem?_eq_getElem hj]
  · cases hf
theorem dec_len {P : Program} {t k : Nat} (ha : aggT P t = some true) (hs : sizeT P t = some k) {H : Type} {enc : TypeId × Value → H} {w : World} {fuel : Nat} {cs : List Value} {x : DataW H × List MemPlace}
    (h : DataW.trod enc P w 0 (fun _ => true) true fuel t cs = some x) : cs.length = k := by
  have hcz : P.cellsOf t = k := by
    unfold Program.cellsOf; unfold sizeT at hs; rw [hs]; rfl
  unfold aggT at ha
  split at ha
  · rename_i fs hu
    obtain ⟨_, _, _, _, hlen, _⟩ := DataW.trod_struct hu h
    exact hlen.trans hcz
  · rename_i m el hu
    cases fuel with
    | zero => simp [DataW.trod] at h
    | succ n =>
      unfold DataW.trod at h
      rw [hu] at h
      split at h <;> simp_all
  · cases ha
  · cases ha
/-- an array of bytes -/
def RBytes (k : Nat) : World → List Value → List UInt8 → Prop := fun _ cs bs => bs.length = k ∧ cs = bs.map u8
theorem dec_bytes {P : Program} {t e k : Nat} (ha : arrT P t = some (k, e)) (hu : P.underlying e = some (.int .u8)) (hs : sizeT P e = some 1) (hk : sizeT P t = some k) : Decodes P t (RBytes k) := by
  intro H enc w fuel cs x h _
  have hua := arr_u ha
  have hcz : P.cellsOf e = 1 := by
    unfold Program.cellsOf; unfold sizeT at hs; rw [hs]; rfl
  obtain ⟨xs, m, _, _, hl, hxl, hx⟩ := DataW.trod_array hua h
  have hlk : cs.length = k := by
    rw [hl]
    unfold Program.cellsOf; unfold sizeT at hk; rw [hk]; rfl
  obtain ⟨bs, hbl, hb⟩ := list_of (p := fun i (b : UInt8) => cs[i]? = some (u8 b)) k (fun i hi => by
    have h1 := hx i hi
    rw [hcz, Nat.mul_one, List.getElem?_eq_getElem (by omega)] at h1
    have h2 : (cs.drop i).take 1 = [cs[i]'(by omega)] := by
      rw [List.drop_eq_getElem_cons (by omega)]; rfl
    rw [h2] at h1
    obtain ⟨b, hb⟩ := dec_u8 hu H enc w m _ _ h1 (by
      intro n hn
      obtain ⟨z, _, hz, _⟩ := DataW.trod_int hu h1
      rw [hz] at hn
      simp [DataW.weights] at hn)
    refine ⟨b, ?_⟩
    have hb' : [cs[i]'(by omega)] = [u8 b] := hb
    simp only [List.cons.injEq, and_true] at hb'
    rw [List.getElem?_eq_getElem (by omega), hb'])
  refine ⟨bs, hbl, ?_⟩
  apply List.ext_getElem?
  intro i
  by_cases hi : i < k
  · rw [hb i bs[i] (List.getElem?_eq_getElem (by omega)), List.getElem?_map, List.getElem?_eq_getElem (by omega)]; rfl
  · rw [List.getElem?_eq_none (by omega), List.getElem?_eq_none (by simp; omega)]

/- arguments -/
theorem arg_int {P : Program} {W : World} {base t : Nat} {v : Value} {k : IntKind} (hu : P.underlying t = some (.int k)) (hval : Value.okWide P W .any base t v) {H : Type} {enc : TypeId × Value → H} {d : DataW H} {ps : List MemPlace}
    (h : DataW.Trod enc P W 0 (fun _ => true) true t v d ps) : ∃ n, v = .int k n ∧ (Lit.int k n).wf = true := by
  obtain ⟨n, h1, _, _, h2⟩ := open_int hu hval h
  exact ⟨n, h1, h2⟩
theorem arg_agg {P : Program} {W : World} {base t : Nat} {v : Value} {α : Type} {R : World → List Value → α → Prop} (ha : aggT P t = some true) (hval : Value.okWide P W .any base t v) (D : Decodes P t R)
    {H : Type} {enc : TypeId × Value → H} {d : DataW H} {ps : List MemPlace} (h : DataW.Trod enc P W 0 (fun _ => true) true t v d ps) (hn : ∀ n, n ∈ d.weights P t → n ≤ reachBytes) : ∃ cs : List Value, v = .agg cs.toArray ∧ ∃ x : α, R W cs x := by
  obtain ⟨fuel, hf⟩ := h
  obtain ⟨x, hx⟩ := D H enc W fuel _ _ hf hn
  have : ∃ cs, v = .agg cs := by
    unfold aggT at ha
    unfold Value.okWide at hval
    split at ha
    · rename_i fs hu; rw [hu] at hval; obtain ⟨cs, h, _⟩ := hval; exact ⟨cs, h⟩
    · rename_i m el hu; rw [hu] at hval; obtain ⟨cs, h, _⟩ := hval; exact ⟨cs, h⟩
    · cases ha
    · cases ha
  obtain ⟨cs, rfl⟩ := this
  exact ⟨cs.toList, by simp, x, hx⟩
theorem sized_arg {H : Type} {P : Program} {ts : List TypeId} {ds : List (DataW H)} (h : (DataW.weightsEach P ts ds).all (· ≤ reachBytes) = true) {j : Nat} {t : TypeId} {d : DataW H} (ht : ts[j]? = some t) (hd : ds[j]? = some d) :
    ∀ n, n ∈ d.weights P t → n ≤ reachBytes := fun n hn => by
  have := List.all_eq_true.1 h _ (DataW.weights_mem_each ht hd n hn)
  simpa using this
/-- bytes that came in -/
theorem RSl.row {W : World} {by_ : Nat} {s : Sl UInt8} {cs : List Value} (h : RSl 1 by_ RU8 W cs s) : Row W s.v s.xs.length (s.xs.map u8) := by
  obtain ⟨_, h1, _, h2⟩ := h
  refine ⟨s.a, s.c, rfl, h1, ?_⟩
  rcases h2 with h2 | ⟨b, o, ha, h2⟩
  · left; rw [h2]; rfl
  · right
    refine ⟨b, o, ha, fun j hj => ?_⟩
    simp only [List.length_map] at hj
    obtain ⟨cs', hl, hc, hr⟩ := h2 j s.xs[j] (List.getElem?_eq_getElem hj)
    have hr' : cs' = [u8 s.xs[j]] := hr
    subst hr'
    have := hc 0 (by simp)
    rw [show o + j = o + j * 1 + 0 by omega, this]
    simp [List.getElem?_eq_getElem hj]
end Go.J
/-
  Identities, paths and entries that come in; rows of integers.
-/
namespace Go.Proofs.Ytpldpkdlloolkaa
open Go.J Go.RowKit
set_option linter.unusedVariables false
set_option linter.unusedSimpArgs false
set_option maxRecDepth 4000
theorem idOf16 : ∀ (bs : List UInt8), bs.length = 16 → ∃ a : IDV, bs.map u8 = cI a
  | [b0, b1, b2, b3, b4, b5, b6, b7, b8, b9, b10, b11, b12, b13, b14, b15], _ => ⟨fun i => [b0, b1, b2, b3, b4, b5, b6, b7, b8, b9, b10, b11, b12, b13, b14, b15].get i, rfl⟩
def RId : World → List Value → IDV → Prop := fun _ cs a => cs = cI a
theorem dec_id : Decodes Try.prog 23 RId := by
  intro H enc w fuel cs x h hn
  obtain ⟨bs, hl, rfl⟩ := dec_bytes Ty.ar23 Ty.u5 Ty.s5 Ty.s23 H enc w fuel cs x h hn
  obtain ⟨a, ha⟩ := idOf16 bs hl
  exact ⟨a, ha⟩
def RPath : World → List Value → PV → Prop := fun _ cs p => cs = cP p ∧ okN p.n
theorem fs25 : fieldsT Try.prog 25 = some [(23, 0, 16), (2, 16, 1)] := by kernel_rfl
theorem split2 {cs x y : List Value} {k m : Nat} (h0 : (cs.drop 0).take k = x) (h1 : (cs.drop k).take m = y) (hl : cs.length = k + m) : cs = x ++ y := by
  rw [← h0, ← h1, List.drop_zero, List.take_of_length_le (l := cs.drop k) (by simp; omega), List.take_append_drop]
theorem dec_path : Decodes Try.prog 25 RPath := by
  intro H enc w fuel cs x h hn
  have hl := dec_len Ty.a25 Ty.s25 h
  obtain ⟨a, ha⟩ := dec_field fs25 h hn 0 _ rfl dec_id
  obtain ⟨n, hi, wi⟩ := dec_field fs25 h hn 1 _ rfl (dec_int Ty.u2)
  exact ⟨⟨a, n⟩, split2 (k := 16) (m := 1) ha hi hl, wi⟩
def REnt : World → List Value → EV → Prop := fun _ cs x => cs = cE x ∧ okE x
theorem fs34 : fieldsT Try.prog 34 = some [(25, 0, 17), (23, 17, 16), (23, 33, 16), (3, 49, 1), (3, 50, 1)] := by kernel_rfl
theorem dec_ent : Decodes Try.prog 34 REnt := by
  intro H enc w fuel cs x h hn
  have hl := dec_len Ty.a34 Ty.s34 h
  obtain ⟨p, hp, wp⟩ := dec_field fs34 h hn 0 _ rfl dec_path
  obtain ⟨a, ha⟩ := dec_field fs34 h hn 1 _ rfl dec_id
  obtain ⟨b, hb⟩ := dec_field fs34 h hn 2 _ rfl dec_id
  obtain ⟨n, hi, wi⟩ := dec_field fs34 h hn 3 _ rfl (dec_int Ty.u3)
  obtain ⟨m, hj, wj⟩ := dec_field fs34 h hn 4 _ rfl (dec_int Ty.u3)
  have hd : ∀ (k j : Nat), (cs.drop k).drop j = cs.drop (k + j) := fun k j => by rw [List.drop_drop]
  have e4 : cs.drop 49 = [.int .i64 n] ++ [.int .i64 m] := split2 (k := 1) (m := 1) (by simpa using hi) (by rw [hd]; exact hj) (by simp; omega)
  have e3 : cs.drop 33 = cI b ++ cs.drop 49 := split2 (k := 16) (m := 2) (by simpa [RId] using hb) (by rw [hd]; exact List.take_of_length_le (by simp; omega)) (by simp; omega)
  have e2 : cs.drop 17 = cI a ++ cs.drop 33 := split2 (k := 16) (m := 18) (by simpa [RId] using ha) (by rw [hd]; exact List.take_of_length_le (by simp; omega)) (by simp; omega)
  have e1 : cs = cP p ++ cs.drop 17 := split2 (k := 17) (m := 34) hp (List.take_of_length_le (by simp; omega)) hl
  refine ⟨⟨p, a, b, n, m⟩, ?_, wp, wi, wj⟩
  show cs = cP p ++ cI a ++ cI b ++ [.int .i64 n, .int .i64 m]
  rw [e1, e2, e3, e4]
  simp only [List.append_assoc, List.cons_append, List.nil_append]
end Go.Proofs.Ytpldpkdlloolkaa
/-
  Entries that come in; TableAsks and TableNil: the walks.
-/
namespace Go.Proofs.Ytpldpkdlloolkaa
open Go.J Go.RowKit
set_option linter.unusedVariables false
set_option linter.unusedSimpArgs false
set_option maxRecDepth 4000
theorem fE_cell {xs : List EV} {i r : Nat} {a : EV} (h : xs[i]? = some a) (hr : r < 51) : (fE xs)[i * 51 + r]? = (cE a)[r]? := by
  rw [← fE_at h, List.getElem?_take_of_lt hr, List.getElem?_drop]
theorem rslE {W : World} {by_ : Nat} {s : Sl EV} {cs : List Value} (h : RSl 51 by_ REnt W cs s) : Row W s.v s.xs.length (fE s.xs) := by
  obtain ⟨_, h1, _, h2⟩ := h
  refine ⟨s.a, s.c, rfl, h1, ?_⟩
  rcases h2 with h2 | ⟨b, o, ha, h2⟩
  · left; rw [h2]; rfl
  · right
    refine ⟨b, o, ha, fun j hj => ?_⟩
    rw [fE_length] at hj
    have hi : j / 51 < s.xs.length := by omega
    obtain ⟨cs', hl, hc, hr⟩ := h2 (j / 51) s.xs[j / 51] (List.getElem?_eq_getElem hi)
    have hr' : cs' = cE s.xs[j / 51] := hr.1
    subst hr'
    have := hc (j % 51) (by show j % 51 < 51; omega)
    rw [show o + j = o + j / 51 * 51 + j % 51 by omega, this, ← fE_cell (List.getElem?_eq_getElem hi) (by omega), show j / 51 * 51 + j % 51 = j by omega]
theorem rslE_ok {W : World} {by_ : Nat} {s : Sl EV} {cs : List Value} (h : RSl 51 by_ REnt W cs s) : ∀ x, x ∈ s.xs → okE x := by
  obtain ⟨_, h1, _, h2⟩ := h
  intro x hx
  rcases h2 with h2 | ⟨b, o, ha, h2⟩
  · rw [h2] at hx; cases hx
  · obtain ⟨i, hi, rfl⟩ := List.getElem_of_mem hx
    obtain ⟨_, _, _, hr⟩ := h2 i s.xs[i] (List.getElem?_eq_getElem hi)
    exact hr.2
theorem rslE_len {W : World} {s : Sl EV} {cs : List Value} (h : RSl 51 72 REnt W cs s) : s.xs.length ≤ 1954687338213 := by
  obtain ⟨_, h1, h2, _⟩ := h
  have h3 : reachBytes = 140737488351232 := rfl
  omega



end Go.Proofs.Ytpldpkdlloolkaa
/-
  A table that entries are put into; TableNew and TableUndo: the walks.
-/
namespace Go.Proofs.Ytpldpkdlloolkaa
open Go.J Go.RowKit
set_option linter.unusedVariables false
set_option linter.unusedSimpArgs false
set_option maxRecDepth 4000
/-- the entries of a table, after some were handed in -/
def laidL (most : Int) (l : List EV) : List EV := l.foldl (fun L x => (tadd L most x).2) []
theorem laidL_snoc (most : Int) (l : List EV) (x : EV) : laidL most (l ++ [x]) = (tadd (laidL most l) most x).2 := by
  unfold laidL
  rw [List.foldl_append]
  rfl
structure GoodL (L : List EV) (most : Int) : Prop where
  right : ∀ x, x ∈ L → rightP x
  len : (L.length : Int) ≤ max most 0
theorem tadd_cases (L : List EV) (most : Int) (x : EV) : ((tadd L most x).1 = 0 ∧ (tadd L most x).2 = L ++ [x] ∧ rightP x ∧ tget L x.p = none ∧ (L.length : Int) < most) ∨
    ((tadd L most x).1 ≠ 0 ∧ (tadd L most x).2 = L ∧ (rightP x → tget L x.p = none → most ≤ (L.length : Int))) := by
  unfold tadd
  by_cases h1 : rightP x
  · rw [if_neg (by simpa using h1)]
    by_cases h2 : (tget L x.p).isSome = true
    · rw [if_pos h2]
      exact .inr ⟨by simp, rfl, fun _ h3 => by rw [h3] at h2; cases h2⟩
    · rw [if_neg h2]
      by_cases h3 : most ≤ (L.length : Int)
      · rw [if_pos h3]
        exact .inr ⟨by simp, rfl, fun _ _ => h3⟩
      · rw [if_neg h3]
        refine .inl ⟨rfl, rfl, h1, ?_, by omega⟩
        cases h : tget L x.p with
        | none => rfl
        | some y => rw [h] at h2; simp at h2
  · rw [if_pos h1]
    exact .inr ⟨by simp, rfl, fun h => absurd h h1⟩
theorem GoodL.add {L : List EV} {most : Int} (h : GoodL L most) (x : EV) : GoodL (tadd L most x).2 most := by
  rcases tadd_cases L most x with ⟨_, h2, h3, _, h5⟩ | ⟨_, h2, _⟩
  · rw [h2]
    refine ⟨fun y hy => ?_, by rw [List.length_append, List.length_singleton]; omega⟩
    rcases List.mem_append.1 hy with hy | hy
    · exact h.right y hy
    · rw [List.mem_singleton.1 hy]; exact h3
  · rw [h2]; exact h
theorem laidL_good (most : Int) (l : List EV) : GoodL (laidL most l) most := by
  have key : ∀ (l L : List EV), GoodL L most → GoodL (l.foldl (fun L x => (tadd L most x).2) L) most := by
    intro l
    induction l with
    | nil => intro L h; exact h
    | cons x l ih => intro L h; exact ih _ (h.add x)
  exact key l [] ⟨(fun x h => by cases h), (by show ((0 : Nat) : Int) ≤ _; omega)⟩
def delL (L : List EV) (p : PV) : List EV := L.filter (fun y => decide (y.p ≠ p))
theorem perm_sorted_mem {α : Type} {le : α → α → Prop} : ∀ {l m : List α}, (∀ a b, a ∈ l → b ∈ l → le a b → le b a → a = b) → l.Perm m → l.Pairwise le → m.Pairwise le → l = m
  | [], m, _, hp, _, _ => (List.Perm.nil_eq hp)
  | a :: l, [], _, hp, _, _ => by have := hp.length_eq; simp at this
  | a :: l, b :: m, anti, hp, hl, hm => by
    have hl' := List.pairwise_cons.1 hl
    have hm' := List.pairwise_cons.1 hm
    have hbl : b ∈ a :: l := hp.mem_iff.2 (.head _)
    have hab : a = b := by
      rcases List.mem_cons.1 (hp.mem_iff.1 (.head _) : a ∈ b :: m) with h | h
      · exact h
      · rcases List.mem_cons.1 hbl with h2 | h2
        · exact h2.symm
        · exact anti a b (.head _) hbl (hl'.1 b h2) (hm'.1 a h)
    subst hab
    rw [perm_sorted_mem (fun x y hx hy => anti x y (.tail _ hx) (.tail _ hy)) (List.Perm.cons_inv hp) hl'.2 hm'.2]
theorem eq_of_p {L : List EV} (hd : L.Pairwise (fun x y => x.p ≠ y.p)) {x y : EV} (hx : x ∈ L) (hy : y ∈ L) (h : x.p = y.p) : x = y := by
  have h1 := tget_some hd hx
  have h2 := tget_some hd hy
  rw [h, h2] at h1
  exact (Option.some.inj h1).symm
theorem sorted_congr {A B : List EV} (hd : A.Pairwise (fun x y => x.p ≠ y.p)) (hq : A.Perm B) (s1 : A.Pairwise (fun a b => ltP b.p a.p = false)) (s2 : B.Pairwise (fun a b => ltP b.p a.p = false)) : A = B := by
  have anti : ∀ a b, a ∈ A → b ∈ A → ltP b.p a.p = false → ltP a.p b.p = false → a = b := fun a b ha hb h1 h2 => eq_of_p hd ha hb (ltP_total h2 h1)
  exact perm_sorted_mem anti hq s1 s2
theorem ordE_ok {L : List EV} {es : Array MapEntry} {clock : Nat} (hT : Tab L es clock) : ∀ x, x ∈ ordE L → okE x := fun x hx => hT.ok x ((ordE_perm L).mem_iff.1 hx)

def Blk (v : Value) (n : Nat) (lp : List (Nat × Obj)) : Prop := n = 0 ∨ ∃ q c cs, v = .slice (some ⟨q, 0, none⟩) n c ∧ lp = [(q, cb cs 34)] ∧ cs.length = c * 51 ∧ n ≤ c
end Go.Proofs.Ytpldpkdlloolkaa
/-
  TableUndo: the walk.
-/
namespace Go.Proofs.Ytpldpkdlloolkaa
open Go.J Go.RowKit
set_option linter.unusedVariables false
set_option linter.unusedSimpArgs false
set_option maxRecDepth 4000
end Go.Proofs.Ytpldpkdlloolkaa
/-
  Arguments: arrays of what can be decoded. Proved over any program.
-/
namespace Go.J
open Go.ChangeShapes Go.WideShapes Go.ChangeAt Go.RowKit
set_option linter.unusedVariables false
set_option linter.unusedSimpArgs false
def RArr {α : Type} (k sz : Nat) (R : World → List Value → α → Prop) : World → List Value → List α → Prop := fun w cs xs =>
  cs.length = k * sz ∧ xs.length = k ∧ ∀ i x, xs[i]? = some x → R w ((cs.drop (i * sz)).take sz) x
end Go.J
/-
  The calculus: slices whose capacity may end ahead of their block; s[lo:hi:max]; rows of anything. Proved over any program.
-/
namespace Go.J
open Go.RowKit
set_option linter.unusedVariables false
set_option linter.unusedSimpArgs false
/-- a slice of the call's own of which the block may hold more than its capacity -/
def VecW (t sz : Nat) (v : Value) (k : Nat) (xs : List Value) (lp : List (Nat × Obj)) : Prop :=
  xs.length = k * sz ∧ ((v = .slice none 0 0 ∧ k = 0 ∧ lp = []) ∨ ∃ b c sp, v = .slice (some ⟨b, 0, none⟩) k c ∧ lp = [(b, cb (xs ++ sp) t)] ∧ c * sz ≤ (xs ++ sp).length ∧ k ≤ c)
section
variable {P : Program} {ops : Array Oper} {Q : Exit → Act → World → Prop} {n : Nat} {e : Env} {I I' : World → Prop} {rest : List Oper}
variable {d t : Nat} {p : String} {af : Array Edge} {x y z : Operand} {v v1 v2 : Value} {w0 : World} {S : List Nat} {l l' lp : List (Nat × Obj)}
end
/-- rows of anything -/
theorem fG_length {α : Type} {c : α → List Value} {sz : Nat} (hc : ∀ x, (c x).length = sz) : ∀ xs : List α, (xs.flatMap c).length = xs.length * sz
  | [] => by simp
  | x :: xs => by
    have := fG_length hc xs
    simp only [List.flatMap_cons, List.length_append, List.length_cons, this, hc, Nat.add_mul]
    omega
theorem fG_at {α : Type} {c : α → List Value} {sz : Nat} (hc : ∀ x, (c x).length = sz) : ∀ {xs : List α} {i : Nat} {a : α}, xs[i]? = some a → ((xs.flatMap c).drop (i * sz)).take sz = c a
  | [], i, a, h => by simp at h
  | x :: xs, 0, a, h => by
    simp only [List.getElem?_cons_zero, Option.some.injEq] at h
    subst h
    rw [Nat.zero_mul, List.drop_zero, List.flatMap_cons, ← hc x, List.take_left]
  | x :: xs, i + 1, a, h => by
    have ih := fG_at hc (xs := xs) (i := i) (by simpa using h)
    rw [Nat.add_mul, Nat.one_mul, Nat.add_comm, ← List.drop_drop, List.flatMap_cons]
    have : (c x ++ List.flatMap c xs).drop sz = List.flatMap c xs := by rw [← hc x, List.drop_left]
    rw [this]
    exact ih
theorem fG_cell {α : Type} {c : α → List Value} {sz : Nat} (hc : ∀ x, (c x).length = sz) {xs : List α} {i r : Nat} {a : α} (h : xs[i]? = some a) (hr : r < sz) : (xs.flatMap c)[i * sz + r]? = (c a)[r]? := by
  rw [← fG_at hc h, List.getElem?_take_of_lt hr, List.getElem?_drop]
end Go.J
/-
  Arguments: slices of what has fixed cells, as rows. Proved over any program.
-/
namespace Go.J
open Go.ChangeShapes Go.WideShapes Go.ChangeAt Go.RowKit
set_option linter.unusedVariables false
set_option linter.unusedSimpArgs false
theorem rslG {α : Type} {c : α → List Value} {sz by_ : Nat} (hc : ∀ x, (c x).length = sz) (hz : 0 < sz) {R : World → List Value → α → Prop} (hR : ∀ W cs x, R W cs x → cs = c x) {W : World} {s : Sl α} {cs : List Value} (h : RSl sz by_ R W cs s) : Row W s.v s.xs.length (s.xs.flatMap c) := by
  obtain ⟨_, h1, _, h2⟩ := h
  refine ⟨s.a, s.c, rfl, h1, ?_⟩
  rcases h2 with h2 | ⟨b, o, ha, h2⟩
  · left; rw [h2]; rfl
  · right
    refine ⟨b, o, ha, fun j hj => ?_⟩
    rw [fG_length hc] at hj
    have hi : j / sz < s.xs.length := Nat.div_lt_of_lt_mul (by rw [Nat.mul_comm]; exact hj)
    obtain ⟨cs', hl, hcc, hr⟩ := h2 (j / sz) s.xs[j / sz] (List.getElem?_eq_getElem hi)
    have hr' : cs' = c s.xs[j / sz] := hR _ _ _ hr
    subst hr'
    have hm := Nat.mod_lt j hz
    have := hcc (j % sz) (by rw [hc]; exact hm)
    have hdm : j / sz * sz + j % sz = j := by rw [Nat.mul_comm]; exact Nat.div_add_mod j sz
    rw [show o + j = o + j / sz * sz + j % sz by omega, this, ← fG_cell hc (List.getElem?_eq_getElem hi) hm, hdm]
end Go.J
/-
  Scripts of calls that come in; the document's table beside the program's.
-/
namespace Go.Proofs.Ytpldpkdlloolkaa
open Go.J Go.RowKit
set_option linter.unusedVariables false
set_option linter.unusedSimpArgs false
set_option maxRecDepth 4000
structure OV where
  k : Int
  n : Int
  x : EV
abbrev cO (o : OV) : List Value := [.int .i64 o.k, .int .i64 o.n] ++ cE o.x
def okO (o : OV) : Prop := okN o.k ∧ okN o.n ∧ okE o.x
def zO : OV := ⟨0, 0, zE⟩
def ROp : World → List Value → OV → Prop := fun _ cs o => cs = cO o ∧ okO o
abbrev fO (xs : List OV) : List Value := xs.flatMap cO
theorem tget_perm {L M : List EV} (hp : L.Perm M) (hd : L.Pairwise (fun x y => x.p ≠ y.p)) (p : PV) : tget L p = tget M p := by
  have hd2 : M.Pairwise (fun x y => x.p ≠ y.p) := hp.pairwise hd (fun {a b} h => h.symm)
  cases h : tget L p with
  | none =>
    have := tget_none.1 h
    exact (tget_none.2 fun x hx => this x (hp.mem_iff.2 hx)).symm
  | some y =>
    have hy := List.mem_of_find?_eq_some h
    have hpp : y.p = p := by simpa using List.find?_some h
    have := tget_some hd2 (hp.mem_iff.1 hy)
    rw [hpp] at this
    exact this.symm
theorem tget_ordD {L : List EV} (hd : L.Pairwise (fun x y => x.p ≠ y.p)) (p : PV) : tget (ordE L) p = tget L p := (tget_perm (ordE_perm L).symm hd p).symm
theorem insE_perm : ∀ (R : List EV) (x : EV), (insE R x).Perm (R ++ [x])
  | [], x => .refl _
  | y :: R, x => by
    unfold insE
    split
    · exact (insE_perm R x).cons y
    · exact (List.perm_append_comm (l₁ := [x]) (l₂ := y :: R))
theorem insE_sorted {x : EV} : ∀ {R : List EV}, R.Pairwise (fun a b => ltP b.p a.p = false) → (insE R x).Pairwise (fun a b => ltP b.p a.p = false)
  | [], _ => List.pairwise_singleton _ _
  | y :: R, h => by
    have h' := List.pairwise_cons.1 h
    unfold insE
    split
    · rename_i hlt
      refine List.pairwise_cons.2 ⟨fun z hz => ?_, insE_sorted h'.2⟩
      rcases List.mem_append.1 ((insE_perm R x).mem_iff.1 hz) with hz | hz
      · exact h'.1 z hz
      · rw [List.mem_singleton.1 hz]
        exact ltP_asymm hlt
    · rename_i hlt
      have hlt' : ltP y.p x.p = false := by simpa using hlt
      refine List.pairwise_cons.2 ⟨fun z hz => ?_, h⟩
      rcases List.mem_cons.1 hz with rfl | hz
      · exact hlt'
      · have h3 := h'.1 z hz
        rw [Bool.eq_false_iff, Ne, ltP_iff] at hlt' h3 ⊢
        omega
theorem insE_ord {L : List EV} {x : EV} (hd : (L ++ [x]).Pairwise (fun x y => x.p ≠ y.p)) : insE (ordE L) x = ordE (L ++ [x]) := by
  have hp : (insE (ordE L) x).Perm (L ++ [x]) := (insE_perm _ _).trans ((ordE_perm L).append_right [x])
  exact sorted_congr (hp.symm.pairwise hd (fun {a b} h => h.symm)) (hp.trans (ordE_perm _).symm) (insE_sorted (ordE_sorted L)) (ordE_sorted _)
theorem radd_ord {L : List EV} {x : EV} {most : Int} (hd : L.Pairwise (fun x y => x.p ≠ y.p)) : radd (ordE L) most x = ((tadd L most x).1, ordE (tadd L most x).2) := by
  unfold radd tadd
  rw [tget_ordD hd, (ordE_perm L).length_eq]
  by_cases h1 : rightP x
  · have h1' : ¬ ¬ rightP x := fun h => h h1
    simp only [if_neg h1']
    by_cases h2 : (tget L x.p).isSome = true
    · simp only [if_pos h2]
    · simp only [if_neg h2]
      by_cases h3 : most ≤ (L.length : Int)
      · simp only [if_pos h3]
      · simp only [if_neg h3]
        have hno : tget L x.p = none := by
          cases h : tget L x.p with
          | none => rfl
          | some y => rw [h] at h2; simp at h2
        have h4 := tget_none.1 hno
        rw [insE_ord]
        rw [List.pairwise_append]
        exact ⟨hd, List.pairwise_singleton _ _, fun a ha b hb => by rw [List.mem_singleton.1 hb]; exact h4 a ha⟩
  · simp only [if_pos h1]
end Go.Proofs.Ytpldpkdlloolkaa
