/-
  What the functions of package table do, that do not list: contracts.
-/
import Derived.Test.YtohldionclgljaaGreatTk
import Derived.Test.YtohldionclgljaaGreatMb
namespace Go.Proofs.YtohldionclgljaaGreat
open Go.J Go.RowKit
set_option linter.unusedVariables false
set_option linter.unusedSimpArgs false
set_option maxRecDepth 4000
/-- a table in memory -/
abbrev tabO (most : Int) (mb : Nat) : Obj := cb [.int .i64 most, .map (some mb)] 92
abbrev okTN (n : Int) : Prop := -1 ≤ n ∧ n < 6
def rightP (x : EV) : Prop := x.a ≠ x.b ∧ okTN x.na ∧ okTN x.nb ∧ x.na ≠ x.nb
instance (x : EV) : Decidable (rightP x) := by unfold rightP; infer_instance
/-- what adding an entry answers, and leaves -/
def tadd (L : List EV) (most : Int) (x : EV) : Int × List EV :=
  if ¬ rightP x then (1, L) else if (tget L x.p).isSome then (7, L) else if most ≤ (L.length : Int) then (5, L) else (0, L ++ [x])

theorem new_spec (n : Int) (w : World) :
    Calls Tryz.prog 23 [.int .i64 n].toArray w fun r w' => ∃ x : Nat × Nat, r = .returned (.pointer (some ⟨x.1, 0, none⟩)) ∧ St w [] [(x.1, tabO (min (max n 0) 128) x.2), (x.2, .map #[] 0)] w' := by
  refine calls_of_J (args := [.int .i64 n]) (e := [(0, .int .i64 n)]) Tryz.func23 rfl rfl ⟨rfl, trivial⟩ (St.start w) ?_
  refine JC.seq (fun K0 hK0 => ?_)
  refine JC.region ?_
  refine J.assign rfl rfl ?_
  refine J.nil ?_
  refine JX.thenN (hK0 _ _ ?_)
  refine JC.seq (fun K1 hK1 => ?_)
  refine JC.region ?_
  refine J.move rfl rfl ?_
  refine J.max2 rfl rfl rfl ?_
  refine J.min2 rfl rfl rfl ?_
  refine J.makeMap rfl (fun b6 => ?_)
  refine J.buildS Ty.pl92 Ty.z92 rfl rfl rfl ?_
  refine J.box rfl rfl rfl (fun b8 => ?_)
  refine J.assign rfl rfl ?_
  refine J.nil ?_
  refine JX.thenN (hK1 _ _ ?_)
  refine JC.ret ?_
  refine JX.ret1 rfl rfl (fun w hw => ?_)
  exact ⟨(b8, b6), rfl, hw⟩

theorem right1_spec (n : Int) (w : World) :
    Calls Tryz.prog 67 [.int .i64 n].toArray w fun r w' => r = .returned (.bool (decide (okTN n))) ∧ Bel w w' := by
  refine calls_of_J (args := [.int .i64 n]) (e := [(0, .int .i64 n)]) Tryz.func67 rfl rfl ⟨rfl, trivial⟩ (St.start w) ?_
  refine JC.seq (fun K0 hK0 => ?_)
  refine JC.region ?_
  refine J.assign rfl rfl ?_
  refine J.nil ?_
  refine JX.thenN (hK0 _ _ ?_)
  refine JC.seq (fun K1 hK1 => ?_)
  refine JC.region ?_
  refine J.move rfl rfl ?_
  refine J.bin rfl rfl rfl rfl ?_
  refine J.move rfl rfl ?_
  refine J.split 5 rfl (fun hs5 => ?_) (fun hs5 => ?_)
  · skip
    try simp only [decide_eq_true_eq, decide_eq_false_iff_not, beq_iff_eq, bne_iff_ne, bne_eq_false_iff_eq, ne_eq, beq_eq_false_iff_ne, Bool.not_eq_true, Bool.not_eq_false, Int.not_lt, Int.not_le] at hs5
    first
    | exact absurd hs5 (by decide)
    | skip
      first | refine J.skip rfl rfl rfl rfl rfl ?_ | refine J.skipU rfl rfl rfl rfl ?_ | (refine J.unguard rfl rfl rfl ?_; refine J.move rfl rfl ?_)
      first | refine J.skip rfl rfl rfl rfl rfl ?_ | refine J.skipU rfl rfl rfl rfl ?_ | (refine J.unguard rfl rfl rfl ?_; refine J.bin rfl rfl rfl rfl ?_)
      (first | refine J.pickT rfl rfl rfl ?_ | refine J.pickF rfl rfl rfl ?_)
      refine J.assign rfl rfl ?_
      refine J.nil ?_
      refine JX.thenN (hK1 _ _ ?_)
      refine JC.ret ?_
      refine JX.ret1 rfl rfl (fun w hw => ?_)
      refine ⟨?_, hw.below⟩
      first | (simp [okTN]; done) | (simp [okTN]; omega) | (simp [okTN]; intros; omega)
  · skip
    try simp only [decide_eq_true_eq, decide_eq_false_iff_not, beq_iff_eq, bne_iff_ne, bne_eq_false_iff_eq, ne_eq, beq_eq_false_iff_ne, Bool.not_eq_true, Bool.not_eq_false, Int.not_lt, Int.not_le] at hs5
    first
    | exact absurd hs5 (by decide)
    | skip
      first | refine J.skip rfl rfl rfl rfl rfl ?_ | refine J.skipU rfl rfl rfl rfl ?_ | (refine J.unguard rfl rfl rfl ?_; refine J.move rfl rfl ?_)
      first | refine J.skip rfl rfl rfl rfl rfl ?_ | refine J.skipU rfl rfl rfl rfl ?_ | (refine J.unguard rfl rfl rfl ?_; refine J.bin rfl rfl rfl rfl ?_)
      (first | refine J.pickT rfl rfl rfl ?_ | refine J.pickF rfl rfl rfl ?_)
      refine J.assign rfl rfl ?_
      refine J.nil ?_
      refine JX.thenN (hK1 _ _ ?_)
      refine JC.ret ?_
      refine JX.ret1 rfl rfl (fun w hw => ?_)
      refine ⟨?_, hw.below⟩
      first | (simp [okTN]; done) | (simp [okTN]; omega) | (simp [okTN]; intros; omega)

theorem right_spec (x : EV) (w : World) :
    Calls Tryz.prog 46 [.agg (cE x).toArray].toArray w fun r w' => r = .returned (.bool (decide (rightP x))) ∧ Bel w w' := by
  refine calls_of_J (args := [.agg (cE x).toArray]) (e := [(0, .agg (cE x).toArray)]) Tryz.func46 rfl rfl ⟨rfl, trivial⟩ (St.start w) ?_
  refine JC.seq (fun K0 hK0 => ?_)
  refine JC.region ?_
  refine J.box rfl rfl rfl (fun b1 => ?_)
  refine J.assign rfl rfl ?_
  refine J.nil ?_
  refine JX.thenN (hK0 _ _ ?_)
  refine JC.seq (fun K1 hK1 => ?_)
  refine JC.region ?_
  refine J.assign rfl rfl ?_
  refine J.nil ?_
  refine JX.thenN (hK1 _ _ ?_)
  refine JC.seq (fun K2 hK2 => ?_)
  refine JC.region ?_
  refine J.fieldAddr Ty.fd33_1 rfl rfl ?_
  refine J.loadOA (vs := cI x.a) Ty.a24 Ty.s24 rfl (by repeat first | exact .head _ | apply List.Mem.tail | apply List.mem_append_right) (by exact rfl) rfl rfl ?_
  refine J.fieldAddr Ty.fd33_2 rfl rfl ?_
  refine J.loadOA (vs := cI x.b) Ty.a24 Ty.s24 rfl (by repeat first | exact .head _ | apply List.Mem.tail | apply List.mem_append_right) (by exact rfl) rfl rfl ?_
  refine J.neI Ty.QI Ty.keyI rfl rfl rfl ?_
  refine J.move rfl rfl ?_
  refine J.split 9 rfl (fun hs9 => ?_) (fun hs9 => ?_)
  · skip
    try simp only [decide_eq_true_eq, decide_eq_false_iff_not, beq_iff_eq, bne_iff_ne, bne_eq_false_iff_eq, ne_eq, beq_eq_false_iff_ne, Bool.not_eq_true, Bool.not_eq_false, Int.not_lt, Int.not_le] at hs9
    first
    | exact absurd hs9 (by decide)
    | skip
      first | refine J.skip rfl rfl rfl rfl rfl ?_ | refine J.skipU rfl rfl rfl rfl ?_ | (refine J.unguard rfl rfl rfl ?_; refine J.move rfl rfl ?_)
      first | refine J.skip rfl rfl rfl rfl rfl ?_ | refine J.skipU rfl rfl rfl rfl ?_ | (refine J.unguard rfl rfl rfl ?_; refine J.fieldAddr Ty.fd33_3 rfl rfl ?_)
      first | refine J.skip rfl rfl rfl rfl rfl ?_ | refine J.skipU rfl rfl rfl rfl ?_ | (refine J.unguard rfl rfl rfl ?_; refine J.loadO Ty.a3 rfl (by repeat first | exact .head _ | apply List.Mem.tail | apply List.mem_append_right) (by exact rfl) rfl ?_)
      first | refine J.skip rfl rfl rfl rfl rfl ?_ | refine J.skipU rfl rfl rfl rfl ?_ | (refine J.unguard rfl rfl rfl ?_; refine J.callVB (v := .bool (decide (okTN x.na))) (fun w1 w2 hw hb => hw.step hb) Ty.bd67 rfl rfl rfl (fun w1 hw => by simpa using right1_spec x.na w1) ?_)
      (first | refine J.pickT rfl rfl rfl ?_ | refine J.pickF rfl rfl rfl ?_)
      refine J.move rfl rfl ?_
      refine J.split 15 rfl (fun hs15 => ?_) (fun hs15 => ?_)
      · skip
        try simp only [decide_eq_true_eq, decide_eq_false_iff_not, beq_iff_eq, bne_iff_ne, bne_eq_false_iff_eq, ne_eq, beq_eq_false_iff_ne, Bool.not_eq_true, Bool.not_eq_false, Int.not_lt, Int.not_le] at hs15
        first
        | exact absurd hs15 (by decide)
        | skip
          first | refine J.skip rfl rfl rfl rfl rfl ?_ | refine J.skipU rfl rfl rfl rfl ?_ | (refine J.unguard rfl rfl rfl ?_; refine J.move rfl rfl ?_)
          first | refine J.skip rfl rfl rfl rfl rfl ?_ | refine J.skipU rfl rfl rfl rfl ?_ | (refine J.unguard rfl rfl rfl ?_; refine J.fieldAddr Ty.fd33_4 rfl rfl ?_)
          first | refine J.skip rfl rfl rfl rfl rfl ?_ | refine J.skipU rfl rfl rfl rfl ?_ | (refine J.unguard rfl rfl rfl ?_; refine J.loadO Ty.a3 rfl (by repeat first | exact .head _ | apply List.Mem.tail | apply List.mem_append_right) (by exact rfl) rfl ?_)
          first | refine J.skip rfl rfl rfl rfl rfl ?_ | refine J.skipU rfl rfl rfl rfl ?_ | (refine J.unguard rfl rfl rfl ?_; refine J.callVB (v := .bool (decide (okTN x.nb))) (fun w1 w2 hw hb => hw.step hb) Ty.bd67 rfl rfl rfl (fun w1 hw => by simpa using right1_spec x.nb w1) ?_)
          (first | refine J.pickT rfl rfl rfl ?_ | refine J.pickF rfl rfl rfl ?_)
          refine J.move rfl rfl ?_
          refine J.split 21 rfl (fun hs21 => ?_) (fun hs21 => ?_)
          · skip
            try simp only [decide_eq_true_eq, decide_eq_false_iff_not, beq_iff_eq, bne_iff_ne, bne_eq_false_iff_eq, ne_eq, beq_eq_false_iff_ne, Bool.not_eq_true, Bool.not_eq_false, Int.not_lt, Int.not_le] at hs21
            first
            | exact absurd hs21 (by decide)
            | skip
              first | refine J.skip rfl rfl rfl rfl rfl ?_ | refine J.skipU rfl rfl rfl rfl ?_ | (refine J.unguard rfl rfl rfl ?_; refine J.fieldAddr Ty.fd33_3 rfl rfl ?_)
              first | refine J.skip rfl rfl rfl rfl rfl ?_ | refine J.skipU rfl rfl rfl rfl ?_ | (refine J.unguard rfl rfl rfl ?_; refine J.loadO Ty.a3 rfl (by repeat first | exact .head _ | apply List.Mem.tail | apply List.mem_append_right) (by exact rfl) rfl ?_)
              first | refine J.skip rfl rfl rfl rfl rfl ?_ | refine J.skipU rfl rfl rfl rfl ?_ | (refine J.unguard rfl rfl rfl ?_; refine J.fieldAddr Ty.fd33_4 rfl rfl ?_)
              first | refine J.skip rfl rfl rfl rfl rfl ?_ | refine J.skipU rfl rfl rfl rfl ?_ | (refine J.unguard rfl rfl rfl ?_; refine J.loadO Ty.a3 rfl (by repeat first | exact .head _ | apply List.Mem.tail | apply List.mem_append_right) (by exact rfl) rfl ?_)
              first | refine J.skip rfl rfl rfl rfl rfl ?_ | refine J.skipU rfl rfl rfl rfl ?_ | (refine J.unguard rfl rfl rfl ?_; refine J.bin rfl rfl rfl rfl ?_)
              (first | refine J.pickT rfl rfl rfl ?_ | refine J.pickF rfl rfl rfl ?_)
              refine J.assign rfl rfl ?_
              refine J.nil ?_
              refine JX.thenN (hK2 _ _ ?_)
              refine JC.ret ?_
              refine JX.ret1 rfl rfl (fun w hw => ?_)
              refine ⟨?_, hw.below⟩
              first | (simp_all [rightP, okTN]; done) | (simp [rightP, okTN]; omega) | (simp_all [rightP, okTN]; rfl) | (simp_all [rightP, okTN]; intros; omega)
          · skip
            try simp only [decide_eq_true_eq, decide_eq_false_iff_not, beq_iff_eq, bne_iff_ne, bne_eq_false_iff_eq, ne_eq, beq_eq_false_iff_ne, Bool.not_eq_true, Bool.not_eq_false, Int.not_lt, Int.not_le] at hs21
            first
            | exact absurd hs21 (by decide)
            | skip
              first | refine J.skip rfl rfl rfl rfl rfl ?_ | refine J.skipU rfl rfl rfl rfl ?_ | (refine J.unguard rfl rfl rfl ?_; refine J.fieldAddr Ty.fd33_3 rfl rfl ?_)
              first | refine J.skip rfl rfl rfl rfl rfl ?_ | refine J.skipU rfl rfl rfl rfl ?_ | (refine J.unguard rfl rfl rfl ?_; refine J.loadO Ty.a3 rfl (by repeat first | exact .head _ | apply List.Mem.tail | apply List.mem_append_right) (by exact rfl) rfl ?_)
              first | refine J.skip rfl rfl rfl rfl rfl ?_ | refine J.skipU rfl rfl rfl rfl ?_ | (refine J.unguard rfl rfl rfl ?_; refine J.fieldAddr Ty.fd33_4 rfl rfl ?_)
              first | refine J.skip rfl rfl rfl rfl rfl ?_ | refine J.skipU rfl rfl rfl rfl ?_ | (refine J.unguard rfl rfl rfl ?_; refine J.loadO Ty.a3 rfl (by repeat first | exact .head _ | apply List.Mem.tail | apply List.mem_append_right) (by exact rfl) rfl ?_)
              first | refine J.skip rfl rfl rfl rfl rfl ?_ | refine J.skipU rfl rfl rfl rfl ?_ | (refine J.unguard rfl rfl rfl ?_; refine J.bin rfl rfl rfl rfl ?_)
              (first | refine J.pickT rfl rfl rfl ?_ | refine J.pickF rfl rfl rfl ?_)
              refine J.assign rfl rfl ?_
              refine J.nil ?_
              refine JX.thenN (hK2 _ _ ?_)
              refine JC.ret ?_
              refine JX.ret1 rfl rfl (fun w hw => ?_)
              refine ⟨?_, hw.below⟩
              first | (simp_all [rightP, okTN]; done) | (simp [rightP, okTN]; omega) | (simp_all [rightP, okTN]; rfl) | (simp_all [rightP, okTN]; intros; omega)
      · skip
        try simp only [decide_eq_true_eq, decide_eq_false_iff_not, beq_iff_eq, bne_iff_ne, bne_eq_false_iff_eq, ne_eq, beq_eq_false_iff_ne, Bool.not_eq_true, Bool.not_eq_false, Int.not_lt, Int.not_le] at hs15
        first
        | exact absurd hs15 (by decide)
        | skip
          first | refine J.skip rfl rfl rfl rfl rfl ?_ | refine J.skipU rfl rfl rfl rfl ?_ | (refine J.unguard rfl rfl rfl ?_; refine J.move rfl rfl ?_)
          first | refine J.skip rfl rfl rfl rfl rfl ?_ | refine J.skipU rfl rfl rfl rfl ?_ | (refine J.unguard rfl rfl rfl ?_; refine J.fieldAddr Ty.fd33_4 rfl rfl ?_)
          first | refine J.skip rfl rfl rfl rfl rfl ?_ | refine J.skipU rfl rfl rfl rfl ?_ | (refine J.unguard rfl rfl rfl ?_; refine J.loadO Ty.a3 rfl (by repeat first | exact .head _ | apply List.Mem.tail | apply List.mem_append_right) (by exact rfl) rfl ?_)
          first | refine J.skip rfl rfl rfl rfl rfl ?_ | refine J.skipU rfl rfl rfl rfl ?_ | (refine J.unguard rfl rfl rfl ?_; refine J.callVB (v := .bool (decide (okTN x.nb))) (fun w1 w2 hw hb => hw.step hb) Ty.bd67 rfl rfl rfl (fun w1 hw => by simpa using right1_spec x.nb w1) ?_)
          (first | refine J.pickT rfl rfl rfl ?_ | refine J.pickF rfl rfl rfl ?_)
          refine J.move rfl rfl ?_
          refine J.split 21 rfl (fun hs21 => ?_) (fun hs21 => ?_)
          · skip
            try simp only [decide_eq_true_eq, decide_eq_false_iff_not, beq_iff_eq, bne_iff_ne, bne_eq_false_iff_eq, ne_eq, beq_eq_false_iff_ne, Bool.not_eq_true, Bool.not_eq_false, Int.not_lt, Int.not_le] at hs21
            first
            | exact absurd hs21 (by decide)
            | skip
              first | refine J.skip rfl rfl rfl rfl rfl ?_ | refine J.skipU rfl rfl rfl rfl ?_ | (refine J.unguard rfl rfl rfl ?_; refine J.fieldAddr Ty.fd33_3 rfl rfl ?_)
              first | refine J.skip rfl rfl rfl rfl rfl ?_ | refine J.skipU rfl rfl rfl rfl ?_ | (refine J.unguard rfl rfl rfl ?_; refine J.loadO Ty.a3 rfl (by repeat first | exact .head _ | apply List.Mem.tail | apply List.mem_append_right) (by exact rfl) rfl ?_)
              first | refine J.skip rfl rfl rfl rfl rfl ?_ | refine J.skipU rfl rfl rfl rfl ?_ | (refine J.unguard rfl rfl rfl ?_; refine J.fieldAddr Ty.fd33_4 rfl rfl ?_)
              first | refine J.skip rfl rfl rfl rfl rfl ?_ | refine J.skipU rfl rfl rfl rfl ?_ | (refine J.unguard rfl rfl rfl ?_; refine J.loadO Ty.a3 rfl (by repeat first | exact .head _ | apply List.Mem.tail | apply List.mem_append_right) (by exact rfl) rfl ?_)
              first | refine J.skip rfl rfl rfl rfl rfl ?_ | refine J.skipU rfl rfl rfl rfl ?_ | (refine J.unguard rfl rfl rfl ?_; refine J.bin rfl rfl rfl rfl ?_)
              (first | refine J.pickT rfl rfl rfl ?_ | refine J.pickF rfl rfl rfl ?_)
              refine J.assign rfl rfl ?_
              refine J.nil ?_
              refine JX.thenN (hK2 _ _ ?_)
              refine JC.ret ?_
              refine JX.ret1 rfl rfl (fun w hw => ?_)
              refine ⟨?_, hw.below⟩
              first | (simp_all [rightP, okTN]; done) | (simp [rightP, okTN]; omega) | (simp_all [rightP, okTN]; rfl) | (simp_all [rightP, okTN]; intros; omega)
          · skip
            try simp only [decide_eq_true_eq, decide_eq_false_iff_not, beq_iff_eq, bne_iff_ne, bne_eq_false_iff_eq, ne_eq, beq_eq_false_iff_ne, Bool.not_eq_true, Bool.not_eq_false, Int.not_lt, Int.not_le] at hs21
            first
            | exact absurd hs21 (by decide)
            | skip
              first | refine J.skip rfl rfl rfl rfl rfl ?_ | refine J.skipU rfl rfl rfl rfl ?_ | (refine J.unguard rfl rfl rfl ?_; refine J.fieldAddr Ty.fd33_3 rfl rfl ?_)
              first | refine J.skip rfl rfl rfl rfl rfl ?_ | refine J.skipU rfl rfl rfl rfl ?_ | (refine J.unguard rfl rfl rfl ?_; refine J.loadO Ty.a3 rfl (by repeat first | exact .head _ | apply List.Mem.tail | apply List.mem_append_right) (by exact rfl) rfl ?_)
              first | refine J.skip rfl rfl rfl rfl rfl ?_ | refine J.skipU rfl rfl rfl rfl ?_ | (refine J.unguard rfl rfl rfl ?_; refine J.fieldAddr Ty.fd33_4 rfl rfl ?_)
              first | refine J.skip rfl rfl rfl rfl rfl ?_ | refine J.skipU rfl rfl rfl rfl ?_ | (refine J.unguard rfl rfl rfl ?_; refine J.loadO Ty.a3 rfl (by repeat first | exact .head _ | apply List.Mem.tail | apply List.mem_append_right) (by exact rfl) rfl ?_)
              first | refine J.skip rfl rfl rfl rfl rfl ?_ | refine J.skipU rfl rfl rfl rfl ?_ | (refine J.unguard rfl rfl rfl ?_; refine J.bin rfl rfl rfl rfl ?_)
              (first | refine J.pickT rfl rfl rfl ?_ | refine J.pickF rfl rfl rfl ?_)
              refine J.assign rfl rfl ?_
              refine J.nil ?_
              refine JX.thenN (hK2 _ _ ?_)
              refine JC.ret ?_
              refine JX.ret1 rfl rfl (fun w hw => ?_)
              refine ⟨?_, hw.below⟩
              first | (simp_all [rightP, okTN]; done) | (simp [rightP, okTN]; omega) | (simp_all [rightP, okTN]; rfl) | (simp_all [rightP, okTN]; intros; omega)
  · skip
    try simp only [decide_eq_true_eq, decide_eq_false_iff_not, beq_iff_eq, bne_iff_ne, bne_eq_false_iff_eq, ne_eq, beq_eq_false_iff_ne, Bool.not_eq_true, Bool.not_eq_false, Int.not_lt, Int.not_le] at hs9
    first
    | exact absurd hs9 (by decide)
    | skip
      first | refine J.skip rfl rfl rfl rfl rfl ?_ | refine J.skipU rfl rfl rfl rfl ?_ | (refine J.unguard rfl rfl rfl ?_; refine J.move rfl rfl ?_)
      first | refine J.skip rfl rfl rfl rfl rfl ?_ | refine J.skipU rfl rfl rfl rfl ?_ | (refine J.unguard rfl rfl rfl ?_; refine J.fieldAddr Ty.fd33_3 rfl rfl ?_)
      first | refine J.skip rfl rfl rfl rfl rfl ?_ | refine J.skipU rfl rfl rfl rfl ?_ | (refine J.unguard rfl rfl rfl ?_; refine J.loadO Ty.a3 rfl (by repeat first | exact .head _ | apply List.Mem.tail | apply List.mem_append_right) (by exact rfl) rfl ?_)
      first | refine J.skip rfl rfl rfl rfl rfl ?_ | refine J.skipU rfl rfl rfl rfl ?_ | (refine J.unguard rfl rfl rfl ?_; refine J.callVB (v := .bool (decide (okTN x.na))) (fun w1 w2 hw hb => hw.step hb) Ty.bd67 rfl rfl rfl (fun w1 hw => by simpa using right1_spec x.na w1) ?_)
      (first | refine J.pickT rfl rfl rfl ?_ | refine J.pickF rfl rfl rfl ?_)
      refine J.move rfl rfl ?_
      refine J.split 15 rfl (fun hs15 => ?_) (fun hs15 => ?_)
      · skip
        try simp only [decide_eq_true_eq, decide_eq_false_iff_not, beq_iff_eq, bne_iff_ne, bne_eq_false_iff_eq, ne_eq, beq_eq_false_iff_ne, Bool.not_eq_true, Bool.not_eq_false, Int.not_lt, Int.not_le] at hs15
        first
        | exact absurd hs15 (by decide)
        | skip
          first | refine J.skip rfl rfl rfl rfl rfl ?_ | refine J.skipU rfl rfl rfl rfl ?_ | (refine J.unguard rfl rfl rfl ?_; refine J.move rfl rfl ?_)
          first | refine J.skip rfl rfl rfl rfl rfl ?_ | refine J.skipU rfl rfl rfl rfl ?_ | (refine J.unguard rfl rfl rfl ?_; refine J.fieldAddr Ty.fd33_4 rfl rfl ?_)
          first | refine J.skip rfl rfl rfl rfl rfl ?_ | refine J.skipU rfl rfl rfl rfl ?_ | (refine J.unguard rfl rfl rfl ?_; refine J.loadO Ty.a3 rfl (by repeat first | exact .head _ | apply List.Mem.tail | apply List.mem_append_right) (by exact rfl) rfl ?_)
          first | refine J.skip rfl rfl rfl rfl rfl ?_ | refine J.skipU rfl rfl rfl rfl ?_ | (refine J.unguard rfl rfl rfl ?_; refine J.callVB (v := .bool (decide (okTN x.nb))) (fun w1 w2 hw hb => hw.step hb) Ty.bd67 rfl rfl rfl (fun w1 hw => by simpa using right1_spec x.nb w1) ?_)
          (first | refine J.pickT rfl rfl rfl ?_ | refine J.pickF rfl rfl rfl ?_)
          refine J.move rfl rfl ?_
          refine J.split 21 rfl (fun hs21 => ?_) (fun hs21 => ?_)
          · skip
            try simp only [decide_eq_true_eq, decide_eq_false_iff_not, beq_iff_eq, bne_iff_ne, bne_eq_false_iff_eq, ne_eq, beq_eq_false_iff_ne, Bool.not_eq_true, Bool.not_eq_false, Int.not_lt, Int.not_le] at hs21
            first
            | exact absurd hs21 (by decide)
            | skip
              first | refine J.skip rfl rfl rfl rfl rfl ?_ | refine J.skipU rfl rfl rfl rfl ?_ | (refine J.unguard rfl rfl rfl ?_; refine J.fieldAddr Ty.fd33_3 rfl rfl ?_)
              first | refine J.skip rfl rfl rfl rfl rfl ?_ | refine J.skipU rfl rfl rfl rfl ?_ | (refine J.unguard rfl rfl rfl ?_; refine J.loadO Ty.a3 rfl (by repeat first | exact .head _ | apply List.Mem.tail | apply List.mem_append_right) (by exact rfl) rfl ?_)
              first | refine J.skip rfl rfl rfl rfl rfl ?_ | refine J.skipU rfl rfl rfl rfl ?_ | (refine J.unguard rfl rfl rfl ?_; refine J.fieldAddr Ty.fd33_4 rfl rfl ?_)
              first | refine J.skip rfl rfl rfl rfl rfl ?_ | refine J.skipU rfl rfl rfl rfl ?_ | (refine J.unguard rfl rfl rfl ?_; refine J.loadO Ty.a3 rfl (by repeat first | exact .head _ | apply List.Mem.tail | apply List.mem_append_right) (by exact rfl) rfl ?_)
              first | refine J.skip rfl rfl rfl rfl rfl ?_ | refine J.skipU rfl rfl rfl rfl ?_ | (refine J.unguard rfl rfl rfl ?_; refine J.bin rfl rfl rfl rfl ?_)
              (first | refine J.pickT rfl rfl rfl ?_ | refine J.pickF rfl rfl rfl ?_)
              refine J.assign rfl rfl ?_
              refine J.nil ?_
              refine JX.thenN (hK2 _ _ ?_)
              refine JC.ret ?_
              refine JX.ret1 rfl rfl (fun w hw => ?_)
              refine ⟨?_, hw.below⟩
              first | (simp_all [rightP, okTN]; done) | (simp [rightP, okTN]; omega) | (simp_all [rightP, okTN]; rfl) | (simp_all [rightP, okTN]; intros; omega)
          · skip
            try simp only [decide_eq_true_eq, decide_eq_false_iff_not, beq_iff_eq, bne_iff_ne, bne_eq_false_iff_eq, ne_eq, beq_eq_false_iff_ne, Bool.not_eq_true, Bool.not_eq_false, Int.not_lt, Int.not_le] at hs21
            first
            | exact absurd hs21 (by decide)
            | skip
              first | refine J.skip rfl rfl rfl rfl rfl ?_ | refine J.skipU rfl rfl rfl rfl ?_ | (refine J.unguard rfl rfl rfl ?_; refine J.fieldAddr Ty.fd33_3 rfl rfl ?_)
              first | refine J.skip rfl rfl rfl rfl rfl ?_ | refine J.skipU rfl rfl rfl rfl ?_ | (refine J.unguard rfl rfl rfl ?_; refine J.loadO Ty.a3 rfl (by repeat first | exact .head _ | apply List.Mem.tail | apply List.mem_append_right) (by exact rfl) rfl ?_)
              first | refine J.skip rfl rfl rfl rfl rfl ?_ | refine J.skipU rfl rfl rfl rfl ?_ | (refine J.unguard rfl rfl rfl ?_; refine J.fieldAddr Ty.fd33_4 rfl rfl ?_)
              first | refine J.skip rfl rfl rfl rfl rfl ?_ | refine J.skipU rfl rfl rfl rfl ?_ | (refine J.unguard rfl rfl rfl ?_; refine J.loadO Ty.a3 rfl (by repeat first | exact .head _ | apply List.Mem.tail | apply List.mem_append_right) (by exact rfl) rfl ?_)
              first | refine J.skip rfl rfl rfl rfl rfl ?_ | refine J.skipU rfl rfl rfl rfl ?_ | (refine J.unguard rfl rfl rfl ?_; refine J.bin rfl rfl rfl rfl ?_)
              (first | refine J.pickT rfl rfl rfl ?_ | refine J.pickF rfl rfl rfl ?_)
              refine J.assign rfl rfl ?_
              refine J.nil ?_
              refine JX.thenN (hK2 _ _ ?_)
              refine JC.ret ?_
              refine JX.ret1 rfl rfl (fun w hw => ?_)
              refine ⟨?_, hw.below⟩
              first | (simp_all [rightP, okTN]; done) | (simp [rightP, okTN]; omega) | (simp_all [rightP, okTN]; rfl) | (simp_all [rightP, okTN]; intros; omega)
      · skip
        try simp only [decide_eq_true_eq, decide_eq_false_iff_not, beq_iff_eq, bne_iff_ne, bne_eq_false_iff_eq, ne_eq, beq_eq_false_iff_ne, Bool.not_eq_true, Bool.not_eq_false, Int.not_lt, Int.not_le] at hs15
        first
        | exact absurd hs15 (by decide)
        | skip
          first | refine J.skip rfl rfl rfl rfl rfl ?_ | refine J.skipU rfl rfl rfl rfl ?_ | (refine J.unguard rfl rfl rfl ?_; refine J.move rfl rfl ?_)
          first | refine J.skip rfl rfl rfl rfl rfl ?_ | refine J.skipU rfl rfl rfl rfl ?_ | (refine J.unguard rfl rfl rfl ?_; refine J.fieldAddr Ty.fd33_4 rfl rfl ?_)
          first | refine J.skip rfl rfl rfl rfl rfl ?_ | refine J.skipU rfl rfl rfl rfl ?_ | (refine J.unguard rfl rfl rfl ?_; refine J.loadO Ty.a3 rfl (by repeat first | exact .head _ | apply List.Mem.tail | apply List.mem_append_right) (by exact rfl) rfl ?_)
          first | refine J.skip rfl rfl rfl rfl rfl ?_ | refine J.skipU rfl rfl rfl rfl ?_ | (refine J.unguard rfl rfl rfl ?_; refine J.callVB (v := .bool (decide (okTN x.nb))) (fun w1 w2 hw hb => hw.step hb) Ty.bd67 rfl rfl rfl (fun w1 hw => by simpa using right1_spec x.nb w1) ?_)
          (first | refine J.pickT rfl rfl rfl ?_ | refine J.pickF rfl rfl rfl ?_)
          refine J.move rfl rfl ?_
          refine J.split 21 rfl (fun hs21 => ?_) (fun hs21 => ?_)
          · skip
            try simp only [decide_eq_true_eq, decide_eq_false_iff_not, beq_iff_eq, bne_iff_ne, bne_eq_false_iff_eq, ne_eq, beq_eq_false_iff_ne, Bool.not_eq_true, Bool.not_eq_false, Int.not_lt, Int.not_le] at hs21
            first
            | exact absurd hs21 (by decide)
            | skip
              first | refine J.skip rfl rfl rfl rfl rfl ?_ | refine J.skipU rfl rfl rfl rfl ?_ | (refine J.unguard rfl rfl rfl ?_; refine J.fieldAddr Ty.fd33_3 rfl rfl ?_)
              first | refine J.skip rfl rfl rfl rfl rfl ?_ | refine J.skipU rfl rfl rfl rfl ?_ | (refine J.unguard rfl rfl rfl ?_; refine J.loadO Ty.a3 rfl (by repeat first | exact .head _ | apply List.Mem.tail | apply List.mem_append_right) (by exact rfl) rfl ?_)
              first | refine J.skip rfl rfl rfl rfl rfl ?_ | refine J.skipU rfl rfl rfl rfl ?_ | (refine J.unguard rfl rfl rfl ?_; refine J.fieldAddr Ty.fd33_4 rfl rfl ?_)
              first | refine J.skip rfl rfl rfl rfl rfl ?_ | refine J.skipU rfl rfl rfl rfl ?_ | (refine J.unguard rfl rfl rfl ?_; refine J.loadO Ty.a3 rfl (by repeat first | exact .head _ | apply List.Mem.tail | apply List.mem_append_right) (by exact rfl) rfl ?_)
              first | refine J.skip rfl rfl rfl rfl rfl ?_ | refine J.skipU rfl rfl rfl rfl ?_ | (refine J.unguard rfl rfl rfl ?_; refine J.bin rfl rfl rfl rfl ?_)
              (first | refine J.pickT rfl rfl rfl ?_ | refine J.pickF rfl rfl rfl ?_)
              refine J.assign rfl rfl ?_
              refine J.nil ?_
              refine JX.thenN (hK2 _ _ ?_)
              refine JC.ret ?_
              refine JX.ret1 rfl rfl (fun w hw => ?_)
              refine ⟨?_, hw.below⟩
              first | (simp_all [rightP, okTN]; done) | (simp [rightP, okTN]; omega) | (simp_all [rightP, okTN]; rfl) | (simp_all [rightP, okTN]; intros; omega)
          · skip
            try simp only [decide_eq_true_eq, decide_eq_false_iff_not, beq_iff_eq, bne_iff_ne, bne_eq_false_iff_eq, ne_eq, beq_eq_false_iff_ne, Bool.not_eq_true, Bool.not_eq_false, Int.not_lt, Int.not_le] at hs21
            first
            | exact absurd hs21 (by decide)
            | skip
              first | refine J.skip rfl rfl rfl rfl rfl ?_ | refine J.skipU rfl rfl rfl rfl ?_ | (refine J.unguard rfl rfl rfl ?_; refine J.fieldAddr Ty.fd33_3 rfl rfl ?_)
              first | refine J.skip rfl rfl rfl rfl rfl ?_ | refine J.skipU rfl rfl rfl rfl ?_ | (refine J.unguard rfl rfl rfl ?_; refine J.loadO Ty.a3 rfl (by repeat first | exact .head _ | apply List.Mem.tail | apply List.mem_append_right) (by exact rfl) rfl ?_)
              first | refine J.skip rfl rfl rfl rfl rfl ?_ | refine J.skipU rfl rfl rfl rfl ?_ | (refine J.unguard rfl rfl rfl ?_; refine J.fieldAddr Ty.fd33_4 rfl rfl ?_)
              first | refine J.skip rfl rfl rfl rfl rfl ?_ | refine J.skipU rfl rfl rfl rfl ?_ | (refine J.unguard rfl rfl rfl ?_; refine J.loadO Ty.a3 rfl (by repeat first | exact .head _ | apply List.Mem.tail | apply List.mem_append_right) (by exact rfl) rfl ?_)
              first | refine J.skip rfl rfl rfl rfl rfl ?_ | refine J.skipU rfl rfl rfl rfl ?_ | (refine J.unguard rfl rfl rfl ?_; refine J.bin rfl rfl rfl rfl ?_)
              (first | refine J.pickT rfl rfl rfl ?_ | refine J.pickF rfl rfl rfl ?_)
              refine J.assign rfl rfl ?_
              refine J.nil ?_
              refine JX.thenN (hK2 _ _ ?_)
              refine JC.ret ?_
              refine JX.ret1 rfl rfl (fun w hw => ?_)
              refine ⟨?_, hw.below⟩
              first | (simp_all [rightP, okTN]; done) | (simp [rightP, okTN]; omega) | (simp_all [rightP, okTN]; rfl) | (simp_all [rightP, okTN]; intros; omega)

theorem has_spec (t mb : Nat) (most : Int) (L : List EV) (es : Array MapEntry) (clock : Nat) (w : World) (hw0 : Own w ([(t, tabO most mb), (mb, .map es clock)])) (hT : Tab L es clock) (p : PV) (hp : okN p.n) :
    Calls Tryz.prog 47 [.pointer (some ⟨t, 0, none⟩), .agg (cP p).toArray].toArray w fun r w' => r = .returned (.bool (tget L p).isSome) ∧ Bel w w' := by
  obtain ⟨xe, hxe⟩ : ∃ xe, (tget L p).getD zE = xe := ⟨_, rfl⟩
  obtain ⟨ok, hok⟩ : ∃ ok, (tget L p).isSome = ok := ⟨_, rfl⟩
  rw [hok]
  refine calls_of_J (args := [.pointer (some ⟨t, 0, none⟩), .agg (cP p).toArray]) (e := [(0, .pointer (some ⟨t, 0, none⟩)), (1, .agg (cP p).toArray)]) Tryz.func47 rfl rfl ⟨rfl, rfl, trivial⟩ (hw0.st) ?_
  refine JC.seq (fun K0 hK0 => ?_)
  refine JC.region ?_
  refine J.box rfl rfl rfl (fun b3 => ?_)
  refine J.assign rfl rfl ?_
  refine J.nil ?_
  refine JX.thenN (hK0 _ _ ?_)
  refine JC.seq (fun K1 hK1 => ?_)
  apply JC.drawX (α := Nat × Unit) 11 (fun x => match x with | ⟨x9, uu⟩ => [.pointer (some ⟨t, 0, none⟩), .pointer (some ⟨t, 0, none⟩), .pointer (some ⟨t, 0 + 1, none⟩), .map (some mb), .agg (cP p).toArray, .tuple #[.agg (cE xe).toArray, .bool ok], .tuple #[.agg (cE xe).toArray, .bool ok], .agg (cE xe).toArray, .bool ok, .pointer (some ⟨x9, 0, none⟩), undef]) (fun m x => match x with | ⟨x9, uu⟩ => fun w1 => (m 10 = true → m 9 = true) ∧ St w [t, mb] ((b3, cb (cP p) 31) :: (t, tabO most mb) :: (mb, .map es clock) :: (bif m 9 then [(x9, cb (bif m 10 then cE xe else cE zE) 33)] else [])) w1) Ty.mixed rfl rfl rfl (by kernel_rfl) rfl rfl ?hinit ?hstep ?htail
  case hinit => exact fun w1 hw => ⟨(0, ()), fun h => h, hw.drew⟩
  case hstep =>
    refine ⟨fun m x hm hp => ?_, fun m x hm hp => ?_, fun m x hm hp => ?_, fun m x hm hp => ?_, fun m x hm hp => ?_, fun m x hm hp => ?_, fun m x hm hp => ?_, fun m x hm hp => ?_, fun m x hm hp => ?_, fun m x hm hp => ?_, fun m x hm hp => ?_, trivial⟩
    · skip
      obtain ⟨x9, uu⟩ := x
      show J _ _ _ _ _ (_) _
      refine J.pr (fun hF => ?_)
      refine J.move rfl rfl ?_
      exact J.finX rfl (fun _ hw => ⟨⟨x9, uu⟩, rfl, fun _ _ _ => rfl, hF, hw⟩)
    · skip
      obtain ⟨x9, uu⟩ := x
      show J _ _ _ _ _ ((8, .pointer (some ⟨t, 0, none⟩)) :: _) _
      refine J.pr (fun hF => ?_)
      refine J.nilCheck rfl rfl ?_
      exact J.finX rfl (fun _ hw => ⟨⟨x9, uu⟩, rfl, fun _ _ _ => rfl, hF, hw⟩)
    · skip
      obtain ⟨x9, uu⟩ := x
      show J _ _ _ _ _ ((9, .pointer (some ⟨t, 0, none⟩)) :: _) _
      refine J.pr (fun hF => ?_)
      refine J.fieldAddr Ty.fd92_1 rfl rfl ?_
      exact J.finX rfl (fun _ hw => ⟨⟨x9, uu⟩, rfl, fun _ _ _ => rfl, hF, hw⟩)
    · skip
      obtain ⟨x9, uu⟩ := x
      show J _ _ _ _ _ ((10, .pointer (some ⟨t, 0 + 1, none⟩)) :: _) _
      refine J.pr (fun hF => ?_)
      refine J.loadO Ty.a90 rfl (by repeat first | exact .head _ | apply List.Mem.tail | apply List.mem_append_right) (by exact rfl) rfl ?_
      exact J.finX rfl (fun _ hw => ⟨⟨x9, uu⟩, rfl, fun _ _ _ => rfl, hF, hw⟩)
    · skip
      obtain ⟨x9, uu⟩ := x
      show J _ _ _ _ _ (_) _
      refine J.pr (fun hF => ?_)
      refine J.loadOA (vs := cP p) Ty.a31 Ty.s31 rfl (by repeat first | exact .head _ | apply List.Mem.tail | apply List.mem_append_right) (by exact rfl) rfl rfl ?_
      exact J.finX rfl (fun _ hw => ⟨⟨x9, uu⟩, rfl, fun _ _ _ => rfl, hF, hw⟩)
    · skip
      obtain ⟨x9, uu⟩ := x
      show J _ _ _ _ _ ((12, .agg (cP p).toArray) :: (11, .map (some mb)) :: _) _
      refine J.pr (fun hF => ?_)
      refine J.lookupT Ty.u90 Ty.KP Ty.keyP Ty.zE_ rfl rfl (by assumption) (by assumption) (by assumption) (by assumption) (fun w hw => hw.own (_, _) (by repeat first | exact .head _ | apply List.Mem.tail | apply List.mem_append_right)) rfl ?_
      exact J.finX rfl (fun _ hw => ⟨⟨x9, uu⟩, rfl, fun _ _ _ => rfl, hF, hw⟩)
    · skip
      obtain ⟨x9, uu⟩ := x
      show J _ _ _ _ _ ((13, .tuple #[.agg (cE xe).toArray, .bool ok]) :: _) _
      refine J.pr (fun hF => ?_)
      refine J.move rfl rfl ?_
      exact J.finX rfl (fun _ hw => ⟨⟨x9, uu⟩, rfl, fun _ _ _ => rfl, hF, hw⟩)
    · skip
      obtain ⟨x9, uu⟩ := x
      show J _ _ _ _ _ ((7, .tuple #[.agg (cE xe).toArray, .bool ok]) :: _) _
      refine J.pr (fun hF => ?_)
      refine J.extract rfl rfl rfl ?_
      exact J.finX rfl (fun _ hw => ⟨⟨x9, uu⟩, rfl, fun _ _ _ => rfl, hF, hw⟩)
    · skip
      obtain ⟨x9, uu⟩ := x
      show J _ _ _ _ _ ((7, .tuple #[.agg (cE xe).toArray, .bool ok]) :: _) _
      refine J.pr (fun hF => ?_)
      refine J.extract rfl rfl rfl ?_
      exact J.finX rfl (fun _ hw => ⟨⟨x9, uu⟩, rfl, fun _ _ _ => rfl, hF, hw⟩)
    · skip
      obtain ⟨x9, uu⟩ := x
      show J _ _ _ _ _ (_) _
      refine J.pr (fun hF => ?_)
      have h10 : m 10 = false := by cases h : m 10 with
        | false => rfl
        | true => rw [hF h] at hm; cases hm
      refine J.alloc Ty.z33 rfl rfl (fun b5 => ?_)
      refine J.nil (JX.finB rfl (fun w1 hw => ⟨⟨⟨b5, uu⟩, rfl, fun j h1 h2 => ?_, ?_⟩, trivial⟩))
      · match j, h1 with
        | 0, _ => (first | rfl | trivial)
        | 1, _ => (first | rfl | trivial)
        | 2, _ => (first | rfl | trivial)
        | 3, _ => (first | rfl | trivial)
        | 4, _ => (first | rfl | trivial)
        | 5, _ => (first | rfl | trivial)
        | 6, _ => (first | rfl | trivial)
        | 7, _ => (first | rfl | trivial)
        | 8, _ => (first | rfl | trivial)
        | 9, _ => exact absurd (h2.symm.trans hm) (by decide)
        | 10, _ => (first | rfl | trivial)
        | j + 11, h1 => omega
      show (m 10 = true → true = true) ∧ St w [t, mb] ((b3, cb (cP p) 31) :: (t, tabO most mb) :: (mb, .map es clock) :: (bif true then [(b5, cb (bif m 10 then cE xe else cE zE) 33)] else [])) w1
      simp only [hm, h10, cond_true, cond_false] at hw ⊢
      exact ⟨fun _ => trivial, hw.perm (by (refine perm_cnt (fun _ => ?_)); simp only [cntB_append, cntB_cons, cntB_nil, Nat.add_zero, Nat.zero_add]; try ac_rfl)⟩
    · skip
      obtain ⟨x9, uu⟩ := x
      show J _ _ _ _ _ ((5, .pointer (some ⟨x9, 0, none⟩)) :: (14, .agg (cE xe).toArray) :: (7, .tuple #[.agg (cE xe).toArray, .bool ok]) :: (13, .tuple #[.agg (cE xe).toArray, .bool ok]) :: (12, .agg (cP p).toArray) :: (11, .map (some mb)) :: (10, .pointer (some ⟨t, 0 + 1, none⟩)) :: (9, .pointer (some ⟨t, 0, none⟩)) :: (8, .pointer (some ⟨t, 0, none⟩)) :: (14, .agg (cE xe).toArray) :: (5, .pointer (some ⟨x9, 0, none⟩)) :: _) _
      have hp9 : m 9 = true := predsT hp (by kernel_rfl)
      have hp9 : m 9 = true := predsT hp (by kernel_rfl)
      refine J.pr (fun hF => ?_)
      refine J.conseq (I' := St w [t, mb] ((x9, cb (cE zE) 33) :: ((b3, cb (cP p) 31) :: (t, tabO most mb) :: (mb, .map es clock) :: []))) ?_ (fun w1 hw => by simp only [hm, hp9, cond_true, cond_false] at hw; exact hw.perm (by (refine perm_cnt (fun _ => ?_)); simp only [cntB_append, cntB_cons, cntB_nil, Nat.add_zero, Nat.zero_add]; try ac_rfl))
      refine J.storeW (cs := cE zE) (vs := cE xe) Ty.s33 rfl rfl rfl rfl rfl (by simp [Value.oneCell']) .here ?_
      refine J.nil (JX.finN undef (fun w1 hw => ⟨⟨x9, uu⟩, rfl, fun j h1 h2 => ?_, ?_⟩))
      · match j, h1 with
        | 0, _ => (first | rfl | trivial)
        | 1, _ => (first | rfl | trivial)
        | 2, _ => (first | rfl | trivial)
        | 3, _ => (first | rfl | trivial)
        | 4, _ => (first | rfl | trivial)
        | 5, _ => (first | rfl | trivial)
        | 6, _ => (first | rfl | trivial)
        | 7, _ => (first | rfl | trivial)
        | 8, _ => (first | rfl | trivial)
        | 9, _ => (first | rfl | trivial)
        | 10, _ => (first | rfl | trivial)
        | j + 11, h1 => omega
      show (true = true → m 9 = true) ∧ St w [t, mb] ((b3, cb (cP p) 31) :: (t, tabO most mb) :: (mb, .map es clock) :: (bif m 9 then [(x9, cb (bif true then cE xe else cE zE) 33)] else [])) w1
      exact ⟨fun _ => hp9, by simp only [hp9, cond_true]; exact hw.perm (by (refine perm_cnt (fun _ => ?_)); simp only [cntB_append, cntB_cons, cntB_nil, Nat.add_zero, Nat.zero_add]; try ac_rfl)⟩
  case htail =>
    intro x
    obtain ⟨x9, uu⟩ := x
    show J _ _ _ _ _ ((5, .pointer (some ⟨x9, 0, none⟩)) :: (15, .bool ok) :: (14, .agg (cE xe).toArray) :: (7, .tuple #[.agg (cE xe).toArray, .bool ok]) :: (13, .tuple #[.agg (cE xe).toArray, .bool ok]) :: (12, .agg (cP p).toArray) :: (11, .map (some mb)) :: (10, .pointer (some ⟨t, 0 + 1, none⟩)) :: (9, .pointer (some ⟨t, 0, none⟩)) :: (8, .pointer (some ⟨t, 0, none⟩)) :: _) (fun w1 => (true = true → true = true) ∧ St w [t, mb] ((b3, cb (cP p) 31) :: (t, tabO most mb) :: (mb, .map es clock) :: (bif true then [(x9, cb (bif true then cE xe else cE zE) 33)] else [])) w1)
    refine J.pr (fun hF => ?_)
    refine J.assign rfl rfl ?_
    refine J.nil ?_
    refine JX.thenN (hK1 _ _ ?_)
    refine JC.seq (fun K2 hK2 => ?_)
    refine JC.region ?_
    refine J.move rfl rfl ?_
    refine J.assign rfl rfl ?_
    refine J.nil ?_
    refine JX.thenN (hK2 _ _ ?_)
    refine JC.ret ?_
    refine JX.ret1 rfl rfl (fun w hw => ?_)
    exact ⟨rfl, hw.same hw0 (fun p hp => by simp at hp ⊢; rcases hp with rfl | rfl <;> simp)⟩

theorem get_spec (t mb : Nat) (most : Int) (L : List EV) (es : Array MapEntry) (clock : Nat) (w : World) (hw0 : Own w ([(t, tabO most mb), (mb, .map es clock)])) (hT : Tab L es clock) (p : PV) (hp : okN p.n) :
    Calls Tryz.prog 40 [.pointer (some ⟨t, 0, none⟩), .agg (cP p).toArray].toArray w fun r w' => r = .returned (.tuple #[.agg (cE ((tget L p).getD zE)).toArray, .bool (tget L p).isSome]) ∧ Bel w w' := by
  obtain ⟨xe, hxe⟩ : ∃ xe, (tget L p).getD zE = xe := ⟨_, rfl⟩
  obtain ⟨ok, hok⟩ : ∃ ok, (tget L p).isSome = ok := ⟨_, rfl⟩
  rw [hok, hxe]
  refine calls_of_J (args := [.pointer (some ⟨t, 0, none⟩), .agg (cP p).toArray]) (e := [(0, .pointer (some ⟨t, 0, none⟩)), (1, .agg (cP p).toArray)]) Tryz.func40 rfl rfl ⟨rfl, rfl, trivial⟩ (hw0.st) ?_
  refine JC.seq (fun K0 hK0 => ?_)
  refine JC.region ?_
  refine J.box rfl rfl rfl (fun b3 => ?_)
  refine J.alloc Ty.z33 rfl rfl (fun b4 => ?_)
  refine J.assign rfl rfl ?_
  refine J.nil ?_
  refine JX.thenN (hK0 _ _ ?_)
  refine JC.seq (fun K1 hK1 => ?_)
  refine JC.seq (fun K2 hK2 => ?_)
  refine JC.region ?_
  refine J.move rfl rfl ?_
  refine J.eqNil Ty.u26 rfl rfl rfl ?_
  refine J.nil ?_
  refine JX.thenN (hK2 _ _ ?_)
  first | refine JC.condF rfl ?_ | refine JC.cond rfl (fun h => by first | (exfalso; simp at h; omega) | (simp at h)) (fun _ => ?_)
  refine JC.skip ?_
  refine JX.thenN (hK1 _ _ ?_)
  refine JC.seq (fun K3 hK3 => ?_)
  apply JC.drawX (α := Nat × Unit) 11 (fun x => match x with | ⟨x9, uu⟩ => [.pointer (some ⟨t, 0, none⟩), .pointer (some ⟨t, 0, none⟩), .pointer (some ⟨t, 0 + 1, none⟩), .map (some mb), .agg (cP p).toArray, .tuple #[.agg (cE xe).toArray, .bool ok], .tuple #[.agg (cE xe).toArray, .bool ok], .agg (cE xe).toArray, .bool ok, .pointer (some ⟨x9, 0, none⟩), undef]) (fun m x => match x with | ⟨x9, uu⟩ => fun w1 => (m 10 = true → m 9 = true) ∧ St w [t, mb] ((b4, cb (cE zE) 33) :: (b3, cb (cP p) 31) :: (t, tabO most mb) :: (mb, .map es clock) :: (bif m 9 then [(x9, cb (bif m 10 then cE xe else cE zE) 33)] else [])) w1) Ty.mixed rfl rfl rfl (by kernel_rfl) rfl rfl ?hinit ?hstep ?htail
  case hinit => exact fun w1 hw => ⟨(0, ()), fun h => h, hw.drew⟩
  case hstep =>
    refine ⟨fun m x hm hp => ?_, fun m x hm hp => ?_, fun m x hm hp => ?_, fun m x hm hp => ?_, fun m x hm hp => ?_, fun m x hm hp => ?_, fun m x hm hp => ?_, fun m x hm hp => ?_, fun m x hm hp => ?_, fun m x hm hp => ?_, fun m x hm hp => ?_, trivial⟩
    · skip
      obtain ⟨x9, uu⟩ := x
      show J _ _ _ _ _ (_) _
      refine J.pr (fun hF => ?_)
      refine J.move rfl rfl ?_
      exact J.finX rfl (fun _ hw => ⟨⟨x9, uu⟩, rfl, fun _ _ _ => rfl, hF, hw⟩)
    · skip
      obtain ⟨x9, uu⟩ := x
      show J _ _ _ _ _ ((12, .pointer (some ⟨t, 0, none⟩)) :: _) _
      refine J.pr (fun hF => ?_)
      refine J.nilCheck rfl rfl ?_
      exact J.finX rfl (fun _ hw => ⟨⟨x9, uu⟩, rfl, fun _ _ _ => rfl, hF, hw⟩)
    · skip
      obtain ⟨x9, uu⟩ := x
      show J _ _ _ _ _ ((13, .pointer (some ⟨t, 0, none⟩)) :: _) _
      refine J.pr (fun hF => ?_)
      refine J.fieldAddr Ty.fd92_1 rfl rfl ?_
      exact J.finX rfl (fun _ hw => ⟨⟨x9, uu⟩, rfl, fun _ _ _ => rfl, hF, hw⟩)
    · skip
      obtain ⟨x9, uu⟩ := x
      show J _ _ _ _ _ ((14, .pointer (some ⟨t, 0 + 1, none⟩)) :: _) _
      refine J.pr (fun hF => ?_)
      refine J.loadO Ty.a90 rfl (by repeat first | exact .head _ | apply List.Mem.tail | apply List.mem_append_right) (by exact rfl) rfl ?_
      exact J.finX rfl (fun _ hw => ⟨⟨x9, uu⟩, rfl, fun _ _ _ => rfl, hF, hw⟩)
    · skip
      obtain ⟨x9, uu⟩ := x
      show J _ _ _ _ _ (_) _
      refine J.pr (fun hF => ?_)
      refine J.loadOA (vs := cP p) Ty.a31 Ty.s31 rfl (by repeat first | exact .head _ | apply List.Mem.tail | apply List.mem_append_right) (by exact rfl) rfl rfl ?_
      exact J.finX rfl (fun _ hw => ⟨⟨x9, uu⟩, rfl, fun _ _ _ => rfl, hF, hw⟩)
    · skip
      obtain ⟨x9, uu⟩ := x
      show J _ _ _ _ _ ((16, .agg (cP p).toArray) :: (15, .map (some mb)) :: _) _
      refine J.pr (fun hF => ?_)
      refine J.lookupT Ty.u90 Ty.KP Ty.keyP Ty.zE_ rfl rfl (by assumption) (by assumption) (by assumption) (by assumption) (fun w hw => hw.own (_, _) (by repeat first | exact .head _ | apply List.Mem.tail | apply List.mem_append_right)) rfl ?_
      exact J.finX rfl (fun _ hw => ⟨⟨x9, uu⟩, rfl, fun _ _ _ => rfl, hF, hw⟩)
    · skip
      obtain ⟨x9, uu⟩ := x
      show J _ _ _ _ _ ((17, .tuple #[.agg (cE xe).toArray, .bool ok]) :: _) _
      refine J.pr (fun hF => ?_)
      refine J.move rfl rfl ?_
      exact J.finX rfl (fun _ hw => ⟨⟨x9, uu⟩, rfl, fun _ _ _ => rfl, hF, hw⟩)
    · skip
      obtain ⟨x9, uu⟩ := x
      show J _ _ _ _ _ ((11, .tuple #[.agg (cE xe).toArray, .bool ok]) :: _) _
      refine J.pr (fun hF => ?_)
      refine J.extract rfl rfl rfl ?_
      exact J.finX rfl (fun _ hw => ⟨⟨x9, uu⟩, rfl, fun _ _ _ => rfl, hF, hw⟩)
    · skip
      obtain ⟨x9, uu⟩ := x
      show J _ _ _ _ _ ((11, .tuple #[.agg (cE xe).toArray, .bool ok]) :: _) _
      refine J.pr (fun hF => ?_)
      refine J.extract rfl rfl rfl ?_
      exact J.finX rfl (fun _ hw => ⟨⟨x9, uu⟩, rfl, fun _ _ _ => rfl, hF, hw⟩)
    · skip
      obtain ⟨x9, uu⟩ := x
      show J _ _ _ _ _ (_) _
      refine J.pr (fun hF => ?_)
      have h10 : m 10 = false := by cases h : m 10 with
        | false => rfl
        | true => rw [hF h] at hm; cases hm
      refine J.alloc Ty.z33 rfl rfl (fun b6 => ?_)
      refine J.nil (JX.finB rfl (fun w1 hw => ⟨⟨⟨b6, uu⟩, rfl, fun j h1 h2 => ?_, ?_⟩, trivial⟩))
      · match j, h1 with
        | 0, _ => (first | rfl | trivial)
        | 1, _ => (first | rfl | trivial)
        | 2, _ => (first | rfl | trivial)
        | 3, _ => (first | rfl | trivial)
        | 4, _ => (first | rfl | trivial)
        | 5, _ => (first | rfl | trivial)
        | 6, _ => (first | rfl | trivial)
        | 7, _ => (first | rfl | trivial)
        | 8, _ => (first | rfl | trivial)
        | 9, _ => exact absurd (h2.symm.trans hm) (by decide)
        | 10, _ => (first | rfl | trivial)
        | j + 11, h1 => omega
      show (m 10 = true → true = true) ∧ St w [t, mb] ((b4, cb (cE zE) 33) :: (b3, cb (cP p) 31) :: (t, tabO most mb) :: (mb, .map es clock) :: (bif true then [(b6, cb (bif m 10 then cE xe else cE zE) 33)] else [])) w1
      simp only [hm, h10, cond_true, cond_false] at hw ⊢
      exact ⟨fun _ => trivial, hw.perm (by (refine perm_cnt (fun _ => ?_)); simp only [cntB_append, cntB_cons, cntB_nil, Nat.add_zero, Nat.zero_add]; try ac_rfl)⟩
    · skip
      obtain ⟨x9, uu⟩ := x
      show J _ _ _ _ _ ((6, .pointer (some ⟨x9, 0, none⟩)) :: (18, .agg (cE xe).toArray) :: (11, .tuple #[.agg (cE xe).toArray, .bool ok]) :: (17, .tuple #[.agg (cE xe).toArray, .bool ok]) :: (16, .agg (cP p).toArray) :: (15, .map (some mb)) :: (14, .pointer (some ⟨t, 0 + 1, none⟩)) :: (13, .pointer (some ⟨t, 0, none⟩)) :: (12, .pointer (some ⟨t, 0, none⟩)) :: (18, .agg (cE xe).toArray) :: (6, .pointer (some ⟨x9, 0, none⟩)) :: _) _
      have hp9 : m 9 = true := predsT hp (by kernel_rfl)
      have hp9 : m 9 = true := predsT hp (by kernel_rfl)
      refine J.pr (fun hF => ?_)
      refine J.conseq (I' := St w [t, mb] ((x9, cb (cE zE) 33) :: (b4, cb (cE zE) 33) :: ((b3, cb (cP p) 31) :: (t, tabO most mb) :: (mb, .map es clock) :: []))) ?_ (fun w1 hw => by simp only [hm, hp9, cond_true, cond_false] at hw; exact hw.perm (by (refine perm_cnt (fun _ => ?_)); simp only [cntB_append, cntB_cons, cntB_nil, Nat.add_zero, Nat.zero_add]; try ac_rfl))
      refine J.storeW (cs := cE zE) (vs := cE xe) Ty.s33 rfl rfl rfl rfl rfl (by simp [Value.oneCell']) .here ?_
      refine J.nil (JX.finN undef (fun w1 hw => ⟨⟨x9, uu⟩, rfl, fun j h1 h2 => ?_, ?_⟩))
      · match j, h1 with
        | 0, _ => (first | rfl | trivial)
        | 1, _ => (first | rfl | trivial)
        | 2, _ => (first | rfl | trivial)
        | 3, _ => (first | rfl | trivial)
        | 4, _ => (first | rfl | trivial)
        | 5, _ => (first | rfl | trivial)
        | 6, _ => (first | rfl | trivial)
        | 7, _ => (first | rfl | trivial)
        | 8, _ => (first | rfl | trivial)
        | 9, _ => (first | rfl | trivial)
        | 10, _ => (first | rfl | trivial)
        | j + 11, h1 => omega
      show (true = true → m 9 = true) ∧ St w [t, mb] ((b4, cb (cE zE) 33) :: (b3, cb (cP p) 31) :: (t, tabO most mb) :: (mb, .map es clock) :: (bif m 9 then [(x9, cb (bif true then cE xe else cE zE) 33)] else [])) w1
      exact ⟨fun _ => hp9, by simp only [hp9, cond_true]; exact hw.perm (by (refine perm_cnt (fun _ => ?_)); simp only [cntB_append, cntB_cons, cntB_nil, Nat.add_zero, Nat.zero_add]; try ac_rfl)⟩
  case htail =>
    intro x
    obtain ⟨x9, uu⟩ := x
    show J _ _ _ _ _ ((6, .pointer (some ⟨x9, 0, none⟩)) :: (19, .bool ok) :: (18, .agg (cE xe).toArray) :: (11, .tuple #[.agg (cE xe).toArray, .bool ok]) :: (17, .tuple #[.agg (cE xe).toArray, .bool ok]) :: (16, .agg (cP p).toArray) :: (15, .map (some mb)) :: (14, .pointer (some ⟨t, 0 + 1, none⟩)) :: (13, .pointer (some ⟨t, 0, none⟩)) :: (12, .pointer (some ⟨t, 0, none⟩)) :: _) (fun w1 => (true = true → true = true) ∧ St w [t, mb] ((b4, cb (cE zE) 33) :: (b3, cb (cP p) 31) :: (t, tabO most mb) :: (mb, .map es clock) :: (bif true then [(x9, cb (bif true then cE xe else cE zE) 33)] else [])) w1)
    refine J.pr (fun hF => ?_)
    refine J.assign rfl rfl ?_
    refine J.nil ?_
    refine JX.thenN (hK3 _ _ ?_)
    refine JC.seq (fun K4 hK4 => ?_)
    refine JC.region ?_
    refine J.loadOA (vs := cE xe) Ty.a33 Ty.s33 rfl (.tail _ (.tail _ (.tail _ (.tail _ (.head _))))) rfl rfl rfl ?_
    refine J.move rfl rfl ?_
    refine J.storeW (cs := cE zE) (vs := cE xe) Ty.s33 rfl rfl rfl rfl rfl (by simp [Value.oneCell']) .here ?_
    refine J.assign rfl rfl ?_
    refine J.nil ?_
    refine JX.thenN (hK4 _ _ ?_)
    refine JC.ret ?_
    refine JX.retCT rfl rfl rfl Ty.a33 Ty.s33 (vs := cE xe) rfl (fun w1 hw => Cells.of_block (hw.own _ (.head _)) rfl) (fun w1 hw => ?_)
    exact ⟨rfl, hw.same hw0 (fun p hp => by simp at hp ⊢; rcases hp with rfl | rfl <;> simp)⟩

theorem add_spec (t mb : Nat) (most : Int) (L : List EV) (es : Array MapEntry) (clock : Nat) (w : World) (hw0 : Own w ([(t, tabO most mb), (mb, .map es clock)])) (hT : Tab L es clock) (x : EV) (hx : okE x) :
    Calls Tryz.prog 25 [.pointer (some ⟨t, 0, none⟩), .agg (cE x).toArray].toArray w fun r w' => ∃ y : Array MapEntry × Nat, r = .returned (.int .i64 (tadd L most x).1) ∧ Tab (tadd L most x).2 y.1 y.2 ∧ St w [t, mb] [(t, tabO most mb), (mb, .map y.1 y.2)] w' := by
  refine calls_of_J (args := [.pointer (some ⟨t, 0, none⟩), .agg (cE x).toArray]) (e := [(0, .pointer (some ⟨t, 0, none⟩)), (1, .agg (cE x).toArray)]) Tryz.func25 rfl rfl ⟨rfl, rfl, trivial⟩ (hw0.st) ?_
  refine JC.seq (fun K0 hK0 => ?_)
  refine JC.region ?_
  refine J.box rfl rfl rfl (fun b3 => ?_)
  refine J.assign rfl rfl ?_
  refine J.nil ?_
  refine JX.thenN (hK0 _ _ ?_)
  refine JC.seq (fun K1 hK1 => ?_)
  refine JC.block ?_
  refine JC.seq (fun K2 hK2 => ?_)
  refine JC.region ?_
  refine J.move rfl rfl ?_
  refine J.eqNil Ty.u26 rfl rfl rfl ?_
  refine J.move rfl rfl ?_
  first | refine J.skip rfl rfl rfl rfl rfl ?_ | refine J.skipU rfl rfl rfl rfl ?_ | (refine J.unguard rfl rfl rfl ?_; refine J.loadOA (vs := cE x) Ty.a33 Ty.s33 rfl (by repeat first | exact .head _ | apply List.Mem.tail | apply List.mem_append_right) (by exact rfl) rfl rfl ?_)
  first | refine J.skip rfl rfl rfl rfl rfl ?_ | refine J.skipU rfl rfl rfl rfl ?_ | (refine J.unguard rfl rfl rfl ?_; refine J.callB (v := .bool (decide (rightP x))) (fun w1 w2 hw hb => hw.step hb) Ty.bd46 rfl rfl (fun w1 hw => right_spec x w1) ?_)
  first | refine J.skip rfl rfl rfl rfl rfl ?_ | refine J.skipU rfl rfl rfl rfl ?_ | (refine J.unguard rfl rfl rfl ?_; refine J.not rfl rfl ?_)
  (first | refine J.pickT rfl rfl rfl ?_ | refine J.pickF rfl rfl rfl ?_)
  refine J.assign rfl rfl ?_
  refine J.nil ?_
  refine JX.thenN (hK2 _ _ ?_)
  refine JC.cond rfl (fun h0 => ?_) (fun h0 => ?_)
  · skip
    have hr : ¬ rightP x := fun h => by simp [h] at h0
    refine JC.seq (fun K3 hK3 => ?_)
    refine JC.region ?_
    refine J.assign rfl rfl ?_
    refine J.nil ?_
    refine JX.thenN (hK3 _ _ ?_)
    refine JC.ret ?_
    refine JX.blockR ?_
    refine JX.thenR ?_
    refine JX.ret1 rfl rfl (fun w hw => ?_)
    first | (have hadd : (tadd L most x).2 = L := (by simp [tadd, *]); exact ⟨(es, clock), by simp [tadd, *], by rw [hadd]; exact hT, hw.drop (List.sublist_cons_self _ _)⟩) | (have hadd : tadd L most x = (0, L ++ [x]) := (by simp [tadd, *]); exact ⟨(_, _), by rw [hadd], by rw [hadd]; exact hT.push hx hnone, hw.drop (List.sublist_cons_self _ _)⟩)
  · skip
    have hr : rightP x := by simp at h0; exact h0
    refine JC.seq (fun K4 hK4 => ?_)
    refine JC.region ?_
    refine J.move rfl rfl ?_
    refine J.fieldAddr Ty.fd33_0 rfl rfl ?_
    refine J.loadOA (vs := cP x.p) Ty.a31 Ty.s31 rfl (by repeat first | exact .head _ | apply List.Mem.tail | apply List.mem_append_right) (by exact rfl) rfl rfl ?_
    refine J.callB (v := .bool (tget L x.p).isSome) (fun w1 w2 hw hb => hw.step hb) Ty.bd47 rfl rfl (fun w1 hw => has_spec t mb most L es clock w1 (St.owns (l1 := [(t, tabO most mb), (mb, .map es clock)]) (l := [(b3, cb (cE x) 33)]) (hw.perm (by (refine perm_cnt (fun _ => ?_)); simp only [cntB_append, cntB_cons, cntB_nil, Nat.add_zero, Nat.zero_add]; try ac_rfl))) hT x.p hx.1) ?_
    refine J.assign rfl rfl ?_
    refine J.nil ?_
    refine JX.thenN (hK4 _ _ ?_)
    refine JC.cond rfl (fun h1 => ?_) (fun h1 => ?_)
    · skip
      try simp only [decide_eq_true_eq, decide_eq_false_iff_not, beq_iff_eq, bne_iff_ne, bne_eq_false_iff_eq, ne_eq, beq_eq_false_iff_ne, Bool.not_eq_true, Bool.not_eq_false, Int.not_lt, Int.not_le] at h1
      refine JC.seq (fun K5 hK5 => ?_)
      refine JC.region ?_
      refine J.assign rfl rfl ?_
      refine J.nil ?_
      refine JX.thenN (hK5 _ _ ?_)
      refine JC.ret ?_
      refine JX.blockR ?_
      refine JX.thenR ?_
      refine JX.ret1 rfl rfl (fun w hw => ?_)
      first | (have hadd : (tadd L most x).2 = L := (by simp [tadd, *]); exact ⟨(es, clock), by simp [tadd, *], by rw [hadd]; exact hT, hw.drop (List.sublist_cons_self _ _)⟩) | (have hadd : tadd L most x = (0, L ++ [x]) := (by simp [tadd, *]); exact ⟨(_, _), by rw [hadd], by rw [hadd]; exact hT.push hx hnone, hw.drop (List.sublist_cons_self _ _)⟩)
    · skip
      have hnone : tget L x.p = none := by simp at h1; exact h1
      refine JC.seq (fun K6 hK6 => ?_)
      apply JC.drawL 11 [Eqv (.pointer (some ⟨t, 0, none⟩)), Eqv (.pointer (some ⟨t, 0, none⟩)), Eqv (.pointer (some ⟨t, 0 + 1, none⟩)), Eqv (.map (some mb)), Eqv (.int .i64 ((L.length : Nat) : Int)), Eqv (.pointer (some ⟨t, 0, none⟩)), Eqv (.pointer (some ⟨t, 0, none⟩)), Eqv (.pointer (some ⟨t, 0 + 0, none⟩)), Eqv (.int .i64 most), Eqv (.bool (decide (((L.length : Nat) : Int) ≥ most))), Eqv (.bool (decide (((L.length : Nat) : Int) ≥ most)))] Ty.mixed rfl rfl rfl (by kernel_rfl) rfl rfl (fun w w' hw hb => hw.step hb) ⟨fun _ _ _ h _ => h, fun _ _ _ h _ => h, fun _ _ _ h _ => h, fun _ _ _ h _ => h, fun _ _ _ h _ => h, fun _ _ _ h _ => h, fun _ _ _ h _ => h, fun _ _ _ h _ => h, fun _ _ _ h _ => h, fun _ _ _ h _ => h, fun _ _ _ h _ => h, trivial⟩ ?hstep ?htail
      case hstep =>
        refine ⟨fun wi => ?_, fun wi => ?_, fun wi => ?_, fun wi => ?_, fun wi => ?_, fun wi => ?_, fun wi => ?_, fun wi => ?_, fun wi => ?_, fun wi => ?_, fun wi => ?_, trivial⟩
        · skip
          refine Fin.nil ?_
          refine J.move rfl rfl ?_
          exact J.finP rfl
        · skip
          refine Fin.consE rfl (Fin.nil ?_)
          refine J.nilCheck rfl rfl ?_
          exact J.finP rfl
        · skip
          refine Fin.consE rfl (Fin.nil ?_)
          refine J.fieldAddr Ty.fd92_1 rfl rfl ?_
          exact J.finP rfl
        · skip
          refine Fin.consE rfl (Fin.nil ?_)
          refine J.load1 Ty.a90 rfl (fun w hw => (cell_of (hw.2.own (_, _) (by repeat first | exact .head _ | apply List.Mem.tail | apply List.mem_append_right))).trans (by exact rfl)) rfl ?_
          exact J.finP rfl
        · skip
          refine Fin.consE rfl (Fin.nil ?_)
          refine J.lenM rfl Ty.u90 rfl (fun w hw => hw.2.own (_, _) (by repeat first | exact .head _ | apply List.Mem.tail | apply List.mem_append_right)) (Tab.size (by assumption)) rfl ?_
          exact J.finP rfl
        · skip
          refine Fin.nil ?_
          refine J.move rfl rfl ?_
          exact J.finP rfl
        · skip
          refine Fin.consE rfl (Fin.nil ?_)
          refine J.nilCheck rfl rfl ?_
          exact J.finP rfl
        · skip
          refine Fin.consE rfl (Fin.nil ?_)
          refine J.fieldAddr Ty.fd92_0 rfl rfl ?_
          exact J.finP rfl
        · skip
          refine Fin.consE rfl (Fin.nil ?_)
          refine J.load1 Ty.a3 rfl (fun w hw => (cell_of (hw.2.own (_, _) (by repeat first | exact .head _ | apply List.Mem.tail | apply List.mem_append_right))).trans (by exact rfl)) rfl ?_
          exact J.finP rfl
        · skip
          refine Fin.consE rfl (Fin.consE rfl (Fin.nil ?_))
          refine J.bin rfl rfl rfl rfl ?_
          exact J.finP rfl
        · skip
          refine Fin.consE rfl (Fin.consE rfl (Fin.nil ?_))
          refine J.assign rfl rfl ?_
          exact J.finP rfl
      case htail =>
        refine Fin.consE rfl (Fin.consE rfl (Fin.consE rfl (Fin.consE rfl (Fin.consE rfl (Fin.consE rfl (Fin.consE rfl (Fin.consE rfl (Fin.consE rfl (Fin.consE rfl (Fin.consE rfl (Fin.nil ?_)))))))))))
        refine J.nil ?_
        refine JX.thenN (hK6 _ _ ?_)
        refine JC.cond rfl (fun h2 => ?_) (fun h2 => ?_)
        · skip
          have hfull : most ≤ (L.length : Int) := by simp at h2; exact h2
          refine JC.seq (fun K7 hK7 => ?_)
          refine JC.region ?_
          refine J.assign rfl rfl ?_
          refine J.nil ?_
          refine JX.thenN (hK7 _ _ ?_)
          refine JC.ret ?_
          refine JX.blockR ?_
          refine JX.thenR ?_
          refine JX.ret1 rfl rfl (fun w hw => ?_)
          first | (have hadd : (tadd L most x).2 = L := (by simp [tadd, *]); exact ⟨(es, clock), by simp [tadd, *], by rw [hadd]; exact hT, hw.drop (List.sublist_cons_self _ _)⟩) | (have hadd : tadd L most x = (0, L ++ [x]) := (by simp [tadd, *]); exact ⟨(_, _), by rw [hadd], by rw [hadd]; exact hT.push hx hnone, hw.drop (List.sublist_cons_self _ _)⟩)
        · skip
          have hfull : ¬ most ≤ (L.length : Int) := by simp at h2; omega
          refine JC.skip ?_
          refine JX.blockN ?_
          refine JX.thenN (hK1 _ _ ?_)
          refine JC.seq (fun K8 hK8 => ?_)
          apply JC.drawL 7 [Eqv (.pointer (some ⟨t, 0, none⟩)), Eqv (.pointer (some ⟨t, 0, none⟩)), Eqv (.pointer (some ⟨t, 0 + 1, none⟩)), Eqv (.map (some mb)), Eqv (.pointer (some ⟨b3, 0 + 0, none⟩)), Eqv (.agg (cP x.p).toArray), Eqv (.agg (cE x).toArray)] Ty.mixed rfl rfl rfl (by kernel_rfl) rfl rfl (fun w w' hw hb => hw.step hb) ⟨fun _ _ _ h _ => h, fun _ _ _ h _ => h, fun _ _ _ h _ => h, fun _ _ _ h _ => h, fun _ _ _ h _ => h, fun _ _ _ h _ => h, fun _ _ _ h _ => h, trivial⟩ ?hstep ?htail
          case hstep =>
            refine ⟨fun wi => ?_, fun wi => ?_, fun wi => ?_, fun wi => ?_, fun wi => ?_, fun wi => ?_, fun wi => ?_, trivial⟩
            · skip
              refine Fin.nil ?_
              refine J.move rfl rfl ?_
              exact J.finP rfl
            · skip
              refine Fin.consE rfl (Fin.nil ?_)
              refine J.nilCheck rfl rfl ?_
              exact J.finP rfl
            · skip
              refine Fin.consE rfl (Fin.nil ?_)
              refine J.fieldAddr Ty.fd92_1 rfl rfl ?_
              exact J.finP rfl
            · skip
              refine Fin.consE rfl (Fin.nil ?_)
              refine J.load1 Ty.a90 rfl (fun w hw => (cell_of (hw.2.own (_, _) (by repeat first | exact .head _ | apply List.Mem.tail | apply List.mem_append_right))).trans (by exact rfl)) rfl ?_
              exact J.finP rfl
            · skip
              refine Fin.nil ?_
              refine J.fieldAddr Ty.fd33_0 rfl rfl ?_
              exact J.finP rfl
            · skip
              refine Fin.consE rfl (Fin.nil ?_)
              refine J.loadA (vs := cP x.p) Ty.a31 Ty.s31 rfl rfl (fun w hw => Cells.of_block (hw.2.own (_, _) (by repeat first | exact .head _ | apply List.Mem.tail | apply List.mem_append_right)) (by exact rfl)) rfl ?_
              exact J.finP rfl
            · skip
              refine Fin.nil ?_
              refine J.loadA (vs := cE x) Ty.a33 Ty.s33 rfl rfl (fun w hw => Cells.of_block (hw.2.own (_, _) (by repeat first | exact .head _ | apply List.Mem.tail | apply List.mem_append_right)) (by exact rfl)) rfl ?_
              exact J.finP rfl
          case htail =>
            refine Fin.consE rfl (Fin.consE rfl (Fin.consE rfl (Fin.consE rfl (Fin.consE rfl (Fin.consE rfl (Fin.consE rfl (Fin.nil ?_)))))))
            refine J.updateNew (k := .agg (cP x.p).toArray) (u := .agg (cE x).toArray) Ty.u90 Ty.KP rfl rfl rfl (.there (.there .here)) (Ty.keyP x.p hx.1).choose_spec (hT.keys Ty.keyP) (hT.fresh hnone) ?_
            refine J.nil ?_
            refine JX.thenN (hK8 _ _ ?_)
            refine JC.seq (fun K9 hK9 => ?_)
            refine JC.region ?_
            refine J.assign rfl rfl ?_
            refine J.nil ?_
            refine JX.thenN (hK9 _ _ ?_)
            refine JC.ret ?_
            refine JX.ret1 rfl rfl (fun w hw => ?_)
            first | (have hadd : (tadd L most x).2 = L := (by simp [tadd, *]); exact ⟨(es, clock), by simp [tadd, *], by rw [hadd]; exact hT, hw.drop (List.sublist_cons_self _ _)⟩) | (have hadd : tadd L most x = (0, L ++ [x]) := (by simp [tadd, *]); exact ⟨(_, _), by rw [hadd], by rw [hadd]; exact hT.push hx hnone, hw.drop (List.sublist_cons_self _ _)⟩)

theorem len_spec (t mb : Nat) (most : Int) (L : List EV) (es : Array MapEntry) (clock : Nat) (w : World) (hw0 : Own w ([(t, tabO most mb), (mb, .map es clock)])) (hT : Tab L es clock) :
    Calls Tryz.prog 32 [.pointer (some ⟨t, 0, none⟩)].toArray w fun r w' => r = .returned (.int .i64 ((L.length : Nat) : Int)) ∧ Bel w w' := by
  refine calls_of_J (args := [.pointer (some ⟨t, 0, none⟩)]) (e := [(0, .pointer (some ⟨t, 0, none⟩))]) Tryz.func32 rfl rfl ⟨rfl, trivial⟩ (hw0.st) ?_
  refine JC.seq (fun K0 hK0 => ?_)
  refine JC.region ?_
  refine J.assign rfl rfl ?_
  refine J.nil ?_
  refine JX.thenN (hK0 _ _ ?_)
  refine JC.seq (fun K1 hK1 => ?_)
  refine JC.seq (fun K2 hK2 => ?_)
  refine JC.region ?_
  refine J.move rfl rfl ?_
  refine J.eqNil Ty.u26 rfl rfl rfl ?_
  refine J.nil ?_
  refine JX.thenN (hK2 _ _ ?_)
  first | refine JC.condF rfl ?_ | refine JC.cond rfl (fun h => by first | (exfalso; simp at h; omega) | (simp at h)) (fun _ => ?_)
  refine JC.skip ?_
  refine JX.thenN (hK1 _ _ ?_)
  refine JC.seq (fun K3 hK3 => ?_)
  refine JC.region ?_
  refine J.move rfl rfl ?_
  refine J.nilCheck rfl rfl ?_
  refine J.fieldAddr Ty.fd92_1 rfl rfl ?_
  refine J.loadO Ty.a90 rfl (by repeat first | exact .head _ | apply List.Mem.tail | apply List.mem_append_right) (by exact rfl) rfl ?_
  refine J.lenM rfl Ty.u90 rfl (fun w hw => hw.own (_, _) (by repeat first | exact .head _ | apply List.Mem.tail | apply List.mem_append_right)) (Tab.size (by assumption)) rfl ?_
  refine J.assign rfl rfl ?_
  refine J.nil ?_
  refine JX.thenN (hK3 _ _ ?_)
  refine JC.ret ?_
  refine JX.ret1 rfl rfl (fun w hw => ?_)
  exact ⟨rfl, hw.same hw0 (fun p hp => by simp at hp ⊢; rcases hp with rfl | rfl <;> simp)⟩

end Go.Proofs.YtohldionclgljaaGreat
