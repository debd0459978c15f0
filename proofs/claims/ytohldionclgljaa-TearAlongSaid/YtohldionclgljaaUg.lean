/-
  Other; the document's Right, Add and Remove: contracts.
-/
import Derived.Test.YtohldionclgljaaUf
namespace Go.Proofs.Ytohldionclgljaa
open Go.J Go.RowKit
set_option linter.unusedVariables false
set_option linter.unusedSimpArgs false
set_option maxRecDepth 4000
/-- an entry put in at its place -/
def insE : List EV → EV → List EV
  | [], x => [x]
  | y :: l, x => if ltP y.p x.p then y :: insE l x else x :: y :: l
def posE (R : List EV) (x : EV) : Nat := (R.takeWhile (fun y => ltP y.p x.p)).length
theorem insE_pos : ∀ (R : List EV) (x : EV), insE R x = R.take (posE R x) ++ x :: R.drop (posE R x)
  | [], x => rfl
  | y :: R, x => by
    unfold insE posE
    rw [List.takeWhile_cons]
    cases h : ltP y.p x.p
    · rfl
    · simp only [if_true, List.length_cons, List.take_succ_cons, List.drop_succ_cons, List.cons_append]
      rw [insE_pos R x]
      rfl
theorem posE_le (R : List EV) (x : EV) : posE R x ≤ R.length := by
  unfold posE
  exact List.Sublist.length_le (List.takeWhile_sublist _)
theorem posE_of : ∀ {R : List EV} {x : EV} {k : Nat}, k ≤ R.length → (∀ j y, j < k → R[j]? = some y → ltP y.p x.p = true) → (∀ y, R[k]? = some y → ltP y.p x.p = false) → posE R x = k
  | [], x, k, hk, _, _ => by simp at hk; subst hk; rfl
  | y :: R, x, 0, _, _, h2 => by
    have := h2 y rfl
    unfold posE
    rw [List.takeWhile_cons, this]
    rfl
  | y :: R, x, k + 1, hk, h1, h2 => by
    have h3 := h1 0 y (by omega) rfl
    have ih := posE_of (R := R) (x := x) (k := k) (by simpa using hk) (fun j z hj hz => h1 (j + 1) z (by omega) (by simpa using hz)) (fun z hz => h2 z (by simpa using hz))
    unfold posE at ih ⊢
    rw [List.takeWhile_cons, h3]
    simp only [if_true, List.length_cons, ih]
/-- what the document's Add answers, and leaves -/
def radd (R : List EV) (most : Int) (x : EV) : Int × List EV :=
  if ¬ rightP x then (1, R) else if (tget R x.p).isSome then (7, R) else if most ≤ (R.length : Int) then (5, R) else (0, insE R x)

theorem rright_spec (x : EV) (w : World) :
    Calls Try.prog 66 [.agg (cE x).toArray].toArray w fun r w' => r = .returned (.bool (decide (rightP x))) ∧ Bel w w' := by
  refine calls_of_J (args := [.agg (cE x).toArray]) (e := [(0, .agg (cE x).toArray)]) Try.func66 rfl rfl ⟨rfl, trivial⟩ (St.start w) ?_
  refine JC.seq (fun K0 hK0 => ?_)
  refine JC.region ?_
  refine J.box rfl rfl rfl (fun b1 => ?_)
  refine J.assign rfl rfl ?_
  refine J.nil ?_
  refine JX.thenN (hK0 _ _ ?_)
  refine JC.seq (fun K1 hK1 => ?_)
  refine JC.region ?_
  refine J.fieldAddr Ty.fd55_1 rfl rfl ?_
  refine J.loadOA (vs := cI x.a) Ty.a23 Ty.s23 rfl (.head _) rfl rfl rfl ?_
  refine J.fieldAddr Ty.fd55_2 rfl rfl ?_
  refine J.loadOA (vs := cI x.b) Ty.a23 Ty.s23 rfl (.head _) rfl rfl rfl ?_
  refine J.neI Ty.QI Ty.keyI rfl rfl rfl ?_
  refine J.move rfl rfl ?_
  refine J.split 8 rfl (fun hs8 => ?_) (fun hs8 => ?_)
  · skip
    try simp only [decide_eq_true_eq, decide_eq_false_iff_not, beq_iff_eq, bne_iff_ne, bne_eq_false_iff_eq, ne_eq, beq_eq_false_iff_ne, Bool.not_eq_true, Bool.not_eq_false, Int.not_lt, Int.not_le] at hs8
    first
    | exact absurd hs8 (by decide)
    | skip
      first | refine J.skip rfl rfl rfl rfl rfl ?_ | refine J.skipU rfl rfl rfl rfl ?_ | (refine J.unguard rfl rfl rfl ?_; refine J.fieldAddr Ty.fd55_3 rfl rfl ?_)
      first | refine J.skip rfl rfl rfl rfl rfl ?_ | refine J.skipU rfl rfl rfl rfl ?_ | (refine J.unguard rfl rfl rfl ?_; refine J.loadO Ty.a3 rfl (by repeat first | exact .head _ | apply List.Mem.tail | apply List.mem_append_right) (by exact rfl) rfl ?_)
      first | refine J.skip rfl rfl rfl rfl rfl ?_ | refine J.skipU rfl rfl rfl rfl ?_ | (refine J.unguard rfl rfl rfl ?_; refine J.fieldAddr Ty.fd55_4 rfl rfl ?_)
      first | refine J.skip rfl rfl rfl rfl rfl ?_ | refine J.skipU rfl rfl rfl rfl ?_ | (refine J.unguard rfl rfl rfl ?_; refine J.loadO Ty.a3 rfl (by repeat first | exact .head _ | apply List.Mem.tail | apply List.mem_append_right) (by exact rfl) rfl ?_)
      first | refine J.skip rfl rfl rfl rfl rfl ?_ | refine J.skipU rfl rfl rfl rfl ?_ | (refine J.unguard rfl rfl rfl ?_; refine J.bin rfl rfl rfl rfl ?_)
      (first | refine J.pickT rfl rfl rfl ?_ | refine J.pickF rfl rfl rfl ?_)
      refine J.move rfl rfl ?_
      refine J.split 15 rfl (fun hs15 => ?_) (fun hs15 => ?_)
      · skip
        try simp only [decide_eq_true_eq, decide_eq_false_iff_not, beq_iff_eq, bne_iff_ne, bne_eq_false_iff_eq, ne_eq, beq_eq_false_iff_ne, Bool.not_eq_true, Bool.not_eq_false, Int.not_lt, Int.not_le] at hs15
        first
        | exact absurd hs15 (by decide)
        | skip
          first | refine J.skip rfl rfl rfl rfl rfl ?_ | refine J.skipU rfl rfl rfl rfl ?_ | (refine J.unguard rfl rfl rfl ?_; refine J.fieldAddr Ty.fd55_3 rfl rfl ?_)
          first | refine J.skip rfl rfl rfl rfl rfl ?_ | refine J.skipU rfl rfl rfl rfl ?_ | (refine J.unguard rfl rfl rfl ?_; refine J.loadO Ty.a3 rfl (by repeat first | exact .head _ | apply List.Mem.tail | apply List.mem_append_right) (by exact rfl) rfl ?_)
          first | refine J.skip rfl rfl rfl rfl rfl ?_ | refine J.skipU rfl rfl rfl rfl ?_ | (refine J.unguard rfl rfl rfl ?_; refine J.bin rfl rfl rfl rfl ?_)
          (first | refine J.pickT rfl rfl rfl ?_ | refine J.pickF rfl rfl rfl ?_)
          refine J.move rfl rfl ?_
          refine J.split 20 rfl (fun hs20 => ?_) (fun hs20 => ?_)
          · skip
            try simp only [decide_eq_true_eq, decide_eq_false_iff_not, beq_iff_eq, bne_iff_ne, bne_eq_false_iff_eq, ne_eq, beq_eq_false_iff_ne, Bool.not_eq_true, Bool.not_eq_false, Int.not_lt, Int.not_le] at hs20
            first
            | exact absurd hs20 (by decide)
            | skip
              first | refine J.skip rfl rfl rfl rfl rfl ?_ | refine J.skipU rfl rfl rfl rfl ?_ | (refine J.unguard rfl rfl rfl ?_; refine J.fieldAddr Ty.fd55_3 rfl rfl ?_)
              first | refine J.skip rfl rfl rfl rfl rfl ?_ | refine J.skipU rfl rfl rfl rfl ?_ | (refine J.unguard rfl rfl rfl ?_; refine J.loadO Ty.a3 rfl (by repeat first | exact .head _ | apply List.Mem.tail | apply List.mem_append_right) (by exact rfl) rfl ?_)
              first | refine J.skip rfl rfl rfl rfl rfl ?_ | refine J.skipU rfl rfl rfl rfl ?_ | (refine J.unguard rfl rfl rfl ?_; refine J.bin rfl rfl rfl rfl ?_)
              (first | refine J.pickT rfl rfl rfl ?_ | refine J.pickF rfl rfl rfl ?_)
              refine J.move rfl rfl ?_
              refine J.split 25 rfl (fun hs25 => ?_) (fun hs25 => ?_)
              · skip
                try simp only [decide_eq_true_eq, decide_eq_false_iff_not, beq_iff_eq, bne_iff_ne, bne_eq_false_iff_eq, ne_eq, beq_eq_false_iff_ne, Bool.not_eq_true, Bool.not_eq_false, Int.not_lt, Int.not_le] at hs25
                first
                | exact absurd hs25 (by decide)
                | skip
                  first | refine J.skip rfl rfl rfl rfl rfl ?_ | refine J.skipU rfl rfl rfl rfl ?_ | (refine J.unguard rfl rfl rfl ?_; refine J.fieldAddr Ty.fd55_4 rfl rfl ?_)
                  first | refine J.skip rfl rfl rfl rfl rfl ?_ | refine J.skipU rfl rfl rfl rfl ?_ | (refine J.unguard rfl rfl rfl ?_; refine J.loadO Ty.a3 rfl (by repeat first | exact .head _ | apply List.Mem.tail | apply List.mem_append_right) (by exact rfl) rfl ?_)
                  first | refine J.skip rfl rfl rfl rfl rfl ?_ | refine J.skipU rfl rfl rfl rfl ?_ | (refine J.unguard rfl rfl rfl ?_; refine J.bin rfl rfl rfl rfl ?_)
                  (first | refine J.pickT rfl rfl rfl ?_ | refine J.pickF rfl rfl rfl ?_)
                  refine J.move rfl rfl ?_
                  refine J.split 30 rfl (fun hs30 => ?_) (fun hs30 => ?_)
                  · skip
                    try simp only [decide_eq_true_eq, decide_eq_false_iff_not, beq_iff_eq, bne_iff_ne, bne_eq_false_iff_eq, ne_eq, beq_eq_false_iff_ne, Bool.not_eq_true, Bool.not_eq_false, Int.not_lt, Int.not_le] at hs30
                    first
                    | exact absurd hs30 (by decide)
                    | skip
                      first | refine J.skip rfl rfl rfl rfl rfl ?_ | refine J.skipU rfl rfl rfl rfl ?_ | (refine J.unguard rfl rfl rfl ?_; refine J.fieldAddr Ty.fd55_4 rfl rfl ?_)
                      first | refine J.skip rfl rfl rfl rfl rfl ?_ | refine J.skipU rfl rfl rfl rfl ?_ | (refine J.unguard rfl rfl rfl ?_; refine J.loadO Ty.a3 rfl (by repeat first | exact .head _ | apply List.Mem.tail | apply List.mem_append_right) (by exact rfl) rfl ?_)
                      first | refine J.skip rfl rfl rfl rfl rfl ?_ | refine J.skipU rfl rfl rfl rfl ?_ | (refine J.unguard rfl rfl rfl ?_; refine J.bin rfl rfl rfl rfl ?_)
                      (first | refine J.pickT rfl rfl rfl ?_ | refine J.pickF rfl rfl rfl ?_)
                      refine J.assign rfl rfl ?_
                      refine J.nil ?_
                      refine JX.thenN (hK1 _ _ ?_)
                      refine JC.ret ?_
                      refine JX.ret1 rfl rfl (fun w hw => ?_)
                      refine ⟨ret_bool ?_, (hw.drop (List.nil_sublist _)).below⟩
                      first | (simp_all [rightP, okTN]; done) | (simp [rightP, okTN] at *; omega) | (simp_all [rightP, okTN]; omega)
                  · skip
                    try simp only [decide_eq_true_eq, decide_eq_false_iff_not, beq_iff_eq, bne_iff_ne, bne_eq_false_iff_eq, ne_eq, beq_eq_false_iff_ne, Bool.not_eq_true, Bool.not_eq_false, Int.not_lt, Int.not_le] at hs30
                    first
                    | exact absurd hs30 (by decide)
                    | skip
                      first | refine J.skip rfl rfl rfl rfl rfl ?_ | refine J.skipU rfl rfl rfl rfl ?_ | (refine J.unguard rfl rfl rfl ?_; refine J.fieldAddr Ty.fd55_4 rfl rfl ?_)
                      first | refine J.skip rfl rfl rfl rfl rfl ?_ | refine J.skipU rfl rfl rfl rfl ?_ | (refine J.unguard rfl rfl rfl ?_; refine J.loadO Ty.a3 rfl (by repeat first | exact .head _ | apply List.Mem.tail | apply List.mem_append_right) (by exact rfl) rfl ?_)
                      first | refine J.skip rfl rfl rfl rfl rfl ?_ | refine J.skipU rfl rfl rfl rfl ?_ | (refine J.unguard rfl rfl rfl ?_; refine J.bin rfl rfl rfl rfl ?_)
                      (first | refine J.pickT rfl rfl rfl ?_ | refine J.pickF rfl rfl rfl ?_)
                      refine J.assign rfl rfl ?_
                      refine J.nil ?_
                      refine JX.thenN (hK1 _ _ ?_)
                      refine JC.ret ?_
                      refine JX.ret1 rfl rfl (fun w hw => ?_)
                      refine ⟨ret_bool ?_, (hw.drop (List.nil_sublist _)).below⟩
                      first | (simp_all [rightP, okTN]; done) | (simp [rightP, okTN] at *; omega) | (simp_all [rightP, okTN]; omega)
              · skip
                try simp only [decide_eq_true_eq, decide_eq_false_iff_not, beq_iff_eq, bne_iff_ne, bne_eq_false_iff_eq, ne_eq, beq_eq_false_iff_ne, Bool.not_eq_true, Bool.not_eq_false, Int.not_lt, Int.not_le] at hs25
                first
                | exact absurd hs25 (by decide)
                | skip
                  first | refine J.skip rfl rfl rfl rfl rfl ?_ | refine J.skipU rfl rfl rfl rfl ?_ | (refine J.unguard rfl rfl rfl ?_; refine J.fieldAddr Ty.fd55_4 rfl rfl ?_)
                  first | refine J.skip rfl rfl rfl rfl rfl ?_ | refine J.skipU rfl rfl rfl rfl ?_ | (refine J.unguard rfl rfl rfl ?_; refine J.loadO Ty.a3 rfl (by repeat first | exact .head _ | apply List.Mem.tail | apply List.mem_append_right) (by exact rfl) rfl ?_)
                  first | refine J.skip rfl rfl rfl rfl rfl ?_ | refine J.skipU rfl rfl rfl rfl ?_ | (refine J.unguard rfl rfl rfl ?_; refine J.bin rfl rfl rfl rfl ?_)
                  (first | refine J.pickT rfl rfl rfl ?_ | refine J.pickF rfl rfl rfl ?_)
                  refine J.move rfl rfl ?_
                  first | refine J.skip rfl rfl rfl rfl rfl ?_ | refine J.skipU rfl rfl rfl rfl ?_ | (refine J.unguard rfl rfl rfl ?_; refine J.fieldAddr Ty.fd55_4 rfl rfl ?_)
                  first | refine J.skip rfl rfl rfl rfl rfl ?_ | refine J.skipU rfl rfl rfl rfl ?_ | (refine J.unguard rfl rfl rfl ?_; refine J.loadO Ty.a3 rfl (by repeat first | exact .head _ | apply List.Mem.tail | apply List.mem_append_right) (by exact rfl) rfl ?_)
                  first | refine J.skip rfl rfl rfl rfl rfl ?_ | refine J.skipU rfl rfl rfl rfl ?_ | (refine J.unguard rfl rfl rfl ?_; refine J.bin rfl rfl rfl rfl ?_)
                  (first | refine J.pickT rfl rfl rfl ?_ | refine J.pickF rfl rfl rfl ?_)
                  refine J.assign rfl rfl ?_
                  refine J.nil ?_
                  refine JX.thenN (hK1 _ _ ?_)
                  refine JC.ret ?_
                  refine JX.ret1 rfl rfl (fun w hw => ?_)
                  refine ⟨ret_bool ?_, (hw.drop (List.nil_sublist _)).below⟩
                  first | (simp_all [rightP, okTN]; done) | (simp [rightP, okTN] at *; omega) | (simp_all [rightP, okTN]; omega)
          · skip
            try simp only [decide_eq_true_eq, decide_eq_false_iff_not, beq_iff_eq, bne_iff_ne, bne_eq_false_iff_eq, ne_eq, beq_eq_false_iff_ne, Bool.not_eq_true, Bool.not_eq_false, Int.not_lt, Int.not_le] at hs20
            first
            | exact absurd hs20 (by decide)
            | skip
              first | refine J.skip rfl rfl rfl rfl rfl ?_ | refine J.skipU rfl rfl rfl rfl ?_ | (refine J.unguard rfl rfl rfl ?_; refine J.fieldAddr Ty.fd55_3 rfl rfl ?_)
              first | refine J.skip rfl rfl rfl rfl rfl ?_ | refine J.skipU rfl rfl rfl rfl ?_ | (refine J.unguard rfl rfl rfl ?_; refine J.loadO Ty.a3 rfl (by repeat first | exact .head _ | apply List.Mem.tail | apply List.mem_append_right) (by exact rfl) rfl ?_)
              first | refine J.skip rfl rfl rfl rfl rfl ?_ | refine J.skipU rfl rfl rfl rfl ?_ | (refine J.unguard rfl rfl rfl ?_; refine J.bin rfl rfl rfl rfl ?_)
              (first | refine J.pickT rfl rfl rfl ?_ | refine J.pickF rfl rfl rfl ?_)
              refine J.move rfl rfl ?_
              first | refine J.skip rfl rfl rfl rfl rfl ?_ | refine J.skipU rfl rfl rfl rfl ?_ | (refine J.unguard rfl rfl rfl ?_; refine J.fieldAddr Ty.fd55_4 rfl rfl ?_)
              first | refine J.skip rfl rfl rfl rfl rfl ?_ | refine J.skipU rfl rfl rfl rfl ?_ | (refine J.unguard rfl rfl rfl ?_; refine J.loadO Ty.a3 rfl (by repeat first | exact .head _ | apply List.Mem.tail | apply List.mem_append_right) (by exact rfl) rfl ?_)
              first | refine J.skip rfl rfl rfl rfl rfl ?_ | refine J.skipU rfl rfl rfl rfl ?_ | (refine J.unguard rfl rfl rfl ?_; refine J.bin rfl rfl rfl rfl ?_)
              (first | refine J.pickT rfl rfl rfl ?_ | refine J.pickF rfl rfl rfl ?_)
              refine J.move rfl rfl ?_
              first | refine J.skip rfl rfl rfl rfl rfl ?_ | refine J.skipU rfl rfl rfl rfl ?_ | (refine J.unguard rfl rfl rfl ?_; refine J.fieldAddr Ty.fd55_4 rfl rfl ?_)
              first | refine J.skip rfl rfl rfl rfl rfl ?_ | refine J.skipU rfl rfl rfl rfl ?_ | (refine J.unguard rfl rfl rfl ?_; refine J.loadO Ty.a3 rfl (by repeat first | exact .head _ | apply List.Mem.tail | apply List.mem_append_right) (by exact rfl) rfl ?_)
              first | refine J.skip rfl rfl rfl rfl rfl ?_ | refine J.skipU rfl rfl rfl rfl ?_ | (refine J.unguard rfl rfl rfl ?_; refine J.bin rfl rfl rfl rfl ?_)
              (first | refine J.pickT rfl rfl rfl ?_ | refine J.pickF rfl rfl rfl ?_)
              refine J.assign rfl rfl ?_
              refine J.nil ?_
              refine JX.thenN (hK1 _ _ ?_)
              refine JC.ret ?_
              refine JX.ret1 rfl rfl (fun w hw => ?_)
              refine ⟨ret_bool ?_, (hw.drop (List.nil_sublist _)).below⟩
              first | (simp_all [rightP, okTN]; done) | (simp [rightP, okTN] at *; omega) | (simp_all [rightP, okTN]; omega)
      · skip
        try simp only [decide_eq_true_eq, decide_eq_false_iff_not, beq_iff_eq, bne_iff_ne, bne_eq_false_iff_eq, ne_eq, beq_eq_false_iff_ne, Bool.not_eq_true, Bool.not_eq_false, Int.not_lt, Int.not_le] at hs15
        first
        | exact absurd hs15 (by decide)
        | skip
          first | refine J.skip rfl rfl rfl rfl rfl ?_ | refine J.skipU rfl rfl rfl rfl ?_ | (refine J.unguard rfl rfl rfl ?_; refine J.fieldAddr Ty.fd55_3 rfl rfl ?_)
          first | refine J.skip rfl rfl rfl rfl rfl ?_ | refine J.skipU rfl rfl rfl rfl ?_ | (refine J.unguard rfl rfl rfl ?_; refine J.loadO Ty.a3 rfl (by repeat first | exact .head _ | apply List.Mem.tail | apply List.mem_append_right) (by exact rfl) rfl ?_)
          first | refine J.skip rfl rfl rfl rfl rfl ?_ | refine J.skipU rfl rfl rfl rfl ?_ | (refine J.unguard rfl rfl rfl ?_; refine J.bin rfl rfl rfl rfl ?_)
          (first | refine J.pickT rfl rfl rfl ?_ | refine J.pickF rfl rfl rfl ?_)
          refine J.move rfl rfl ?_
          first | refine J.skip rfl rfl rfl rfl rfl ?_ | refine J.skipU rfl rfl rfl rfl ?_ | (refine J.unguard rfl rfl rfl ?_; refine J.fieldAddr Ty.fd55_3 rfl rfl ?_)
          first | refine J.skip rfl rfl rfl rfl rfl ?_ | refine J.skipU rfl rfl rfl rfl ?_ | (refine J.unguard rfl rfl rfl ?_; refine J.loadO Ty.a3 rfl (by repeat first | exact .head _ | apply List.Mem.tail | apply List.mem_append_right) (by exact rfl) rfl ?_)
          first | refine J.skip rfl rfl rfl rfl rfl ?_ | refine J.skipU rfl rfl rfl rfl ?_ | (refine J.unguard rfl rfl rfl ?_; refine J.bin rfl rfl rfl rfl ?_)
          (first | refine J.pickT rfl rfl rfl ?_ | refine J.pickF rfl rfl rfl ?_)
          refine J.move rfl rfl ?_
          first | refine J.skip rfl rfl rfl rfl rfl ?_ | refine J.skipU rfl rfl rfl rfl ?_ | (refine J.unguard rfl rfl rfl ?_; refine J.fieldAddr Ty.fd55_4 rfl rfl ?_)
          first | refine J.skip rfl rfl rfl rfl rfl ?_ | refine J.skipU rfl rfl rfl rfl ?_ | (refine J.unguard rfl rfl rfl ?_; refine J.loadO Ty.a3 rfl (by repeat first | exact .head _ | apply List.Mem.tail | apply List.mem_append_right) (by exact rfl) rfl ?_)
          first | refine J.skip rfl rfl rfl rfl rfl ?_ | refine J.skipU rfl rfl rfl rfl ?_ | (refine J.unguard rfl rfl rfl ?_; refine J.bin rfl rfl rfl rfl ?_)
          (first | refine J.pickT rfl rfl rfl ?_ | refine J.pickF rfl rfl rfl ?_)
          refine J.move rfl rfl ?_
          first | refine J.skip rfl rfl rfl rfl rfl ?_ | refine J.skipU rfl rfl rfl rfl ?_ | (refine J.unguard rfl rfl rfl ?_; refine J.fieldAddr Ty.fd55_4 rfl rfl ?_)
          first | refine J.skip rfl rfl rfl rfl rfl ?_ | refine J.skipU rfl rfl rfl rfl ?_ | (refine J.unguard rfl rfl rfl ?_; refine J.loadO Ty.a3 rfl (by repeat first | exact .head _ | apply List.Mem.tail | apply List.mem_append_right) (by exact rfl) rfl ?_)
          first | refine J.skip rfl rfl rfl rfl rfl ?_ | refine J.skipU rfl rfl rfl rfl ?_ | (refine J.unguard rfl rfl rfl ?_; refine J.bin rfl rfl rfl rfl ?_)
          (first | refine J.pickT rfl rfl rfl ?_ | refine J.pickF rfl rfl rfl ?_)
          refine J.assign rfl rfl ?_
          refine J.nil ?_
          refine JX.thenN (hK1 _ _ ?_)
          refine JC.ret ?_
          refine JX.ret1 rfl rfl (fun w hw => ?_)
          refine ⟨ret_bool ?_, (hw.drop (List.nil_sublist _)).below⟩
          first | (simp_all [rightP, okTN]; done) | (simp [rightP, okTN] at *; omega) | (simp_all [rightP, okTN]; omega)
  · skip
    try simp only [decide_eq_true_eq, decide_eq_false_iff_not, beq_iff_eq, bne_iff_ne, bne_eq_false_iff_eq, ne_eq, beq_eq_false_iff_ne, Bool.not_eq_true, Bool.not_eq_false, Int.not_lt, Int.not_le] at hs8
    first
    | exact absurd hs8 (by decide)
    | skip
      first | refine J.skip rfl rfl rfl rfl rfl ?_ | refine J.skipU rfl rfl rfl rfl ?_ | (refine J.unguard rfl rfl rfl ?_; refine J.fieldAddr Ty.fd55_3 rfl rfl ?_)
      first | refine J.skip rfl rfl rfl rfl rfl ?_ | refine J.skipU rfl rfl rfl rfl ?_ | (refine J.unguard rfl rfl rfl ?_; refine J.loadO Ty.a3 rfl (by repeat first | exact .head _ | apply List.Mem.tail | apply List.mem_append_right) (by exact rfl) rfl ?_)
      first | refine J.skip rfl rfl rfl rfl rfl ?_ | refine J.skipU rfl rfl rfl rfl ?_ | (refine J.unguard rfl rfl rfl ?_; refine J.fieldAddr Ty.fd55_4 rfl rfl ?_)
      first | refine J.skip rfl rfl rfl rfl rfl ?_ | refine J.skipU rfl rfl rfl rfl ?_ | (refine J.unguard rfl rfl rfl ?_; refine J.loadO Ty.a3 rfl (by repeat first | exact .head _ | apply List.Mem.tail | apply List.mem_append_right) (by exact rfl) rfl ?_)
      first | refine J.skip rfl rfl rfl rfl rfl ?_ | refine J.skipU rfl rfl rfl rfl ?_ | (refine J.unguard rfl rfl rfl ?_; refine J.bin rfl rfl rfl rfl ?_)
      (first | refine J.pickT rfl rfl rfl ?_ | refine J.pickF rfl rfl rfl ?_)
      refine J.move rfl rfl ?_
      first | refine J.skip rfl rfl rfl rfl rfl ?_ | refine J.skipU rfl rfl rfl rfl ?_ | (refine J.unguard rfl rfl rfl ?_; refine J.fieldAddr Ty.fd55_3 rfl rfl ?_)
      first | refine J.skip rfl rfl rfl rfl rfl ?_ | refine J.skipU rfl rfl rfl rfl ?_ | (refine J.unguard rfl rfl rfl ?_; refine J.loadO Ty.a3 rfl (by repeat first | exact .head _ | apply List.Mem.tail | apply List.mem_append_right) (by exact rfl) rfl ?_)
      first | refine J.skip rfl rfl rfl rfl rfl ?_ | refine J.skipU rfl rfl rfl rfl ?_ | (refine J.unguard rfl rfl rfl ?_; refine J.bin rfl rfl rfl rfl ?_)
      (first | refine J.pickT rfl rfl rfl ?_ | refine J.pickF rfl rfl rfl ?_)
      refine J.move rfl rfl ?_
      first | refine J.skip rfl rfl rfl rfl rfl ?_ | refine J.skipU rfl rfl rfl rfl ?_ | (refine J.unguard rfl rfl rfl ?_; refine J.fieldAddr Ty.fd55_3 rfl rfl ?_)
      first | refine J.skip rfl rfl rfl rfl rfl ?_ | refine J.skipU rfl rfl rfl rfl ?_ | (refine J.unguard rfl rfl rfl ?_; refine J.loadO Ty.a3 rfl (by repeat first | exact .head _ | apply List.Mem.tail | apply List.mem_append_right) (by exact rfl) rfl ?_)
      first | refine J.skip rfl rfl rfl rfl rfl ?_ | refine J.skipU rfl rfl rfl rfl ?_ | (refine J.unguard rfl rfl rfl ?_; refine J.bin rfl rfl rfl rfl ?_)
      (first | refine J.pickT rfl rfl rfl ?_ | refine J.pickF rfl rfl rfl ?_)
      refine J.move rfl rfl ?_
      first | refine J.skip rfl rfl rfl rfl rfl ?_ | refine J.skipU rfl rfl rfl rfl ?_ | (refine J.unguard rfl rfl rfl ?_; refine J.fieldAddr Ty.fd55_4 rfl rfl ?_)
      first | refine J.skip rfl rfl rfl rfl rfl ?_ | refine J.skipU rfl rfl rfl rfl ?_ | (refine J.unguard rfl rfl rfl ?_; refine J.loadO Ty.a3 rfl (by repeat first | exact .head _ | apply List.Mem.tail | apply List.mem_append_right) (by exact rfl) rfl ?_)
      first | refine J.skip rfl rfl rfl rfl rfl ?_ | refine J.skipU rfl rfl rfl rfl ?_ | (refine J.unguard rfl rfl rfl ?_; refine J.bin rfl rfl rfl rfl ?_)
      (first | refine J.pickT rfl rfl rfl ?_ | refine J.pickF rfl rfl rfl ?_)
      refine J.move rfl rfl ?_
      first | refine J.skip rfl rfl rfl rfl rfl ?_ | refine J.skipU rfl rfl rfl rfl ?_ | (refine J.unguard rfl rfl rfl ?_; refine J.fieldAddr Ty.fd55_4 rfl rfl ?_)
      first | refine J.skip rfl rfl rfl rfl rfl ?_ | refine J.skipU rfl rfl rfl rfl ?_ | (refine J.unguard rfl rfl rfl ?_; refine J.loadO Ty.a3 rfl (by repeat first | exact .head _ | apply List.Mem.tail | apply List.mem_append_right) (by exact rfl) rfl ?_)
      first | refine J.skip rfl rfl rfl rfl rfl ?_ | refine J.skipU rfl rfl rfl rfl ?_ | (refine J.unguard rfl rfl rfl ?_; refine J.bin rfl rfl rfl rfl ?_)
      (first | refine J.pickT rfl rfl rfl ?_ | refine J.pickF rfl rfl rfl ?_)
      refine J.assign rfl rfl ?_
      refine J.nil ?_
      refine JX.thenN (hK1 _ _ ?_)
      refine JC.ret ?_
      refine JX.ret1 rfl rfl (fun w hw => ?_)
      refine ⟨ret_bool ?_, (hw.drop (List.nil_sublist _)).below⟩
      first | (simp_all [rightP, okTN]; done) | (simp [rightP, okTN] at *; omega) | (simp_all [rightP, okTN]; omega)

theorem take_snocE {R : List EV} {i : Nat} {x : EV} (h : R[i]? = some x) : R.take (i + 1) = R.take i ++ [x] := by
  have hi := (List.getElem?_eq_some_iff.1 h).1
  rw [take_add_one hi]
  rw [List.getElem?_eq_getElem hi] at h
  cases h
  rfl
theorem fE_take (xs : List EV) (n : Nat) : fE (xs.take n) = (fE xs).take (n * 51) := by
  have h : fE xs = fE (xs.take n) ++ fE (xs.drop n) := by rw [← fE_append, List.take_append_drop]
  have hl := fE_length (xs.take n)
  rw [List.length_take] at hl
  rcases Nat.le_total n xs.length with hn | hn
  · rw [h, List.take_left' (by rw [hl, Nat.min_eq_left hn])]
  · rw [List.take_of_length_le hn, List.take_of_length_le (by rw [fE_length]; omega)]
theorem fE_drop (xs : List EV) (n : Nat) : fE (xs.drop n) = (fE xs).drop (n * 51) := by
  have h : fE xs = fE (xs.take n) ++ fE (xs.drop n) := by rw [← fE_append, List.take_append_drop]
  have hl := fE_length (xs.take n)
  rw [List.length_take] at hl
  rcases Nat.le_total n xs.length with hn | hn
  · rw [h, List.drop_left' (by rw [hl, Nat.min_eq_left hn])]
  · rw [List.drop_of_length_le hn, List.drop_of_length_le (by rw [fE_length]; omega)]; rfl

set_option maxHeartbeats 1000000 in
theorem radd_spec (rt : Nat) (v : Value) (most : Int) (R : List EV) (lp : List (Nat × Obj)) (w : World) (hw0 : Own w ((rt, rtabO v most) :: lp)) (hv : Vec 55 51 v R.length (fE R) lp) (hR : ∀ x, x ∈ R → okE x) (hrl : R.length ≤ 549755813888) (x : EV) (hx : okE x) :
    Calls Try.prog 45 [.pointer (some ⟨rt, 0, none⟩), .agg (cE x).toArray].toArray w fun r w' => ∃ y : Value × List (Nat × Obj), r = .returned (.int .i64 (radd R most x).1) ∧ Vec 55 51 y.1 (radd R most x).2.length (fE (radd R most x).2) y.2 ∧ St w (rt :: lp.map (·.1)) ((rt, rtabO y.1 most) :: y.2) w' := by
  obtain ⟨ar, cr, rfl, hcr⟩ := hv.form
  refine calls_of_J (args := [.pointer (some ⟨rt, 0, none⟩), .agg (cE x).toArray]) (e := [(0, .pointer (some ⟨rt, 0, none⟩)), (1, .agg (cE x).toArray)]) Try.func45 rfl rfl ⟨rfl, rfl, trivial⟩ (hw0.st) ?_
  refine JC.seq (fun K0 hK0 => ?_)
  refine JC.region ?_
  refine J.box rfl rfl rfl (fun b3 => ?_)
  refine J.assign rfl rfl ?_
  refine J.nil ?_
  refine JX.thenN (hK0 _ _ ?_)
  refine JC.seq (fun K1 hK1 => ?_)
  refine JC.seq (fun K2 hK2 => ?_)
  refine JC.region ?_
  refine J.loadOA (vs := cE x) Ty.a55 Ty.s55 rfl (by repeat first | exact .head _ | apply List.Mem.tail | apply List.mem_append_right) (by exact rfl) rfl rfl ?_
  refine J.callB (v := .bool (decide (rightP x))) (fun w1 w2 hw hb => hw.step hb) Ty.bd66 rfl rfl (fun w1 hw => rright_spec x w1) ?_
  refine J.not rfl rfl ?_
  refine J.nil ?_
  refine JX.thenN (hK2 _ _ ?_)
  refine JC.cond rfl (fun h0 => ?_) (fun h0 => ?_)
  · skip
    have hri : ¬ rightP x := by simpa using h0
    refine JC.seq (fun K3 hK3 => ?_)
    refine JC.region ?_
    refine J.assign rfl rfl ?_
    refine J.nil ?_
    refine JX.thenN (hK3 _ _ ?_)
    refine JC.ret ?_
    refine JX.thenR ?_
    refine JX.ret1 rfl rfl (fun w hw => ?_)
    have hra : radd R most x = (1, R) := by simp [radd, *]
    exact ⟨(.slice ar R.length cr, lp), by rw [hra], by rw [hra]; exact hv, hw.drop (.cons _ (List.Sublist.refl _))⟩
  · skip
    have hri : rightP x := by simpa using h0
    refine JC.skip ?_
    refine JX.thenN (hK1 _ _ ?_)
    refine JC.seq (fun K4 hK4 => ?_)
    refine JC.seq (fun K5 hK5 => ?_)
    refine JC.region ?_
    refine J.move rfl rfl ?_
    refine J.fieldAddr Ty.fd55_0 rfl rfl ?_
    refine J.loadOA (vs := cP x.p) Ty.a38 Ty.s38 rfl (by repeat first | exact .head _ | apply List.Mem.tail | apply List.mem_append_right) (by exact rfl) rfl rfl ?_
    refine J.callB (v := .tuple #[.agg (cE ((tget R x.p).getD zE)).toArray, .bool (tget R x.p).isSome]) (fun w1 w2 hw hb => hw.step hb) Ty.bd57 rfl rfl (fun w1 hw => rget_spec rt _ most R w1 (hw.own _ (.tail _ (.head _))) (vec_rowM hv hw (fun q hq => by simp [hq])) hR (by omega) x.p hx.1) ?_
    refine J.move rfl rfl ?_
    refine J.extract rfl rfl rfl ?_
    refine J.extract rfl rfl rfl ?_
    refine J.alloc Ty.zE_ rfl rfl (fun b5 => ?_)
    refine J.storeW (cs := cE zE) (vs := cE ((tget R x.p).getD zE)) Ty.s55 rfl rfl rfl rfl rfl (one_cE _) .here ?_
    refine J.assign rfl rfl ?_
    refine J.nil ?_
    refine JX.thenN (hK5 _ _ ?_)
    refine JC.seq (fun K6 hK6 => ?_)
    refine JC.region ?_
    refine J.move rfl rfl ?_
    refine J.nil ?_
    refine JX.thenN (hK6 _ _ ?_)
    refine JC.cond rfl (fun h1 => ?_) (fun h1 => ?_)
    · skip
      have hsome : (tget R x.p).isSome = true := h1
      refine JC.seq (fun K7 hK7 => ?_)
      refine JC.region ?_
      refine J.assign rfl rfl ?_
      refine J.nil ?_
      refine JX.thenN (hK7 _ _ ?_)
      refine JC.ret ?_
      refine JX.thenR ?_
      refine JX.ret1 rfl rfl (fun w hw => ?_)
      have hra : radd R most x = (7, R) := by simp [radd, *]
      exact ⟨(.slice ar R.length cr, lp), by rw [hra], by rw [hra]; exact hv, hw.drop (.cons _ (.cons _ (List.Sublist.refl _)))⟩
    · skip
      have hsome : (tget R x.p).isSome = false := h1
      refine JC.skip ?_
      refine JX.thenN (hK4 _ _ ?_)
      refine JC.seq (fun K8 hK8 => ?_)
      refine JC.seq (fun K9 hK9 => ?_)
      apply JC.drawL 10 [Eqv (.pointer (some ⟨rt, 0, none⟩)), Eqv (.pointer (some ⟨rt, 0, none⟩)), Eqv (.pointer (some ⟨rt, 0 + 0, none⟩)), Eqv (.slice ar R.length cr), Eqv (.int .i64 ((R.length : Nat) : Int)), Eqv (.pointer (some ⟨rt, 0, none⟩)), Eqv (.pointer (some ⟨rt, 0, none⟩)), Eqv (.pointer (some ⟨rt, 0 + 1, none⟩)), Eqv (.int .i64 most), Eqv (.bool (decide (((R.length : Nat) : Int) ≥ most)))] Ty.mixed rfl rfl rfl (by kernel_rfl) rfl rfl (fun w w' hw hb => hw.step hb) ⟨fun _ _ _ h _ => h, fun _ _ _ h _ => h, fun _ _ _ h _ => h, fun _ _ _ h _ => h, fun _ _ _ h _ => h, fun _ _ _ h _ => h, fun _ _ _ h _ => h, fun _ _ _ h _ => h, fun _ _ _ h _ => h, fun _ _ _ h _ => h, trivial⟩ ?hstep ?htail
      case hstep =>
        refine ⟨fun wi => ?_, fun wi => ?_, fun wi => ?_, fun wi => ?_, fun wi => ?_, fun wi => ?_, fun wi => ?_, fun wi => ?_, fun wi => ?_, fun wi => ?_, trivial⟩
        · skip
          refine Fin.nil ?_
          refine J.move rfl rfl ?_
          exact J.finP rfl
        · skip
          refine Fin.consE rfl (Fin.nil ?_)
          refine J.nilCheck rfl rfl ?_
          exact J.finP rfl
        · skip
          refine Fin.consE rfl (Fin.nil ?_)
          refine J.fieldAddr Ty.fd94_0 rfl rfl ?_
          exact J.finP rfl
        · skip
          refine Fin.consE rfl (Fin.nil ?_)
          refine J.load1 (v := .slice ar R.length cr) Ty.a25 rfl (fun w1 hw => by rw [cell_of (hw.2.own _ (.tail _ (.tail _ (.head _))))]; rfl) rfl ?_
          exact J.finP rfl
        · skip
          refine Fin.consE rfl (Fin.nil ?_)
          refine J.lenS rfl Ty.u25 rfl rfl ?_
          exact J.finP rfl
        · skip
          refine Fin.nil ?_
          refine J.move rfl rfl ?_
          exact J.finP rfl
        · skip
          refine Fin.consE rfl (Fin.nil ?_)
          refine J.nilCheck rfl rfl ?_
          exact J.finP rfl
        · skip
          refine Fin.consE rfl (Fin.nil ?_)
          refine J.fieldAddr Ty.fd94_1 rfl rfl ?_
          exact J.finP rfl
        · skip
          refine Fin.consE rfl (Fin.nil ?_)
          refine J.load1 (v := .int .i64 most) Ty.a3 rfl (fun w1 hw => by rw [cell_of (hw.2.own _ (.tail _ (.tail _ (.head _))))]; rfl) rfl ?_
          exact J.finP rfl
        · skip
          refine Fin.consE rfl (Fin.consE rfl (Fin.nil ?_))
          refine J.bin rfl rfl rfl rfl ?_
          exact J.finP rfl
      case htail =>
        refine Fin.consE rfl (Fin.consE rfl (Fin.consE rfl (Fin.consE rfl (Fin.consE rfl (Fin.consE rfl (Fin.consE rfl (Fin.consE rfl (Fin.consE rfl (Fin.consE rfl (Fin.nil ?_))))))))))
        refine J.nil ?_
        refine JX.thenN (hK9 _ _ ?_)
        refine JC.cond rfl (fun h2 => ?_) (fun h2 => ?_)
        · skip
          have hful : most ≤ (R.length : Int) := by simp at h2; omega
          refine JC.seq (fun K10 hK10 => ?_)
          refine JC.region ?_
          refine J.assign rfl rfl ?_
          refine J.nil ?_
          refine JX.thenN (hK10 _ _ ?_)
          refine JC.ret ?_
          refine JX.thenR ?_
          refine JX.ret1 rfl rfl (fun w hw => ?_)
          have hra : radd R most x = (5, R) := by simp [radd, *]
          exact ⟨(.slice ar R.length cr, lp), by rw [hra], by rw [hra]; exact hv, hw.drop (.cons _ (.cons _ (List.Sublist.refl _)))⟩
        · skip
          have hful : ¬ most ≤ (R.length : Int) := by simp at h2; omega
          refine JC.skip ?_
          refine JX.thenN (hK8 _ _ ?_)
          refine JC.seq (fun K11 hK11 => ?_)
          refine JC.region ?_
          refine J.assign rfl rfl ?_
          refine J.nil ?_
          refine JX.thenN (hK11 _ _ ?_)
          refine JC.seq (fun K12 hK12 => ?_)
          refine JC.region ?_
          refine J.assign rfl rfl ?_
          refine J.nil ?_
          refine JX.thenN (hK12 _ _ ?_)
          refine JC.seq (fun K13 hK13 => ?_)
          refine JC.block ?_
          refine JC.conseq (JC.cov (f := (fun st => [(0, .pointer (some ⟨rt, 0, none⟩)), (3, .pointer (some ⟨b3, 0, none⟩)), (7, st.2.1), (8, .int .i64 ((st.1 : Nat) : Int))]) ((0, .slice none 0 0, []) : Nat × Value × List (Nat × Obj))) ⟨rfl, rfl, rfl, rfl, trivial⟩ (JC.loop (α := Nat × Value × List (Nat × Obj)) (fun st => [(0, .pointer (some ⟨rt, 0, none⟩)), (3, .pointer (some ⟨b3, 0, none⟩)), (7, st.2.1), (8, .int .i64 ((st.1 : Nat) : Int))]) (fun st w' => ((st.1 ≤ R.length ∧ ∀ j y, j < st.1 → R[j]? = some y → ltP y.p x.p = true) ∧ Vec 55 51 st.2.1 ((R.take st.1)).length (fE (R.take st.1)) st.2.2) ∧ St w (rt :: lp.map (·.1)) (st.2.2 ++ ((b5, cb (cE ((tget R x.p).getD zE)) 55) :: (b3, cb (cE x) 55) :: (rt, rtabO (.slice ar R.length cr) most) :: lp)) w') (fun st => R.length - st.1) ((0, .slice none 0 0, []) : Nat × Value × List (Nat × Obj)) (fun st => ?_))) (fun w hw => ⟨⟨⟨Nat.zero_le _, fun j y hj => by simp only at hj; omega⟩, Vec.nil _ _⟩, hw⟩)
          obtain ⟨i, vo, lo⟩ := st
          refine JC.pr (fun hx1 => ?_)
          obtain ⟨⟨hi, hbef⟩, hvo⟩ := hx1
          simp only at hi hbef hvo ⊢
          refine JC.seq (fun K14 hK14 => ?_)
          refine JC.seq (fun K15 hK15 => ?_)
          by_cases hlt : i < R.length
          · skip
            obtain ⟨q1, sp1, rfl, hlp, hsp, _⟩ := vec_pos hv (by omega)
            obtain ⟨xe, hxe⟩ : ∃ x, R[i]? = some x := ⟨_, List.getElem?_eq_getElem hlt⟩
            have hxo := hR xe (List.mem_of_getElem? hxe)
            apply JC.drawL 20 [Eqv (.int .i64 ((i : Nat) : Int)), Eqv (.pointer (some ⟨rt, 0, none⟩)), Eqv (.pointer (some ⟨rt, 0, none⟩)), Eqv (.pointer (some ⟨rt, 0 + 0, none⟩)), Eqv (.slice (some ⟨q1, 0, none⟩) R.length cr), Eqv (.int .i64 ((R.length : Nat) : Int)), Eqv (.bool true), Eqv (.bool true), Eqv (.pointer (some ⟨rt, 0, none⟩)), Eqv (.pointer (some ⟨rt, 0, none⟩)), Eqv (.pointer (some ⟨rt, 0 + 0, none⟩)), Eqv (.slice (some ⟨q1, 0, none⟩) R.length cr), Eqv (.int .i64 ((i : Nat) : Int)), Eqv (.pointer (some ⟨q1, 0 + (i : Int).toNat * 51, none⟩)), Eqv (.pointer (some ⟨q1, 0 + (i : Int).toNat * 51 + 0, none⟩)), Eqv (.agg (cP xe.p).toArray), Eqv (.pointer (some ⟨b3, 0 + 0, none⟩)), Eqv (.agg (cP x.p).toArray), Eqv (.bool (ltP xe.p x.p)), Eqv (.bool (ltP xe.p x.p))] Ty.mixed rfl rfl rfl (by kernel_rfl) rfl rfl (fun w w' hw hb => hw.step hb) ⟨fun _ _ _ h _ => h, fun _ _ _ h _ => h, fun _ _ _ h _ => h, fun _ _ _ h _ => h, fun _ _ _ h _ => h, fun _ _ _ h _ => h, fun _ _ _ h _ => h, fun _ _ _ h _ => h, fun _ _ _ h _ => h, fun _ _ _ h _ => h, fun _ _ _ h _ => h, fun _ _ _ h _ => h, fun _ _ _ h _ => h, fun _ _ _ h _ => h, fun _ _ _ h _ => h, fun _ _ _ h _ => h, fun _ _ _ h _ => h, fun _ _ _ h _ => h, fun _ _ _ h _ => h, fun _ _ _ h _ => h, trivial⟩ ?hstep ?htail
            case hstep =>
              refine ⟨fun wi => ?_, fun wi => ?_, fun wi => ?_, fun wi => ?_, fun wi => ?_, fun wi => ?_, fun wi => ?_, fun wi => ?_, fun wi => ?_, fun wi => ?_, fun wi => ?_, fun wi => ?_, fun wi => ?_, fun wi => ?_, fun wi => ?_, fun wi => ?_, fun wi => ?_, fun wi => ?_, fun wi => ?_, fun wi => ?_, trivial⟩
              · skip
                refine Fin.nil ?_
                refine J.move rfl rfl ?_
                exact J.finP rfl
              · skip
                refine Fin.nil ?_
                refine J.move rfl rfl ?_
                exact J.finP rfl
              · skip
                refine Fin.consE rfl (Fin.nil ?_)
                refine J.nilCheck rfl rfl ?_
                exact J.finP rfl
              · skip
                refine Fin.consE rfl (Fin.nil ?_)
                refine J.fieldAddr Ty.fd94_0 rfl rfl ?_
                exact J.finP rfl
              · skip
                refine Fin.consE rfl (Fin.nil ?_)
                refine J.load1 (v := .slice (some ⟨q1, 0, none⟩) R.length cr) Ty.a25 rfl (fun w1 hw => by rw [cell_of (hw.2.own _ (List.mem_append_right _ (.tail _ (.tail _ (.head _)))))]; rfl) rfl ?_
                exact J.finP rfl
              · skip
                refine Fin.consE rfl (Fin.nil ?_)
                refine J.lenS rfl Ty.u25 rfl rfl ?_
                exact J.finP rfl
              · skip
                refine Fin.consE rfl (Fin.consE rfl (Fin.nil ?_))
                refine J.bin rfl rfl rfl rfl ?_
                refine J.name 36 rfl (show _ = Value.bool true by simp; omega) ?_
                exact J.finP rfl
              · skip
                refine Fin.consE rfl (Fin.nil ?_)
                refine J.move rfl rfl ?_
                exact J.finP rfl
              · skip
                refine Fin.consE rfl (Fin.nil ?_)
                first | refine J.skip rfl rfl rfl rfl rfl ?_ | refine J.skipU rfl rfl rfl rfl ?_ | (refine J.unguard rfl rfl rfl ?_; refine J.move rfl rfl ?_)
                exact J.finP rfl
              · skip
                refine Fin.consE rfl (Fin.consE rfl (Fin.nil ?_))
                first | refine J.skip rfl rfl rfl rfl rfl ?_ | refine J.skipU rfl rfl rfl rfl ?_ | (refine J.unguard rfl rfl rfl ?_; refine J.nilCheck rfl rfl ?_)
                exact J.finP rfl
              · skip
                refine Fin.consE rfl (Fin.consE rfl (Fin.nil ?_))
                first | refine J.skip rfl rfl rfl rfl rfl ?_ | refine J.skipU rfl rfl rfl rfl ?_ | (refine J.unguard rfl rfl rfl ?_; refine J.fieldAddr Ty.fd94_0 rfl rfl ?_)
                exact J.finP rfl
              · skip
                refine Fin.consE rfl (Fin.consE rfl (Fin.nil ?_))
                refine J.unguard rfl rfl rfl ?_
                refine J.load1 (v := .slice (some ⟨q1, 0, none⟩) R.length cr) Ty.a25 rfl (fun w1 hw => by rw [cell_of (hw.2.own _ (List.mem_append_right _ (.tail _ (.tail _ (.head _)))))]; rfl) rfl ?_
                exact J.finP rfl
              · skip
                refine Fin.consE rfl (Fin.nil ?_)
                first | refine J.skip rfl rfl rfl rfl rfl ?_ | refine J.skipU rfl rfl rfl rfl ?_ | (refine J.unguard rfl rfl rfl ?_; refine J.move rfl rfl ?_)
                exact J.finP rfl
              · skip
                refine Fin.consE rfl (Fin.consE rfl (Fin.consE rfl (Fin.nil ?_)))
                refine J.unguard rfl rfl rfl ?_
                refine J.indexAddrS Ty.el25 Ty.s55 rfl rfl (by omega) (by omega) rfl ?_
                exact J.finP rfl
              · skip
                refine Fin.consE rfl (Fin.consE rfl (Fin.nil ?_))
                first | refine J.skip rfl rfl rfl rfl rfl ?_ | refine J.skipU rfl rfl rfl rfl ?_ | (refine J.unguard rfl rfl rfl ?_; refine J.fieldAddr Ty.fd55_0 rfl rfl ?_)
                exact J.finP rfl
              · skip
                refine Fin.consE rfl (Fin.consE rfl (Fin.nil ?_))
                refine J.unguard rfl rfl rfl ?_
                refine J.loadA (vs := cP xe.p) Ty.a38 Ty.s38 rfl rfl (fun w1 hw => cells_sub (rowE_at (vec_rowM hv hw.2 (fun q hq => List.mem_append_right _ (.tail _ (.tail _ (.tail _ hq))))) hxe (by omega)) rfl) rfl ?_
                exact J.finP rfl
              · skip
                refine Fin.consE rfl (Fin.nil ?_)
                first | refine J.skip rfl rfl rfl rfl rfl ?_ | refine J.skipU rfl rfl rfl rfl ?_ | (refine J.unguard rfl rfl rfl ?_; refine J.fieldAddr Ty.fd55_0 rfl rfl ?_)
                exact J.finP rfl
              · skip
                refine Fin.consE rfl (Fin.consE rfl (Fin.nil ?_))
                refine J.unguard rfl rfl rfl ?_
                refine J.loadA (vs := cP x.p) Ty.a38 Ty.s38 rfl rfl (fun w1 hw => cells_sub (Cells.of_block (hw.2.own _ (List.mem_append_right _ (.tail _ (.head _)))) rfl : Cells w1 b3 0 (cE x)) rfl) rfl ?_
                exact J.finP rfl
              · skip
                refine Fin.consE rfl (Fin.consE rfl (Fin.consE rfl (Fin.consE rfl (Fin.nil ?_))))
                refine J.unguard rfl rfl rfl ?_
                refine J.callD (v := .bool (ltP xe.p x.p)) Ty.bd49 rfl rfl (fun w1 hw => rless12_spec xe.p x.p w1) ?_
                exact J.finQ rfl
              · skip
                refine Fin.consE rfl (Fin.consE rfl (Fin.nil ?_))
                (first | refine J.pickT rfl rfl rfl ?_ | refine J.pickF rfl rfl rfl ?_)
                exact J.finP rfl
            case htail =>
              refine Fin.consE rfl (Fin.consE rfl (Fin.consE rfl (Fin.consE rfl (Fin.consE rfl (Fin.consE rfl (Fin.consE rfl (Fin.consE rfl (Fin.consE rfl (Fin.consE rfl (Fin.consE rfl (Fin.consE rfl (Fin.consE rfl (Fin.consE rfl (Fin.consE rfl (Fin.consE rfl (Fin.consE rfl (Fin.consE rfl (Fin.consE rfl (Fin.consE rfl (Fin.nil ?_))))))))))))))))))))
              refine J.nil ?_
              refine JX.thenN (hK15 _ _ ?_)
              refine JC.cond rfl (fun h3 => ?_) (fun h3 => ?_)
              · skip
                have hless : ltP xe.p x.p = true := h3
                refine JC.skip ?_
                refine JX.thenN (hK14 _ _ ?_)
                refine JC.block ?_
                refine JC.seq (fun K16 hK16 => ?_)
                refine JC.region ?_
                refine J.move rfl rfl ?_
                refine J.move rfl rfl ?_
                refine J.nilCheck rfl rfl ?_
                refine J.fieldAddr Ty.fd94_0 rfl rfl ?_
                refine J.load1 (v := .slice (some ⟨q1, 0, none⟩) R.length cr) Ty.a25 rfl (fun w1 hw => by rw [cell_of (hw.own _ (List.mem_append_right _ (.tail _ (.tail _ (.head _)))))]; rfl) rfl ?_
                refine J.move rfl rfl ?_
                refine J.indexAddrS Ty.el25 Ty.s55 rfl rfl (by omega) (by omega) rfl ?_
                refine J.loadA (vs := cE xe) Ty.a55 Ty.s55 rfl rfl (fun w1 hw => rowE_at (vec_rowM hv hw (fun q hq => List.mem_append_right _ (.tail _ (.tail _ (.tail _ hq))))) hxe (by omega)) rfl ?_
                refine J.buildSl (cs := cE xe) Ty.el25 Ty.s55 Ty.zE_ rfl rfl rfl rfl (by kernel_rfl) rfl rfl (fun b58 => ?_)
                have htl : (R.take i).length ≤ i := by rw [List.length_take]; omega
                refine J.perm (lo ++ ((b58, cb (cE xe) 55) :: (b5, cb (cE ((tget R x.p).getD zE)) 55) :: (b3, cb (cE x) 55) :: (rt, rtabO (.slice (some ⟨q1, 0, none⟩) R.length cr) most) :: lp)) (by (refine perm_cnt (fun _ => ?_)); simp only [cntB_append, cntB_cons, cntB_nil, Nat.add_zero, Nat.zero_add]; try ac_rfl) ?_
                refine J.append (lp := lo) (xs := fE (R.take i)) (ys := cE xe) (k := (R.take i).length) (m := 1) Ty.el25 Ty.s55 Ty.b55 Ty.zE_ rfl (.inl ⟨55, Ty.u25⟩) rfl rfl hvo (fun w3 hw3 => .inl (Row.own hw3 (List.mem_append_right _ (.head _)) rfl (Nat.le_refl _))) rfl (one_cE xe) (by omega) (by omega) rfl (fun vn ln hvn => ?_)
                refine J.assign rfl rfl ?_
                refine J.nil ?_
                refine JX.thenN (hK16 _ _ ?_)
                refine JC.region ?_
                refine J.move rfl rfl ?_
                (first | refine J.addN rfl rfl (by omega) (by omega) rfl ?_ | refine J.bin rfl rfl rfl rfl ?_)
                refine J.assign rfl rfl ?_
                refine J.nil ?_
                refine JX.blockN ?_
                refine JX.thenN ?_
                refine JX.again ((i + 1, vn, ln) : Nat × Value × List (Nat × Obj)) ?_ ?_ ?_
                · simp only; omega
                · exact ⟨rfl, rfl, rfl, rfl, trivial⟩
                · exact fun w1 hw => ⟨⟨⟨hlt, fun j y hj hy => by
                  rcases Nat.lt_or_ge j i with h | h
                  · exact hbef j y h hy
                  · have : j = i := by omega
                    subst this
                    rw [hxe] at hy; cases hy; exact hless⟩, by rw [take_snocE hxe, List.length_append, fE_append]; simpa [fE] using hvn⟩, hw.drop (List.Sublist.append_left (List.sublist_cons_self _ _) _)⟩
              · skip
                have hstop : ∀ y, R[i]? = some y → ltP y.p x.p = false := fun y hy => by rw [hxe] at hy; cases hy; exact h3
                refine JC.exit ?_
                refine JX.thenE ?_
                refine JX.thenE ?_
                refine JX.blockE ?_
                refine JX.thenN (hK13 _ _ ?_)
                refine JC.seq (fun K17 hK17 => ?_)
                refine JC.region ?_
                refine J.move rfl rfl ?_
                refine J.loadA (vs := cE x) Ty.a55 Ty.s55 rfl rfl (fun w1 hw => Cells.of_block (hw.own _ (List.mem_append_right _ (.tail _ (.head _)))) rfl) rfl ?_
                refine J.buildSl (cs := cE x) Ty.el25 Ty.s55 Ty.zE_ rfl rfl rfl rfl (by kernel_rfl) rfl rfl (fun b64 => ?_)
                have htl : (R.take i).length ≤ i := by rw [List.length_take]; omega
                refine J.perm (lo ++ ((b64, cb (cE x) 55) :: (b5, cb (cE ((tget R x.p).getD zE)) 55) :: (b3, cb (cE x) 55) :: (rt, rtabO (.slice (some ⟨q1, 0, none⟩) R.length cr) most) :: lp)) (by (refine perm_cnt (fun _ => ?_)); simp only [cntB_append, cntB_cons, cntB_nil, Nat.add_zero, Nat.zero_add]; try ac_rfl) ?_
                refine J.append (lp := lo) (xs := fE (R.take i)) (ys := cE x) (k := (R.take i).length) (m := 1) Ty.el25 Ty.s55 Ty.b55 Ty.zE_ rfl (.inl ⟨55, Ty.u25⟩) rfl rfl hvo (fun w3 hw3 => .inl (Row.own hw3 (List.mem_append_right _ (.head _)) rfl (Nat.le_refl _))) rfl (one_cE x) (by omega) (by omega) rfl (fun v65 l65 hv65 => ?_)
                refine J.assign rfl rfl ?_
                refine J.nil ?_
                refine JX.thenN (hK17 _ _ ?_)
                refine JC.seq (fun K18 hK18 => ?_)
                refine JC.region ?_
                refine J.move rfl rfl ?_
                refine J.move rfl rfl ?_
                refine J.move rfl rfl ?_
                refine J.nilCheck rfl rfl ?_
                refine J.fieldAddr Ty.fd94_0 rfl rfl ?_
                refine J.load1 (v := .slice (some ⟨q1, 0, none⟩) R.length cr) Ty.a25 rfl (fun w1 hw => by rw [cell_of (hw.own _ (List.mem_append_right _ (.tail _ (.tail _ (.tail _ (.head _))))))]; rfl) rfl ?_
                refine J.move rfl rfl ?_
                refine J.sliceS Ty.el25 Ty.s55 rfl rfl rfl rfl rfl (by omega) (by omega) (by omega) rfl ?_
                refine J.append (lp := l65) (xs := fE (R.take i ++ [x])) (ys := fE (R.drop i)) (k := (R.take i).length + 1) (m := R.length - i) Ty.el25 Ty.s55 Ty.b55 Ty.zE_ rfl (.inl ⟨55, Ty.u25⟩) rfl rfl (by rw [fE_append, show fE [x] = cE x from by simp [fE]]; exact hv65) (fun w3 hw3 => .inl (by
                  have h := Row.slice (vec_rowM hv hw3 (fun q hq => List.mem_append_right _ (by simp [hq]))) (sz := 51) (fE_length R) (show i ≤ R.length from hi) (Nat.le_refl _)
                  rw [fE_drop]
                  rw [List.take_of_length_le (by rw [List.length_drop, fE_length]; omega)] at h
                  exact h)) (by rw [fE_length, List.length_drop]) (fun y hy => fE_one hy) (by omega) (by omega) rfl (fun v74 l74 hv74 => ?_)
                obtain ⟨a74, c74, rfl, hc74⟩ := hv74.form
                refine J.nilCheck rfl rfl ?_
                refine J.fieldAddr Ty.fd94_0 rfl rfl ?_
                refine J.perm ((rt, rtabO (.slice (some ⟨q1, 0, none⟩) R.length cr) most) :: (l74 ++ ((b64, cb (cE x) 55) :: (b5, cb (cE ((tget R x.p).getD zE)) 55) :: (b3, cb (cE x) 55) :: lp))) (by (refine perm_cnt (fun _ => ?_)); simp only [cntB_append, cntB_cons, cntB_nil, Nat.add_zero, Nat.zero_add]; try ac_rfl) ?_
                refine J.storeO (vs := [.slice a74 ((R.take i).length + 1 + (R.length - i)) c74]) Ty.s25 rfl rfl rfl rfl (by simp [Value.oneCell']) .here (by simp) ?_
                refine J.nil ?_
                refine JX.thenN (hK18 _ _ ?_)
                refine JC.seq (fun K19 hK19 => ?_)
                refine JC.region ?_
                refine J.assign rfl rfl ?_
                refine J.nil ?_
                refine JX.thenN (hK19 _ _ ?_)
                refine JC.ret ?_
                refine JX.ret1 rfl rfl (fun w hw => ?_)
                have hra : radd R most x = (0, insE R x) := by first | (simp [radd, *]; done) | (simp [radd, *]; omega)
                have hpos := posE_of hi hbef hstop
                refine ⟨(_, l74), by rw [hra], ?_, hw.drop (.cons_cons _ (List.sublist_append_left _ _))⟩
                rw [hra, insE_pos, hpos]
                simp only [List.length_append, List.length_cons, List.length_drop, List.length_take]
                rw [List.length_take] at hv74
                have e : fE (R.take i ++ x :: R.drop i) = fE (R.take i ++ [x]) ++ fE (R.drop i) := by rw [← fE_append]; simp
                rw [e, show min i R.length + (R.length - i + 1) = min i R.length + 1 + (R.length - i) by omega]
                exact hv74
          · skip
            have hstop : ∀ y, R[i]? = some y → ltP y.p x.p = false := fun y hy => absurd (List.getElem?_eq_some_iff.1 hy).1 hlt
            apply JC.drawL 20 [Eqv (.int .i64 ((i : Nat) : Int)), Eqv (.pointer (some ⟨rt, 0, none⟩)), Eqv (.pointer (some ⟨rt, 0, none⟩)), Eqv (.pointer (some ⟨rt, 0 + 0, none⟩)), Eqv (.slice ar R.length cr), Eqv (.int .i64 ((R.length : Nat) : Int)), Eqv (.bool false), Eqv (.bool false), Eqv (undef), Eqv (undef), Eqv (undef), Eqv (undef), Eqv (undef), Eqv (undef), Eqv (undef), Eqv (undef), Eqv (undef), Eqv (undef), Eqv (undef), Eqv (.bool false)] Ty.mixed rfl rfl rfl (by kernel_rfl) rfl rfl (fun w w' hw hb => hw.step hb) ⟨fun _ _ _ h _ => h, fun _ _ _ h _ => h, fun _ _ _ h _ => h, fun _ _ _ h _ => h, fun _ _ _ h _ => h, fun _ _ _ h _ => h, fun _ _ _ h _ => h, fun _ _ _ h _ => h, fun _ _ _ h _ => h, fun _ _ _ h _ => h, fun _ _ _ h _ => h, fun _ _ _ h _ => h, fun _ _ _ h _ => h, fun _ _ _ h _ => h, fun _ _ _ h _ => h, fun _ _ _ h _ => h, fun _ _ _ h _ => h, fun _ _ _ h _ => h, fun _ _ _ h _ => h, fun _ _ _ h _ => h, trivial⟩ ?hstep ?htail
            case hstep =>
              refine ⟨fun wi => ?_, fun wi => ?_, fun wi => ?_, fun wi => ?_, fun wi => ?_, fun wi => ?_, fun wi => ?_, fun wi => ?_, fun wi => ?_, fun wi => ?_, fun wi => ?_, fun wi => ?_, fun wi => ?_, fun wi => ?_, fun wi => ?_, fun wi => ?_, fun wi => ?_, fun wi => ?_, fun wi => ?_, fun wi => ?_, trivial⟩
              · skip
                refine Fin.nil ?_
                refine J.move rfl rfl ?_
                exact J.finP rfl
              · skip
                refine Fin.nil ?_
                refine J.move rfl rfl ?_
                exact J.finP rfl
              · skip
                refine Fin.consE rfl (Fin.nil ?_)
                refine J.nilCheck rfl rfl ?_
                exact J.finP rfl
              · skip
                refine Fin.consE rfl (Fin.nil ?_)
                refine J.fieldAddr Ty.fd94_0 rfl rfl ?_
                exact J.finP rfl
              · skip
                refine Fin.consE rfl (Fin.nil ?_)
                refine J.load1 (v := .slice ar R.length cr) Ty.a25 rfl (fun w1 hw => by rw [cell_of (hw.2.own _ (List.mem_append_right _ (.tail _ (.tail _ (.head _)))))]; rfl) rfl ?_
                exact J.finP rfl
              · skip
                refine Fin.consE rfl (Fin.nil ?_)
                refine J.lenS rfl Ty.u25 rfl rfl ?_
                exact J.finP rfl
              · skip
                refine Fin.consE rfl (Fin.consE rfl (Fin.nil ?_))
                refine J.bin rfl rfl rfl rfl ?_
                refine J.name 36 rfl (show _ = Value.bool false by simp; omega) ?_
                exact J.finP rfl
              · skip
                refine Fin.consE rfl (Fin.nil ?_)
                refine J.move rfl rfl ?_
                exact J.finP rfl
              · skip
                refine Fin.consE rfl (Fin.nil ?_)
                first | refine J.skip rfl rfl rfl rfl rfl ?_ | refine J.skipU rfl rfl rfl rfl ?_ | (refine J.unguard rfl rfl rfl ?_; refine J.move rfl rfl ?_)
                exact J.finP rfl
              · skip
                refine Fin.consE rfl (Fin.consE rfl (Fin.nil ?_))
                first | refine J.skip rfl rfl rfl rfl rfl ?_ | refine J.skipU rfl rfl rfl rfl ?_ | (refine J.unguard rfl rfl rfl ?_; refine J.nilCheck rfl rfl ?_)
                exact J.finP rfl
              · skip
                refine Fin.consE rfl (Fin.consE rfl (Fin.nil ?_))
                first | refine J.skip rfl rfl rfl rfl rfl ?_ | refine J.skipU rfl rfl rfl rfl ?_ | (refine J.unguard rfl rfl rfl ?_; refine J.fieldAddr Ty.fd94_0 rfl rfl ?_)
                exact J.finP rfl
              · skip
                refine Fin.consE rfl (Fin.consE rfl (Fin.nil ?_))
                first | refine J.skip rfl rfl rfl rfl rfl ?_ | refine J.skipU rfl rfl rfl rfl ?_ | (refine J.unguard rfl rfl rfl ?_; refine J.load1 Ty.a25 rfl (fun w hw => (cell_of (hw.2.own (_, _) (by repeat first | exact .head _ | apply List.Mem.tail | apply List.mem_append_right))).trans (by exact rfl)) rfl ?_)
                exact J.finP rfl
              · skip
                refine Fin.consE rfl (Fin.nil ?_)
                first | refine J.skip rfl rfl rfl rfl rfl ?_ | refine J.skipU rfl rfl rfl rfl ?_ | (refine J.unguard rfl rfl rfl ?_; refine J.move rfl rfl ?_)
                exact J.finP rfl
              · skip
                refine Fin.consE rfl (Fin.consE rfl (Fin.consE rfl (Fin.nil ?_)))
                first | refine J.skip rfl rfl rfl rfl rfl ?_ | refine J.skipU rfl rfl rfl rfl ?_ | (refine J.unguard rfl rfl rfl ?_; refine J.indexAddrS Ty.el25 Ty.s55 rfl rfl (by omega) (by omega) rfl ?_)
                exact J.finP rfl
              · skip
                refine Fin.consE rfl (Fin.consE rfl (Fin.nil ?_))
                first | refine J.skip rfl rfl rfl rfl rfl ?_ | refine J.skipU rfl rfl rfl rfl ?_ | (refine J.unguard rfl rfl rfl ?_; refine J.fieldAddr Ty.fd55_0 rfl rfl ?_)
                exact J.finP rfl
              · skip
                refine Fin.consE rfl (Fin.consE rfl (Fin.nil ?_))
                first | refine J.skip rfl rfl rfl rfl rfl ?_ | refine J.skipU rfl rfl rfl rfl ?_ | (refine J.unguard rfl rfl rfl ?_; refine J.loadOA Ty.a38 Ty.s38 rfl (by repeat first | exact .head _ | apply List.Mem.tail | apply List.mem_append_right) (by exact rfl) rfl rfl ?_)
                exact J.finP rfl
              · skip
                refine Fin.consE rfl (Fin.nil ?_)
                first | refine J.skip rfl rfl rfl rfl rfl ?_ | refine J.skipU rfl rfl rfl rfl ?_ | (refine J.unguard rfl rfl rfl ?_; refine J.fieldAddr Ty.fd55_0 rfl rfl ?_)
                exact J.finP rfl
              · skip
                refine Fin.consE rfl (Fin.consE rfl (Fin.nil ?_))
                first | refine J.skip rfl rfl rfl rfl rfl ?_ | refine J.skipU rfl rfl rfl rfl ?_ | (refine J.unguard rfl rfl rfl ?_; refine J.loadOA Ty.a38 Ty.s38 rfl (by repeat first | exact .head _ | apply List.Mem.tail | apply List.mem_append_right) (by exact rfl) rfl rfl ?_)
                exact J.finP rfl
              · skip
                refine Fin.consE rfl (Fin.consE rfl (Fin.consE rfl (Fin.consE rfl (Fin.nil ?_))))
                first | refine J.skip rfl rfl rfl rfl rfl ?_ | refine J.skipU rfl rfl rfl rfl ?_ | (refine J.unguard rfl rfl rfl ?_; fail)
                exact J.finP rfl
              · skip
                refine Fin.consE rfl (Fin.consE rfl (Fin.nil ?_))
                (first | refine J.pickT rfl rfl rfl ?_ | refine J.pickF rfl rfl rfl ?_)
                exact J.finP rfl
            case htail =>
              refine Fin.consE rfl (Fin.consE rfl (Fin.consE rfl (Fin.consE rfl (Fin.consE rfl (Fin.consE rfl (Fin.consE rfl (Fin.consE rfl (Fin.consE rfl (Fin.consE rfl (Fin.consE rfl (Fin.consE rfl (Fin.consE rfl (Fin.consE rfl (Fin.consE rfl (Fin.consE rfl (Fin.consE rfl (Fin.consE rfl (Fin.consE rfl (Fin.consE rfl (Fin.nil ?_))))))))))))))))))))
              refine J.nil ?_
              refine JX.thenN (hK15 _ _ ?_)
              first | refine JC.condF rfl ?_ | refine JC.cond rfl (fun h => by first | (exfalso; simp at h; omega) | (simp at h)) (fun _ => ?_)
              refine JC.exit ?_
              refine JX.thenE ?_
              refine JX.thenE ?_
              refine JX.blockE ?_
              refine JX.thenN (hK13 _ _ ?_)
              refine JC.seq (fun K20 hK20 => ?_)
              refine JC.region ?_
              refine J.move rfl rfl ?_
              refine J.loadA (vs := cE x) Ty.a55 Ty.s55 rfl rfl (fun w1 hw => Cells.of_block (hw.own _ (List.mem_append_right _ (.tail _ (.head _)))) rfl) rfl ?_
              refine J.buildSl (cs := cE x) Ty.el25 Ty.s55 Ty.zE_ rfl rfl rfl rfl (by kernel_rfl) rfl rfl (fun b64 => ?_)
              have htl : (R.take i).length ≤ i := by rw [List.length_take]; omega
              refine J.perm (lo ++ ((b64, cb (cE x) 55) :: (b5, cb (cE ((tget R x.p).getD zE)) 55) :: (b3, cb (cE x) 55) :: (rt, rtabO (.slice ar R.length cr) most) :: lp)) (by (refine perm_cnt (fun _ => ?_)); simp only [cntB_append, cntB_cons, cntB_nil, Nat.add_zero, Nat.zero_add]; try ac_rfl) ?_
              refine J.append (lp := lo) (xs := fE (R.take i)) (ys := cE x) (k := (R.take i).length) (m := 1) Ty.el25 Ty.s55 Ty.b55 Ty.zE_ rfl (.inl ⟨55, Ty.u25⟩) rfl rfl hvo (fun w3 hw3 => .inl (Row.own hw3 (List.mem_append_right _ (.head _)) rfl (Nat.le_refl _))) rfl (one_cE x) (by omega) (by omega) rfl (fun v65 l65 hv65 => ?_)
              refine J.assign rfl rfl ?_
              refine J.nil ?_
              refine JX.thenN (hK20 _ _ ?_)
              refine JC.seq (fun K21 hK21 => ?_)
              refine JC.region ?_
              refine J.move rfl rfl ?_
              refine J.move rfl rfl ?_
              refine J.move rfl rfl ?_
              refine J.nilCheck rfl rfl ?_
              refine J.fieldAddr Ty.fd94_0 rfl rfl ?_
              refine J.load1 (v := .slice ar R.length cr) Ty.a25 rfl (fun w1 hw => by rw [cell_of (hw.own _ (List.mem_append_right _ (.tail _ (.tail _ (.tail _ (.head _))))))]; rfl) rfl ?_
              refine J.move rfl rfl ?_
              refine J.sliceS Ty.el25 Ty.s55 rfl rfl rfl rfl rfl (by omega) (by omega) (by omega) rfl ?_
              refine J.append (lp := l65) (xs := fE (R.take i ++ [x])) (ys := fE (R.drop i)) (k := (R.take i).length + 1) (m := R.length - i) Ty.el25 Ty.s55 Ty.b55 Ty.zE_ rfl (.inl ⟨55, Ty.u25⟩) rfl rfl (by rw [fE_append, show fE [x] = cE x from by simp [fE]]; exact hv65) (fun w3 hw3 => .inl (by
                have h := Row.slice (vec_rowM hv hw3 (fun q hq => List.mem_append_right _ (by simp [hq]))) (sz := 51) (fE_length R) (show i ≤ R.length from hi) (Nat.le_refl _)
                rw [fE_drop]
                rw [List.take_of_length_le (by rw [List.length_drop, fE_length]; omega)] at h
                exact h)) (by rw [fE_length, List.length_drop]) (fun y hy => fE_one hy) (by omega) (by omega) rfl (fun v74 l74 hv74 => ?_)
              obtain ⟨a74, c74, rfl, hc74⟩ := hv74.form
              refine J.nilCheck rfl rfl ?_
              refine J.fieldAddr Ty.fd94_0 rfl rfl ?_
              refine J.perm ((rt, rtabO (.slice ar R.length cr) most) :: (l74 ++ ((b64, cb (cE x) 55) :: (b5, cb (cE ((tget R x.p).getD zE)) 55) :: (b3, cb (cE x) 55) :: lp))) (by (refine perm_cnt (fun _ => ?_)); simp only [cntB_append, cntB_cons, cntB_nil, Nat.add_zero, Nat.zero_add]; try ac_rfl) ?_
              refine J.storeO (vs := [.slice a74 ((R.take i).length + 1 + (R.length - i)) c74]) Ty.s25 rfl rfl rfl rfl (by simp [Value.oneCell']) .here (by simp) ?_
              refine J.nil ?_
              refine JX.thenN (hK21 _ _ ?_)
              refine JC.seq (fun K22 hK22 => ?_)
              refine JC.region ?_
              refine J.assign rfl rfl ?_
              refine J.nil ?_
              refine JX.thenN (hK22 _ _ ?_)
              refine JC.ret ?_
              refine JX.ret1 rfl rfl (fun w hw => ?_)
              have hra : radd R most x = (0, insE R x) := by first | (simp [radd, *]; done) | (simp [radd, *]; omega)
              have hpos := posE_of hi hbef hstop
              refine ⟨(_, l74), by rw [hra], ?_, hw.drop (.cons_cons _ (List.sublist_append_left _ _))⟩
              rw [hra, insE_pos, hpos]
              simp only [List.length_append, List.length_cons, List.length_drop, List.length_take]
              rw [List.length_take] at hv74
              have e : fE (R.take i ++ x :: R.drop i) = fE (R.take i ++ [x]) ++ fE (R.drop i) := by rw [← fE_append]; simp
              rw [e, show min i R.length + (R.length - i + 1) = min i R.length + 1 + (R.length - i) by omega]
              exact hv74

end Go.Proofs.Ytohldionclgljaa
