/-
  Choices and neighbours; which of two choices is ahead: contracts.
-/
import Derived.Test.YtohldionclgljaaNa
import Derived.Test.YtohldionclgljaaUn
namespace Go.Proofs.Ytohldionclgljaa
open Go.J Go.RowKit
set_option linter.unusedVariables false
set_option linter.unusedSimpArgs false
set_option maxRecDepth 8000
/-- a choice -/
structure CV where
  id : IDV
  near : Bool
  p : PV
  n : Int
abbrev cC (c : CV) : List Value := cI c.id ++ [.bool c.near] ++ cP c.p ++ [.int .i64 c.n]
def zC : CV := ⟨zI, false, zP, 0⟩
def okC (c : CV) : Prop := okN c.p.n ∧ okN c.n
theorem cC_length (c : CV) : (cC c).length = 35 := rfl
theorem one_cC (c : CV) : ∀ v, v ∈ cC c → v.oneCell' = true := by
  intro v hv
  rcases List.mem_append.1 hv with hv | hv
  · rcases List.mem_append.1 hv with hv | hv
    · rcases List.mem_append.1 hv with hv | hv
      · exact one_cI _ v hv
      · simp at hv; subst hv; rfl
    · exact one_cP _ v hv
  · simp at hv; subst hv; rfl
theorem cC_eq {a b : CV} : cC a = cC b ↔ a = b := by
  constructor
  · intro h
    have h1 : cI a.id = cI b.id := by have := congrArg (fun l => (l.drop 0).take 16) h; exact this
    have h2 : [Value.bool a.near] = [Value.bool b.near] := by have := congrArg (fun l => (l.drop 16).take 1) h; exact this
    have h3 : cP a.p = cP b.p := by have := congrArg (fun l => (l.drop 17).take 17) h; exact this
    have h4 : [Value.int .i64 a.n] = [Value.int .i64 b.n] := by have := congrArg (fun l => (l.drop 34).take 1) h; exact this
    obtain ⟨ai, an, ap, a4⟩ := a
    obtain ⟨bi, bn, bp, b4⟩ := b
    simp only at h1 h2 h3 h4
    have h1 := cI_eq.1 h1
    have h3 := cP_eq.1 h3
    simp at h2 h4
    subst h1 h2 h3 h4
    rfl
  · intro h; rw [h]
abbrev fC (xs : List CV) : List Value := xs.flatMap cC
theorem fC_length (xs : List CV) : (fC xs).length = xs.length * 35 := fG_length cC_length xs
/-- a neighbour -/
structure NV where
  n : Int
  id : IDV
abbrev cN (x : NV) : List Value := .int .i64 x.n :: cI x.id
def zNe : NV := ⟨0, zI⟩
theorem cN_length (x : NV) : (cN x).length = 17 := rfl
theorem one_cN (x : NV) : ∀ v, v ∈ cN x → v.oneCell' = true := by
  intro v hv
  rcases List.mem_cons.1 hv with rfl | hv
  · rfl
  · exact one_cI _ v hv
abbrev fN (xs : List NV) : List Value := xs.flatMap cN
theorem fN_length (xs : List NV) : (fN xs).length = xs.length * 17 := fG_length cN_length xs
theorem zNe_ : zeroT Try.prog 53 = some (.agg (cN zNe).toArray) := by kernel_rfl
theorem cellsB_ : Try.prog.cellsOf 4 = 1 := by kernel_rfl
theorem cellsP_ : Try.prog.cellsOf 38 = 17 := by kernel_rfl
theorem lits_bool {b : Bool} {t d : Nat} (hu : Try.prog.underlying t = some .bool) : Try.prog.keyLits (d + 1) t [.bool b] = some [.bool b] := by
  simp only [Program.keyLits, hu]
def lPV (p : PV) : List Lit := [(lI p.who).flatten, [.int .i64 p.n]].flatten
theorem litsP_ (p : PV) (hn : okN p.n) (d : Nat) : Try.prog.keyLits (d + 3) 38 (cP p) = some (lPV p) := Ty.litsP p hn d
theorem fkC40 : fieldsK Try.prog 40 = some [(23, 0), (4, 16), (38, 17), (3, 34)] := by kernel_rfl
theorem cellsC40 : Try.prog.cellsOf 40 = 35 := by kernel_rfl
theorem litsC40 (c : CV) (hp : okN c.p.n) (hn : okN c.n) (d : Nat) : Try.prog.keyLits (d + 4) 40 (cC c) = some ([(lI c.id).flatten, [.bool c.near], lPV c.p, [.int .i64 c.n]] : List (List Lit)).flatten := by
  refine lits_struct (d := d + 3) fkC40 (by rw [cellsC40]; rfl) ?_
  have h1 := Ty.litsI c.id (d + 1)
  have h2 : Try.prog.keyLits (d + 3) 4 [.bool c.near] = some [.bool c.near] := lits_bool Ty.u4
  have h3 := litsP_ c.p hp (d)
  have h4 : Try.prog.keyLits (d + 3) 3 [.int .i64 c.n] = some [.int .i64 c.n] := lits_int (d := d + 2) Ty.u3 hn
  simp only [List.mapM_cons, List.mapM_nil, Ty.c3, Ty.c23, cellsB_, cellsP_]
  rw [show ((cC c).drop 0).take 16 = cI c.id from rfl, show ((cC c).drop 16).take 1 = [.bool c.near] from rfl, show ((cC c).drop 17).take 17 = cP c.p from rfl, show ((cC c).drop 34).take 1 = [.int .i64 c.n] from rfl, h1, h2, h3, h4]; rfl
theorem keyC40 (c : CV) (hp : okN c.p.n) (hn : okN c.n) : ∃ l, keyOf Try.prog 40 (.agg (cC c).toArray) = some l := key_of Ty.size_ (by kernel_rfl) (by kernel_rfl) (by rw [cellsC40]; rfl) (litsC40 c hp hn _)
theorem QC40 : EqL Try.prog 40 := EqL.of (m := 6) (by kernel_rfl) (by omega) (by kernel_rfl) (by kernel_rfl) (by kernel_rfl)
theorem zC40 : zeroT Try.prog 40 = some (.agg (cC zC).toArray) := by kernel_rfl
theorem fkC42 : fieldsK Try.prog 42 = some [(23, 0), (4, 16), (38, 17), (3, 34)] := by kernel_rfl
theorem cellsC42 : Try.prog.cellsOf 42 = 35 := by kernel_rfl
theorem litsC42 (c : CV) (hp : okN c.p.n) (hn : okN c.n) (d : Nat) : Try.prog.keyLits (d + 4) 42 (cC c) = some ([(lI c.id).flatten, [.bool c.near], lPV c.p, [.int .i64 c.n]] : List (List Lit)).flatten := by
  refine lits_struct (d := d + 3) fkC42 (by rw [cellsC42]; rfl) ?_
  have h1 := Ty.litsI c.id (d + 1)
  have h2 : Try.prog.keyLits (d + 3) 4 [.bool c.near] = some [.bool c.near] := lits_bool Ty.u4
  have h3 := litsP_ c.p hp (d)
  have h4 : Try.prog.keyLits (d + 3) 3 [.int .i64 c.n] = some [.int .i64 c.n] := lits_int (d := d + 2) Ty.u3 hn
  simp only [List.mapM_cons, List.mapM_nil, Ty.c3, Ty.c23, cellsB_, cellsP_]
  rw [show ((cC c).drop 0).take 16 = cI c.id from rfl, show ((cC c).drop 16).take 1 = [.bool c.near] from rfl, show ((cC c).drop 17).take 17 = cP c.p from rfl, show ((cC c).drop 34).take 1 = [.int .i64 c.n] from rfl, h1, h2, h3, h4]; rfl
theorem keyC42 (c : CV) (hp : okN c.p.n) (hn : okN c.n) : ∃ l, keyOf Try.prog 42 (.agg (cC c).toArray) = some l := key_of Ty.size_ (by kernel_rfl) (by kernel_rfl) (by rw [cellsC42]; rfl) (litsC42 c hp hn _)
theorem QC42 : EqL Try.prog 42 := EqL.of (m := 6) (by kernel_rfl) (by omega) (by kernel_rfl) (by kernel_rfl) (by kernel_rfl)
theorem zC42 : zeroT Try.prog 42 = some (.agg (cC zC).toArray) := by kernel_rfl
/-- is a chosen ahead of b, for d? -/
noncomputable def befV (d : IDV) (a b : CV) : Bool :=
  if a.id ≠ b.id then decide (kN d a.id < kN d b.id)
  else if a.n = -1 ∨ b.n = -1 then decide (a.n = -1 ∧ b.n ≠ -1)
  else if a.near ≠ b.near then a.near
  else if a.near = true then decide (a.n < b.n)
  else if a.p ≠ b.p then ltP a.p b.p
  else decide (a.n < b.n)

theorem lt_irr {n : Int} : (n < n) = False := by simp

set_option maxHeartbeats 1000000 in
theorem before_spec (d : IDV) (a b : CV) (w : World) (ha : okC a) (hb : okC b) :
    Calls Try.prog 21 [.agg (cI d).toArray, .agg (cC a).toArray, .agg (cC b).toArray].toArray w fun r w' => r = .returned (.bool (befV d a b)) ∧ Bel w w' := by
  obtain ⟨ai, ar, ap, an⟩ := a
  obtain ⟨bi, br, bp, bn⟩ := b
  obtain ⟨hap, han⟩ := ha
  obtain ⟨hbp, hbn⟩ := hb
  simp only at hap hbp
  refine calls_of_J (args := [.agg (cI d).toArray, .agg (cC (⟨ai, ar, ap, an⟩ : CV)).toArray, .agg (cC (⟨bi, br, bp, bn⟩ : CV)).toArray]) (e := [(0, .agg (cI d).toArray), (1, .agg (cC (⟨ai, ar, ap, an⟩ : CV)).toArray), (2, .agg (cC (⟨bi, br, bp, bn⟩ : CV)).toArray)]) Try.func21 rfl rfl ⟨rfl, rfl, rfl, trivial⟩ (St.start w) ?_
  refine JC.seq (fun K0 hK0 => ?_)
  refine JC.region ?_
  refine J.box rfl rfl rfl (fun b3 => ?_)
  refine J.box rfl rfl rfl (fun b4 => ?_)
  refine J.box rfl rfl rfl (fun b5 => ?_)
  refine J.assign rfl rfl ?_
  refine J.nil ?_
  refine JX.thenN (hK0 _ _ ?_)
  refine JC.seq (fun K1 hK1 => ?_)
  refine JC.block ?_
  refine JC.seq (fun K2 hK2 => ?_)
  refine JC.region ?_
  refine J.fieldAddr Ty.fd40_0 rfl rfl ?_
  refine J.loadOA (vs := cI ai) Ty.a23 Ty.s23 rfl (by repeat first | exact .head _ | apply List.Mem.tail | apply List.mem_append_right) (by exact rfl) rfl rfl ?_
  refine J.fieldAddr Ty.fd40_0 rfl rfl ?_
  refine J.loadOA (vs := cI bi) Ty.a23 Ty.s23 rfl (by repeat first | exact .head _ | apply List.Mem.tail | apply List.mem_append_right) (by exact rfl) rfl rfl ?_
  refine J.neI Ty.QI Ty.keyI rfl rfl rfl ?_
  refine J.assign rfl rfl ?_
  refine J.nil ?_
  refine JX.thenN (hK2 _ _ ?_)
  refine JC.cond rfl (fun h0 => ?_) (fun h0 => ?_)
  · skip
    try simp only [decide_eq_true_eq, decide_eq_false_iff_not, ne_eq, Bool.not_eq_true', Bool.not_eq_false', bne_iff_ne, Decidable.not_not, beq_iff_eq, Bool.not_eq_true, Bool.not_eq_false, beq_eq_false_iff_ne, bne_eq_false_iff_eq] at h0
    refine JC.seq (fun K3 hK3 => ?_)
    refine JC.region ?_
    refine J.loadOA (vs := cI d) Ty.a23 Ty.s23 rfl (by repeat first | exact .head _ | apply List.Mem.tail | apply List.mem_append_right) (by exact rfl) rfl rfl ?_
    refine J.fieldAddr Ty.fd40_0 rfl rfl ?_
    refine J.loadOA (vs := cI ai) Ty.a23 Ty.s23 rfl (by repeat first | exact .head _ | apply List.Mem.tail | apply List.mem_append_right) (by exact rfl) rfl rfl ?_
    refine J.fieldAddr Ty.fd40_0 rfl rfl ?_
    refine J.loadOA (vs := cI bi) Ty.a23 Ty.s23 rfl (by repeat first | exact .head _ | apply List.Mem.tail | apply List.mem_append_right) (by exact rfl) rfl rfl ?_
    refine J.callB (v := .bool (decide (kN d ai < kN d bi))) (fun w1 w2 hw hb => hw.step hb) Ty.bd47 rfl rfl (fun w1 hw => nearer_spec d ai bi w1) ?_
    refine J.assign rfl rfl ?_
    refine J.nil ?_
    refine JX.thenN (hK3 _ _ ?_)
    refine JC.ret ?_
    refine JX.blockR ?_
    refine JX.thenR ?_
    refine JX.ret1 rfl rfl (fun w hw => ?_)
    exact ⟨congrArg (fun x => Ending.returned (.bool x)) (by rw [Bool.eq_iff_iff]; simp [befV, h0]), (hw.drop (List.nil_sublist _)).below⟩
  · skip
    try simp only [decide_eq_true_eq, decide_eq_false_iff_not, ne_eq, Bool.not_eq_true', Bool.not_eq_false', bne_iff_ne, Decidable.not_not, beq_iff_eq, Bool.not_eq_true, Bool.not_eq_false, beq_eq_false_iff_ne, bne_eq_false_iff_eq] at h0
    refine JC.seq (fun K4 hK4 => ?_)
    by_cases ha1 : an = -1
    · skip
      refine JC.region ?_
      refine J.fieldAddr Ty.fd40_3 rfl rfl ?_
      refine J.loadO Ty.a3 rfl (by repeat first | exact .head _ | apply List.Mem.tail | apply List.mem_append_right) (by exact rfl) rfl ?_
      refine J.bin rfl rfl rfl rfl ?_
      refine J.name 22 rfl (show _ = Value.bool true by simp [ha1]) ?_
      refine J.move rfl rfl ?_
      first | refine J.skip rfl rfl rfl rfl rfl ?_ | refine J.skipU rfl rfl rfl rfl ?_ | (refine J.unguard rfl rfl rfl ?_; refine J.fieldAddr Ty.fd40_3 rfl rfl ?_)
      first | refine J.skip rfl rfl rfl rfl rfl ?_ | refine J.skipU rfl rfl rfl rfl ?_ | (refine J.unguard rfl rfl rfl ?_; refine J.loadO Ty.a3 rfl (by repeat first | exact .head _ | apply List.Mem.tail | apply List.mem_append_right) (by exact rfl) rfl ?_)
      first | refine J.skip rfl rfl rfl rfl rfl ?_ | refine J.skipU rfl rfl rfl rfl ?_ | (refine J.unguard rfl rfl rfl ?_; refine J.bin rfl rfl rfl rfl ?_)
      (first | refine J.pickT rfl rfl rfl ?_ | refine J.pickF rfl rfl rfl ?_)
      refine J.assign rfl rfl ?_
      refine J.nil ?_
      refine JX.thenN (hK4 _ _ ?_)
      first | refine JC.condT rfl ?_ | refine JC.cond rfl (fun _ => ?_) (fun h => by first | (exfalso; simp at h; omega) | (simp at h))
      refine JC.seq (fun K5 hK5 => ?_)
      refine JC.region ?_
      refine J.fieldAddr Ty.fd40_3 rfl rfl ?_
      refine J.loadO Ty.a3 rfl (by repeat first | exact .head _ | apply List.Mem.tail | apply List.mem_append_right) (by exact rfl) rfl ?_
      refine J.bin rfl rfl rfl rfl ?_
      refine J.name 30 rfl (show _ = Value.bool true by simp [ha1]) ?_
      refine J.move rfl rfl ?_
      first | refine J.skip rfl rfl rfl rfl rfl ?_ | refine J.skipU rfl rfl rfl rfl ?_ | (refine J.unguard rfl rfl rfl ?_; refine J.fieldAddr Ty.fd40_3 rfl rfl ?_)
      first | refine J.skip rfl rfl rfl rfl rfl ?_ | refine J.skipU rfl rfl rfl rfl ?_ | (refine J.unguard rfl rfl rfl ?_; refine J.loadO Ty.a3 rfl (by repeat first | exact .head _ | apply List.Mem.tail | apply List.mem_append_right) (by exact rfl) rfl ?_)
      first | refine J.skip rfl rfl rfl rfl rfl ?_ | refine J.skipU rfl rfl rfl rfl ?_ | (refine J.unguard rfl rfl rfl ?_; refine J.bin rfl rfl rfl rfl ?_)
      (first | refine J.pickT rfl rfl rfl ?_ | refine J.pickF rfl rfl rfl ?_)
      refine J.assign rfl rfl ?_
      refine J.nil ?_
      refine JX.thenN (hK5 _ _ ?_)
      refine JC.ret ?_
      refine JX.blockR ?_
      refine JX.thenR ?_
      refine JX.ret1 rfl rfl (fun w hw => ?_)
      exact ⟨congrArg (fun x => Ending.returned (.bool x)) (by rw [Bool.eq_iff_iff]; simp [befV, h0, ha1]), (hw.drop (List.nil_sublist _)).below⟩
    · skip
      refine JC.region ?_
      refine J.fieldAddr Ty.fd40_3 rfl rfl ?_
      refine J.loadO Ty.a3 rfl (by repeat first | exact .head _ | apply List.Mem.tail | apply List.mem_append_right) (by exact rfl) rfl ?_
      refine J.bin rfl rfl rfl rfl ?_
      refine J.name 22 rfl (show _ = Value.bool false by simp [ha1]) ?_
      refine J.move rfl rfl ?_
      first | refine J.skip rfl rfl rfl rfl rfl ?_ | refine J.skipU rfl rfl rfl rfl ?_ | (refine J.unguard rfl rfl rfl ?_; refine J.fieldAddr Ty.fd40_3 rfl rfl ?_)
      first | refine J.skip rfl rfl rfl rfl rfl ?_ | refine J.skipU rfl rfl rfl rfl ?_ | (refine J.unguard rfl rfl rfl ?_; refine J.loadO Ty.a3 rfl (by repeat first | exact .head _ | apply List.Mem.tail | apply List.mem_append_right) (by exact rfl) rfl ?_)
      first | refine J.skip rfl rfl rfl rfl rfl ?_ | refine J.skipU rfl rfl rfl rfl ?_ | (refine J.unguard rfl rfl rfl ?_; refine J.bin rfl rfl rfl rfl ?_)
      (first | refine J.pickT rfl rfl rfl ?_ | refine J.pickF rfl rfl rfl ?_)
      refine J.assign rfl rfl ?_
      refine J.nil ?_
      refine JX.thenN (hK4 _ _ ?_)
      refine JC.cond rfl (fun h1 => ?_) (fun h1 => ?_)
      · skip
        try simp only [decide_eq_true_eq, decide_eq_false_iff_not, ne_eq, Bool.not_eq_true', Bool.not_eq_false', bne_iff_ne, Decidable.not_not, beq_iff_eq, Bool.not_eq_true, Bool.not_eq_false, beq_eq_false_iff_ne, bne_eq_false_iff_eq] at h1
        refine JC.seq (fun K6 hK6 => ?_)
        refine JC.region ?_
        refine J.fieldAddr Ty.fd40_3 rfl rfl ?_
        refine J.loadO Ty.a3 rfl (by repeat first | exact .head _ | apply List.Mem.tail | apply List.mem_append_right) (by exact rfl) rfl ?_
        refine J.bin rfl rfl rfl rfl ?_
        refine J.name 30 rfl (show _ = Value.bool false by simp [ha1]) ?_
        refine J.move rfl rfl ?_
        first | refine J.skip rfl rfl rfl rfl rfl ?_ | refine J.skipU rfl rfl rfl rfl ?_ | (refine J.unguard rfl rfl rfl ?_; refine J.fieldAddr Ty.fd40_3 rfl rfl ?_)
        first | refine J.skip rfl rfl rfl rfl rfl ?_ | refine J.skipU rfl rfl rfl rfl ?_ | (refine J.unguard rfl rfl rfl ?_; refine J.loadO Ty.a3 rfl (by repeat first | exact .head _ | apply List.Mem.tail | apply List.mem_append_right) (by exact rfl) rfl ?_)
        first | refine J.skip rfl rfl rfl rfl rfl ?_ | refine J.skipU rfl rfl rfl rfl ?_ | (refine J.unguard rfl rfl rfl ?_; refine J.bin rfl rfl rfl rfl ?_)
        (first | refine J.pickT rfl rfl rfl ?_ | refine J.pickF rfl rfl rfl ?_)
        refine J.assign rfl rfl ?_
        refine J.nil ?_
        refine JX.thenN (hK6 _ _ ?_)
        refine JC.ret ?_
        refine JX.blockR ?_
        refine JX.thenR ?_
        refine JX.ret1 rfl rfl (fun w hw => ?_)
        exact ⟨congrArg (fun x => Ending.returned (.bool x)) (by rw [Bool.eq_iff_iff]; simp [befV, h0, ha1, h1]), (hw.drop (List.nil_sublist _)).below⟩
      · skip
        try simp only [decide_eq_true_eq, decide_eq_false_iff_not, ne_eq, Bool.not_eq_true', Bool.not_eq_false', bne_iff_ne, Decidable.not_not, beq_iff_eq, Bool.not_eq_true, Bool.not_eq_false, beq_eq_false_iff_ne, bne_eq_false_iff_eq] at h1
        refine JC.seq (fun K7 hK7 => ?_)
        refine JC.region ?_
        refine J.fieldAddr Ty.fd40_1 rfl rfl ?_
        refine J.loadO Ty.a4 rfl (by repeat first | exact .head _ | apply List.Mem.tail | apply List.mem_append_right) (by exact rfl) rfl ?_
        refine J.fieldAddr Ty.fd40_1 rfl rfl ?_
        refine J.loadO Ty.a4 rfl (by repeat first | exact .head _ | apply List.Mem.tail | apply List.mem_append_right) (by exact rfl) rfl ?_
        refine J.eqBool (.inr rfl) Ty.u4 rfl rfl rfl ?_
        refine J.assign rfl rfl ?_
        refine J.nil ?_
        refine JX.thenN (hK7 _ _ ?_)
        refine JC.cond rfl (fun h2 => ?_) (fun h2 => ?_)
        · skip
          try simp only [decide_eq_true_eq, decide_eq_false_iff_not, ne_eq, Bool.not_eq_true', Bool.not_eq_false', bne_iff_ne, Decidable.not_not, beq_iff_eq, Bool.not_eq_true, Bool.not_eq_false, beq_eq_false_iff_ne, bne_eq_false_iff_eq] at h2
          refine JC.seq (fun K8 hK8 => ?_)
          refine JC.region ?_
          refine J.fieldAddr Ty.fd40_1 rfl rfl ?_
          refine J.loadO Ty.a4 rfl (by repeat first | exact .head _ | apply List.Mem.tail | apply List.mem_append_right) (by exact rfl) rfl ?_
          refine J.assign rfl rfl ?_
          refine J.nil ?_
          refine JX.thenN (hK8 _ _ ?_)
          refine JC.ret ?_
          refine JX.blockR ?_
          refine JX.thenR ?_
          refine JX.ret1 rfl rfl (fun w hw => ?_)
          exact ⟨congrArg (fun x => Ending.returned (.bool x)) (by rw [Bool.eq_iff_iff]; simp [befV, h0, ha1, h1, h2]), (hw.drop (List.nil_sublist _)).below⟩
        · skip
          try simp only [decide_eq_true_eq, decide_eq_false_iff_not, ne_eq, Bool.not_eq_true', Bool.not_eq_false', bne_iff_ne, Decidable.not_not, beq_iff_eq, Bool.not_eq_true, Bool.not_eq_false, beq_eq_false_iff_ne, bne_eq_false_iff_eq] at h2
          refine JC.seq (fun K9 hK9 => ?_)
          refine JC.region ?_
          refine J.fieldAddr Ty.fd40_1 rfl rfl ?_
          refine J.loadO Ty.a4 rfl (by repeat first | exact .head _ | apply List.Mem.tail | apply List.mem_append_right) (by exact rfl) rfl ?_
          refine J.assign rfl rfl ?_
          refine J.nil ?_
          refine JX.thenN (hK9 _ _ ?_)
          refine JC.cond rfl (fun h3 => ?_) (fun h3 => ?_)
          · skip
            try simp only [decide_eq_true_eq, decide_eq_false_iff_not, ne_eq, Bool.not_eq_true', Bool.not_eq_false', bne_iff_ne, Decidable.not_not, beq_iff_eq, Bool.not_eq_true, Bool.not_eq_false, beq_eq_false_iff_ne, bne_eq_false_iff_eq] at h3
            refine JC.seq (fun K10 hK10 => ?_)
            refine JC.region ?_
            refine J.fieldAddr Ty.fd40_3 rfl rfl ?_
            refine J.loadO Ty.a3 rfl (by repeat first | exact .head _ | apply List.Mem.tail | apply List.mem_append_right) (by exact rfl) rfl ?_
            refine J.fieldAddr Ty.fd40_3 rfl rfl ?_
            refine J.loadO Ty.a3 rfl (by repeat first | exact .head _ | apply List.Mem.tail | apply List.mem_append_right) (by exact rfl) rfl ?_
            refine J.bin rfl rfl rfl rfl ?_
            refine J.assign rfl rfl ?_
            refine J.nil ?_
            refine JX.thenN (hK10 _ _ ?_)
            refine JC.ret ?_
            refine JX.blockR ?_
            refine JX.thenR ?_
            refine JX.ret1 rfl rfl (fun w hw => ?_)
            exact ⟨congrArg (fun x => Ending.returned (.bool x)) (by rw [Bool.eq_iff_iff]; simp [befV, h0, ha1, h1, h2.symm, h3]), (hw.drop (List.nil_sublist _)).below⟩
          · skip
            try simp only [decide_eq_true_eq, decide_eq_false_iff_not, ne_eq, Bool.not_eq_true', Bool.not_eq_false', bne_iff_ne, Decidable.not_not, beq_iff_eq, Bool.not_eq_true, Bool.not_eq_false, beq_eq_false_iff_ne, bne_eq_false_iff_eq] at h3
            refine JC.seq (fun K11 hK11 => ?_)
            refine JC.region ?_
            refine J.fieldAddr Ty.fd40_2 rfl rfl ?_
            refine J.loadOA (vs := cP ap) Ty.a38 Ty.s38 rfl (by repeat first | exact .head _ | apply List.Mem.tail | apply List.mem_append_right) (by exact rfl) rfl rfl ?_
            refine J.fieldAddr Ty.fd40_2 rfl rfl ?_
            refine J.loadOA (vs := cP bp) Ty.a38 Ty.s38 rfl (by repeat first | exact .head _ | apply List.Mem.tail | apply List.mem_append_right) (by exact rfl) rfl rfl ?_
            refine J.neP Ty.QP Ty.keyP rfl rfl (by assumption) (by assumption) rfl ?_
            refine J.assign rfl rfl ?_
            refine J.nil ?_
            refine JX.thenN (hK11 _ _ ?_)
            refine JC.cond rfl (fun h4 => ?_) (fun h4 => ?_)
            · skip
              try simp only [decide_eq_true_eq, decide_eq_false_iff_not, ne_eq, Bool.not_eq_true', Bool.not_eq_false', bne_iff_ne, Decidable.not_not, beq_iff_eq, Bool.not_eq_true, Bool.not_eq_false, beq_eq_false_iff_ne, bne_eq_false_iff_eq] at h4
              refine JC.seq (fun K12 hK12 => ?_)
              refine JC.region ?_
              refine J.fieldAddr Ty.fd40_2 rfl rfl ?_
              refine J.loadOA (vs := cP ap) Ty.a38 Ty.s38 rfl (by repeat first | exact .head _ | apply List.Mem.tail | apply List.mem_append_right) (by exact rfl) rfl rfl ?_
              refine J.fieldAddr Ty.fd40_2 rfl rfl ?_
              refine J.loadOA (vs := cP bp) Ty.a38 Ty.s38 rfl (by repeat first | exact .head _ | apply List.Mem.tail | apply List.mem_append_right) (by exact rfl) rfl rfl ?_
              refine J.callB (v := .bool (ltP ap bp)) (fun w1 w2 hw hb => hw.step hb) Ty.bd48 rfl rfl (fun w1 hw => tless_spec ap bp w1) ?_
              refine J.assign rfl rfl ?_
              refine J.nil ?_
              refine JX.thenN (hK12 _ _ ?_)
              refine JC.ret ?_
              refine JX.blockR ?_
              refine JX.thenR ?_
              refine JX.ret1 rfl rfl (fun w hw => ?_)
              exact ⟨congrArg (fun x => Ending.returned (.bool x)) (by rw [Bool.eq_iff_iff]; simp [befV, h0, ha1, h1, h2.symm, h3, h4]), (hw.drop (List.nil_sublist _)).below⟩
            · skip
              try simp only [decide_eq_true_eq, decide_eq_false_iff_not, ne_eq, Bool.not_eq_true', Bool.not_eq_false', bne_iff_ne, Decidable.not_not, beq_iff_eq, Bool.not_eq_true, Bool.not_eq_false, beq_eq_false_iff_ne, bne_eq_false_iff_eq] at h4
              refine JC.skip ?_
              refine JX.blockN ?_
              refine JX.thenN (hK1 _ _ ?_)
              refine JC.seq (fun K13 hK13 => ?_)
              refine JC.region ?_
              refine J.fieldAddr Ty.fd40_3 rfl rfl ?_
              refine J.loadO Ty.a3 rfl (by repeat first | exact .head _ | apply List.Mem.tail | apply List.mem_append_right) (by exact rfl) rfl ?_
              refine J.fieldAddr Ty.fd40_3 rfl rfl ?_
              refine J.loadO Ty.a3 rfl (by repeat first | exact .head _ | apply List.Mem.tail | apply List.mem_append_right) (by exact rfl) rfl ?_
              refine J.bin rfl rfl rfl rfl ?_
              refine J.assign rfl rfl ?_
              refine J.nil ?_
              refine JX.thenN (hK13 _ _ ?_)
              refine JC.ret ?_
              refine JX.ret1 rfl rfl (fun w hw => ?_)
              exact ⟨congrArg (fun x => Ending.returned (.bool x)) (by rw [Bool.eq_iff_iff]; simp [befV, h0, ha1, h1, h2.symm, h3, h4]), (hw.drop (List.nil_sublist _)).below⟩

set_option maxHeartbeats 1000000 in
theorem rbefore_spec (d : IDV) (a b : CV) (w : World) (ha : okC a) (hb : okC b) :
    Calls Try.prog 22 [.agg (cI d).toArray, .agg (cC a).toArray, .agg (cC b).toArray].toArray w fun r w' => r = .returned (.bool (befV d a b)) ∧ Bel w w' := by
  obtain ⟨ai, ar, ap, an⟩ := a
  obtain ⟨bi, br, bp, bn⟩ := b
  obtain ⟨hap, han⟩ := ha
  obtain ⟨hbp, hbn⟩ := hb
  simp only at hap hbp
  refine calls_of_J (args := [.agg (cI d).toArray, .agg (cC (⟨ai, ar, ap, an⟩ : CV)).toArray, .agg (cC (⟨bi, br, bp, bn⟩ : CV)).toArray]) (e := [(0, .agg (cI d).toArray), (1, .agg (cC (⟨ai, ar, ap, an⟩ : CV)).toArray), (2, .agg (cC (⟨bi, br, bp, bn⟩ : CV)).toArray)]) Try.func22 rfl rfl ⟨rfl, rfl, rfl, trivial⟩ (St.start w) ?_
  refine JC.seq (fun K0 hK0 => ?_)
  refine JC.region ?_
  refine J.box rfl rfl rfl (fun b3 => ?_)
  refine J.box rfl rfl rfl (fun b4 => ?_)
  refine J.box rfl rfl rfl (fun b5 => ?_)
  refine J.assign rfl rfl ?_
  refine J.nil ?_
  refine JX.thenN (hK0 _ _ ?_)
  refine JC.seq (fun K1 hK1 => ?_)
  refine JC.seq (fun K2 hK2 => ?_)
  refine JC.region ?_
  refine J.fieldAddr Ty.fd42_0 rfl rfl ?_
  refine J.loadOA (vs := cI ai) Ty.a23 Ty.s23 rfl (by repeat first | exact .head _ | apply List.Mem.tail | apply List.mem_append_right) (by exact rfl) rfl rfl ?_
  refine J.fieldAddr Ty.fd42_0 rfl rfl ?_
  refine J.loadOA (vs := cI bi) Ty.a23 Ty.s23 rfl (by repeat first | exact .head _ | apply List.Mem.tail | apply List.mem_append_right) (by exact rfl) rfl rfl ?_
  refine J.neI Ty.QI Ty.keyI rfl rfl rfl ?_
  refine J.nil ?_
  refine JX.thenN (hK2 _ _ ?_)
  refine JC.cond rfl (fun h0 => ?_) (fun h0 => ?_)
  · skip
    try simp only [decide_eq_true_eq, decide_eq_false_iff_not, ne_eq, Bool.not_eq_true', Bool.not_eq_false', bne_iff_ne, Decidable.not_not, beq_iff_eq, Bool.not_eq_true, Bool.not_eq_false, beq_eq_false_iff_ne, bne_eq_false_iff_eq] at h0
    refine JC.seq (fun K3 hK3 => ?_)
    refine JC.region ?_
    refine J.loadOA (vs := cI d) Ty.a23 Ty.s23 rfl (by repeat first | exact .head _ | apply List.Mem.tail | apply List.mem_append_right) (by exact rfl) rfl rfl ?_
    refine J.fieldAddr Ty.fd42_0 rfl rfl ?_
    refine J.loadOA (vs := cI ai) Ty.a23 Ty.s23 rfl (by repeat first | exact .head _ | apply List.Mem.tail | apply List.mem_append_right) (by exact rfl) rfl rfl ?_
    refine J.fieldAddr Ty.fd42_0 rfl rfl ?_
    refine J.loadOA (vs := cI bi) Ty.a23 Ty.s23 rfl (by repeat first | exact .head _ | apply List.Mem.tail | apply List.mem_append_right) (by exact rfl) rfl rfl ?_
    refine J.callB (v := .bool (decide (kN d ai < kN d bi))) (fun w1 w2 hw hb => hw.step hb) Ty.bd24 rfl rfl (fun w1 hw => rnearer_spec d ai bi w1) ?_
    refine J.assign rfl rfl ?_
    refine J.nil ?_
    refine JX.thenN (hK3 _ _ ?_)
    refine JC.ret ?_
    refine JX.thenR ?_
    refine JX.ret1 rfl rfl (fun w hw => ?_)
    exact ⟨congrArg (fun x => Ending.returned (.bool x)) (by rw [Bool.eq_iff_iff]; simp [befV, h0]), (hw.drop (List.nil_sublist _)).below⟩
  · skip
    try simp only [decide_eq_true_eq, decide_eq_false_iff_not, ne_eq, Bool.not_eq_true', Bool.not_eq_false', bne_iff_ne, Decidable.not_not, beq_iff_eq, Bool.not_eq_true, Bool.not_eq_false, beq_eq_false_iff_ne, bne_eq_false_iff_eq] at h0
    refine JC.skip ?_
    refine JX.thenN (hK1 _ _ ?_)
    refine JC.seq (fun K4 hK4 => ?_)
    refine JC.seq (fun K5 hK5 => ?_)
    by_cases ha1 : an = -1
    · skip
      refine JC.region ?_
      refine J.fieldAddr Ty.fd42_3 rfl rfl ?_
      refine J.loadO Ty.a3 rfl (by repeat first | exact .head _ | apply List.Mem.tail | apply List.mem_append_right) (by exact rfl) rfl ?_
      refine J.bin rfl rfl rfl rfl ?_
      refine J.name 20 rfl (show _ = Value.bool true by simp [ha1]) ?_
      refine J.move rfl rfl ?_
      first | refine J.skip rfl rfl rfl rfl rfl ?_ | refine J.skipU rfl rfl rfl rfl ?_ | (refine J.unguard rfl rfl rfl ?_; refine J.fieldAddr Ty.fd42_3 rfl rfl ?_)
      first | refine J.skip rfl rfl rfl rfl rfl ?_ | refine J.skipU rfl rfl rfl rfl ?_ | (refine J.unguard rfl rfl rfl ?_; refine J.loadO Ty.a3 rfl (by repeat first | exact .head _ | apply List.Mem.tail | apply List.mem_append_right) (by exact rfl) rfl ?_)
      first | refine J.skip rfl rfl rfl rfl rfl ?_ | refine J.skipU rfl rfl rfl rfl ?_ | (refine J.unguard rfl rfl rfl ?_; refine J.bin rfl rfl rfl rfl ?_)
      (first | refine J.pickT rfl rfl rfl ?_ | refine J.pickF rfl rfl rfl ?_)
      refine J.nil ?_
      refine JX.thenN (hK5 _ _ ?_)
      first | refine JC.condT rfl ?_ | refine JC.cond rfl (fun _ => ?_) (fun h => by first | (exfalso; simp at h; omega) | (simp at h))
      refine JC.seq (fun K6 hK6 => ?_)
      refine JC.region ?_
      refine J.fieldAddr Ty.fd42_3 rfl rfl ?_
      refine J.loadO Ty.a3 rfl (by repeat first | exact .head _ | apply List.Mem.tail | apply List.mem_append_right) (by exact rfl) rfl ?_
      refine J.bin rfl rfl rfl rfl ?_
      refine J.name 28 rfl (show _ = Value.bool true by simp [ha1]) ?_
      refine J.move rfl rfl ?_
      first | refine J.skip rfl rfl rfl rfl rfl ?_ | refine J.skipU rfl rfl rfl rfl ?_ | (refine J.unguard rfl rfl rfl ?_; refine J.fieldAddr Ty.fd42_3 rfl rfl ?_)
      first | refine J.skip rfl rfl rfl rfl rfl ?_ | refine J.skipU rfl rfl rfl rfl ?_ | (refine J.unguard rfl rfl rfl ?_; refine J.loadO Ty.a3 rfl (by repeat first | exact .head _ | apply List.Mem.tail | apply List.mem_append_right) (by exact rfl) rfl ?_)
      first | refine J.skip rfl rfl rfl rfl rfl ?_ | refine J.skipU rfl rfl rfl rfl ?_ | (refine J.unguard rfl rfl rfl ?_; refine J.bin rfl rfl rfl rfl ?_)
      (first | refine J.pickT rfl rfl rfl ?_ | refine J.pickF rfl rfl rfl ?_)
      refine J.assign rfl rfl ?_
      refine J.nil ?_
      refine JX.thenN (hK6 _ _ ?_)
      refine JC.ret ?_
      refine JX.thenR ?_
      refine JX.ret1 rfl rfl (fun w hw => ?_)
      exact ⟨congrArg (fun x => Ending.returned (.bool x)) (by rw [Bool.eq_iff_iff]; simp [befV, h0, ha1]), (hw.drop (List.nil_sublist _)).below⟩
    · skip
      refine JC.region ?_
      refine J.fieldAddr Ty.fd42_3 rfl rfl ?_
      refine J.loadO Ty.a3 rfl (by repeat first | exact .head _ | apply List.Mem.tail | apply List.mem_append_right) (by exact rfl) rfl ?_
      refine J.bin rfl rfl rfl rfl ?_
      refine J.name 20 rfl (show _ = Value.bool false by simp [ha1]) ?_
      refine J.move rfl rfl ?_
      first | refine J.skip rfl rfl rfl rfl rfl ?_ | refine J.skipU rfl rfl rfl rfl ?_ | (refine J.unguard rfl rfl rfl ?_; refine J.fieldAddr Ty.fd42_3 rfl rfl ?_)
      first | refine J.skip rfl rfl rfl rfl rfl ?_ | refine J.skipU rfl rfl rfl rfl ?_ | (refine J.unguard rfl rfl rfl ?_; refine J.loadO Ty.a3 rfl (by repeat first | exact .head _ | apply List.Mem.tail | apply List.mem_append_right) (by exact rfl) rfl ?_)
      first | refine J.skip rfl rfl rfl rfl rfl ?_ | refine J.skipU rfl rfl rfl rfl ?_ | (refine J.unguard rfl rfl rfl ?_; refine J.bin rfl rfl rfl rfl ?_)
      (first | refine J.pickT rfl rfl rfl ?_ | refine J.pickF rfl rfl rfl ?_)
      refine J.nil ?_
      refine JX.thenN (hK5 _ _ ?_)
      refine JC.cond rfl (fun h1 => ?_) (fun h1 => ?_)
      · skip
        try simp only [decide_eq_true_eq, decide_eq_false_iff_not, ne_eq, Bool.not_eq_true', Bool.not_eq_false', bne_iff_ne, Decidable.not_not, beq_iff_eq, Bool.not_eq_true, Bool.not_eq_false, beq_eq_false_iff_ne, bne_eq_false_iff_eq] at h1
        refine JC.seq (fun K7 hK7 => ?_)
        refine JC.region ?_
        refine J.fieldAddr Ty.fd42_3 rfl rfl ?_
        refine J.loadO Ty.a3 rfl (by repeat first | exact .head _ | apply List.Mem.tail | apply List.mem_append_right) (by exact rfl) rfl ?_
        refine J.bin rfl rfl rfl rfl ?_
        refine J.name 28 rfl (show _ = Value.bool false by simp [ha1]) ?_
        refine J.move rfl rfl ?_
        first | refine J.skip rfl rfl rfl rfl rfl ?_ | refine J.skipU rfl rfl rfl rfl ?_ | (refine J.unguard rfl rfl rfl ?_; refine J.fieldAddr Ty.fd42_3 rfl rfl ?_)
        first | refine J.skip rfl rfl rfl rfl rfl ?_ | refine J.skipU rfl rfl rfl rfl ?_ | (refine J.unguard rfl rfl rfl ?_; refine J.loadO Ty.a3 rfl (by repeat first | exact .head _ | apply List.Mem.tail | apply List.mem_append_right) (by exact rfl) rfl ?_)
        first | refine J.skip rfl rfl rfl rfl rfl ?_ | refine J.skipU rfl rfl rfl rfl ?_ | (refine J.unguard rfl rfl rfl ?_; refine J.bin rfl rfl rfl rfl ?_)
        (first | refine J.pickT rfl rfl rfl ?_ | refine J.pickF rfl rfl rfl ?_)
        refine J.assign rfl rfl ?_
        refine J.nil ?_
        refine JX.thenN (hK7 _ _ ?_)
        refine JC.ret ?_
        refine JX.thenR ?_
        refine JX.ret1 rfl rfl (fun w hw => ?_)
        exact ⟨congrArg (fun x => Ending.returned (.bool x)) (by rw [Bool.eq_iff_iff]; simp [befV, h0, ha1, h1]), (hw.drop (List.nil_sublist _)).below⟩
      · skip
        try simp only [decide_eq_true_eq, decide_eq_false_iff_not, ne_eq, Bool.not_eq_true', Bool.not_eq_false', bne_iff_ne, Decidable.not_not, beq_iff_eq, Bool.not_eq_true, Bool.not_eq_false, beq_eq_false_iff_ne, bne_eq_false_iff_eq] at h1
        refine JC.skip ?_
        refine JX.thenN (hK4 _ _ ?_)
        refine JC.seq (fun K8 hK8 => ?_)
        refine JC.seq (fun K9 hK9 => ?_)
        cases ar
        · skip
          cases br
          · skip
            refine JC.region ?_
            refine J.fieldAddr Ty.fd42_1 rfl rfl ?_
            refine J.loadO Ty.a4 rfl (by repeat first | exact .head _ | apply List.Mem.tail | apply List.mem_append_right) (by exact rfl) rfl ?_
            refine J.move rfl rfl ?_
            first | refine J.skip rfl rfl rfl rfl rfl ?_ | refine J.skipU rfl rfl rfl rfl ?_ | (refine J.unguard rfl rfl rfl ?_; refine J.fieldAddr Ty.fd42_1 rfl rfl ?_)
            first | refine J.skip rfl rfl rfl rfl rfl ?_ | refine J.skipU rfl rfl rfl rfl ?_ | (refine J.unguard rfl rfl rfl ?_; refine J.loadO Ty.a4 rfl (by repeat first | exact .head _ | apply List.Mem.tail | apply List.mem_append_right) (by exact rfl) rfl ?_)
            (first | refine J.pickT rfl rfl rfl ?_ | refine J.pickF rfl rfl rfl ?_)
            refine J.nil ?_
            refine JX.thenN (hK9 _ _ ?_)
            first | refine JC.condF rfl ?_ | refine JC.cond rfl (fun h => by first | (exfalso; simp at h; omega) | (simp at h)) (fun _ => ?_)
            refine JC.skip ?_
            refine JX.thenN (hK8 _ _ ?_)
            refine JC.seq (fun K10 hK10 => ?_)
            refine JC.seq (fun K11 hK11 => ?_)
            refine JC.region ?_
            refine J.fieldAddr Ty.fd42_2 rfl rfl ?_
            refine J.loadOA (vs := cP ap) Ty.a38 Ty.s38 rfl (by repeat first | exact .head _ | apply List.Mem.tail | apply List.mem_append_right) (by exact rfl) rfl rfl ?_
            refine J.fieldAddr Ty.fd42_2 rfl rfl ?_
            refine J.loadOA (vs := cP bp) Ty.a38 Ty.s38 rfl (by repeat first | exact .head _ | apply List.Mem.tail | apply List.mem_append_right) (by exact rfl) rfl rfl ?_
            refine J.eqP Ty.QP Ty.keyP rfl rfl (by assumption) (by assumption) rfl ?_
            refine J.nil ?_
            refine JX.thenN (hK11 _ _ ?_)
            refine JC.cond rfl (fun h3 => ?_) (fun h3 => ?_)
            · skip
              try simp only [decide_eq_true_eq, decide_eq_false_iff_not, ne_eq, Bool.not_eq_true', Bool.not_eq_false', bne_iff_ne, Decidable.not_not, beq_iff_eq, Bool.not_eq_true, Bool.not_eq_false, beq_eq_false_iff_ne, bne_eq_false_iff_eq] at h3
              refine JC.seq (fun K12 hK12 => ?_)
              refine JC.region ?_
              refine J.fieldAddr Ty.fd42_3 rfl rfl ?_
              refine J.loadO Ty.a3 rfl (by repeat first | exact .head _ | apply List.Mem.tail | apply List.mem_append_right) (by exact rfl) rfl ?_
              refine J.fieldAddr Ty.fd42_3 rfl rfl ?_
              refine J.loadO Ty.a3 rfl (by repeat first | exact .head _ | apply List.Mem.tail | apply List.mem_append_right) (by exact rfl) rfl ?_
              refine J.bin rfl rfl rfl rfl ?_
              refine J.assign rfl rfl ?_
              refine J.nil ?_
              refine JX.thenN (hK12 _ _ ?_)
              refine JC.ret ?_
              refine JX.thenR ?_
              refine JX.ret1 rfl rfl (fun w hw => ?_)
              exact ⟨congrArg (fun x => Ending.returned (.bool x)) (by rw [Bool.eq_iff_iff]; simp [befV, h0, ha1, h1, h3]), (hw.drop (List.nil_sublist _)).below⟩
            · skip
              try simp only [decide_eq_true_eq, decide_eq_false_iff_not, ne_eq, Bool.not_eq_true', Bool.not_eq_false', bne_iff_ne, Decidable.not_not, beq_iff_eq, Bool.not_eq_true, Bool.not_eq_false, beq_eq_false_iff_ne, bne_eq_false_iff_eq] at h3
              refine JC.skip ?_
              refine JX.thenN (hK10 _ _ ?_)
              refine JC.seq (fun K13 hK13 => ?_)
              refine JC.region ?_
              refine J.fieldAddr Ty.fd42_2 rfl rfl ?_
              refine J.loadOA (vs := cP ap) Ty.a38 Ty.s38 rfl (by repeat first | exact .head _ | apply List.Mem.tail | apply List.mem_append_right) (by exact rfl) rfl rfl ?_
              refine J.fieldAddr Ty.fd42_2 rfl rfl ?_
              refine J.loadOA (vs := cP bp) Ty.a38 Ty.s38 rfl (by repeat first | exact .head _ | apply List.Mem.tail | apply List.mem_append_right) (by exact rfl) rfl rfl ?_
              refine J.callB (v := .bool (ltP ap bp)) (fun w1 w2 hw hb => hw.step hb) Ty.bd49 rfl rfl (fun w1 hw => rless12_spec ap bp w1) ?_
              refine J.assign rfl rfl ?_
              refine J.nil ?_
              refine JX.thenN (hK13 _ _ ?_)
              refine JC.ret ?_
              refine JX.ret1 rfl rfl (fun w hw => ?_)
              exact ⟨congrArg (fun x => Ending.returned (.bool x)) (by rw [Bool.eq_iff_iff]; simp [befV, h0, ha1, h1, h3]), (hw.drop (List.nil_sublist _)).below⟩
          · skip
            refine JC.region ?_
            refine J.fieldAddr Ty.fd42_1 rfl rfl ?_
            refine J.loadO Ty.a4 rfl (by repeat first | exact .head _ | apply List.Mem.tail | apply List.mem_append_right) (by exact rfl) rfl ?_
            refine J.move rfl rfl ?_
            first | refine J.skip rfl rfl rfl rfl rfl ?_ | refine J.skipU rfl rfl rfl rfl ?_ | (refine J.unguard rfl rfl rfl ?_; refine J.fieldAddr Ty.fd42_1 rfl rfl ?_)
            first | refine J.skip rfl rfl rfl rfl rfl ?_ | refine J.skipU rfl rfl rfl rfl ?_ | (refine J.unguard rfl rfl rfl ?_; refine J.loadO Ty.a4 rfl (by repeat first | exact .head _ | apply List.Mem.tail | apply List.mem_append_right) (by exact rfl) rfl ?_)
            (first | refine J.pickT rfl rfl rfl ?_ | refine J.pickF rfl rfl rfl ?_)
            refine J.nil ?_
            refine JX.thenN (hK9 _ _ ?_)
            first | refine JC.condT rfl ?_ | refine JC.cond rfl (fun _ => ?_) (fun h => by first | (exfalso; simp at h; omega) | (simp at h))
            refine JC.seq (fun K14 hK14 => ?_)
            refine JC.region ?_
            refine J.fieldAddr Ty.fd42_1 rfl rfl ?_
            refine J.loadO Ty.a4 rfl (by repeat first | exact .head _ | apply List.Mem.tail | apply List.mem_append_right) (by exact rfl) rfl ?_
            refine J.move rfl rfl ?_
            first | refine J.skip rfl rfl rfl rfl rfl ?_ | refine J.skipU rfl rfl rfl rfl ?_ | (refine J.unguard rfl rfl rfl ?_; refine J.fieldAddr Ty.fd42_1 rfl rfl ?_)
            first | refine J.skip rfl rfl rfl rfl rfl ?_ | refine J.skipU rfl rfl rfl rfl ?_ | (refine J.unguard rfl rfl rfl ?_; refine J.loadO Ty.a4 rfl (by repeat first | exact .head _ | apply List.Mem.tail | apply List.mem_append_right) (by exact rfl) rfl ?_)
            first | refine J.skip rfl rfl rfl rfl rfl ?_ | refine J.skipU rfl rfl rfl rfl ?_ | (refine J.unguard rfl rfl rfl ?_; refine J.not rfl rfl ?_)
            first | refine J.skip rfl rfl rfl rfl rfl ?_ | refine J.skipU rfl rfl rfl rfl ?_ | (refine J.unguard rfl rfl rfl ?_; refine J.move rfl rfl ?_)
            first | refine J.skip rfl rfl rfl rfl rfl ?_ | refine J.skipU rfl rfl rfl rfl ?_ | (refine J.unguard rfl rfl rfl ?_; refine J.fieldAddr Ty.fd42_3 rfl rfl ?_)
            first | refine J.skip rfl rfl rfl rfl rfl ?_ | refine J.skipU rfl rfl rfl rfl ?_ | (refine J.unguard rfl rfl rfl ?_; refine J.loadO Ty.a3 rfl (by repeat first | exact .head _ | apply List.Mem.tail | apply List.mem_append_right) (by exact rfl) rfl ?_)
            first | refine J.skip rfl rfl rfl rfl rfl ?_ | refine J.skipU rfl rfl rfl rfl ?_ | (refine J.unguard rfl rfl rfl ?_; refine J.fieldAddr Ty.fd42_3 rfl rfl ?_)
            first | refine J.skip rfl rfl rfl rfl rfl ?_ | refine J.skipU rfl rfl rfl rfl ?_ | (refine J.unguard rfl rfl rfl ?_; refine J.loadO Ty.a3 rfl (by repeat first | exact .head _ | apply List.Mem.tail | apply List.mem_append_right) (by exact rfl) rfl ?_)
            first | refine J.skip rfl rfl rfl rfl rfl ?_ | refine J.skipU rfl rfl rfl rfl ?_ | (refine J.unguard rfl rfl rfl ?_; refine J.bin rfl rfl rfl rfl ?_)
            first | refine J.skip rfl rfl rfl rfl rfl ?_ | refine J.skipU rfl rfl rfl rfl ?_ | (refine J.unguard rfl rfl rfl ?_; (first | refine J.pickT rfl rfl rfl ?_ | refine J.pickF rfl rfl rfl ?_))
            (first | refine J.pickT rfl rfl rfl ?_ | refine J.pickF rfl rfl rfl ?_)
            refine J.assign rfl rfl ?_
            refine J.nil ?_
            refine JX.thenN (hK14 _ _ ?_)
            refine JC.ret ?_
            refine JX.thenR ?_
            refine JX.ret1 rfl rfl (fun w hw => ?_)
            exact ⟨congrArg (fun x => Ending.returned (.bool x)) (by rw [Bool.eq_iff_iff]; simp [befV, h0, ha1, h1]), (hw.drop (List.nil_sublist _)).below⟩
        · skip
          cases br
          · skip
            refine JC.region ?_
            refine J.fieldAddr Ty.fd42_1 rfl rfl ?_
            refine J.loadO Ty.a4 rfl (by repeat first | exact .head _ | apply List.Mem.tail | apply List.mem_append_right) (by exact rfl) rfl ?_
            refine J.move rfl rfl ?_
            first | refine J.skip rfl rfl rfl rfl rfl ?_ | refine J.skipU rfl rfl rfl rfl ?_ | (refine J.unguard rfl rfl rfl ?_; refine J.fieldAddr Ty.fd42_1 rfl rfl ?_)
            first | refine J.skip rfl rfl rfl rfl rfl ?_ | refine J.skipU rfl rfl rfl rfl ?_ | (refine J.unguard rfl rfl rfl ?_; refine J.loadO Ty.a4 rfl (by repeat first | exact .head _ | apply List.Mem.tail | apply List.mem_append_right) (by exact rfl) rfl ?_)
            (first | refine J.pickT rfl rfl rfl ?_ | refine J.pickF rfl rfl rfl ?_)
            refine J.nil ?_
            refine JX.thenN (hK9 _ _ ?_)
            first | refine JC.condT rfl ?_ | refine JC.cond rfl (fun _ => ?_) (fun h => by first | (exfalso; simp at h; omega) | (simp at h))
            refine JC.seq (fun K15 hK15 => ?_)
            refine JC.region ?_
            refine J.fieldAddr Ty.fd42_1 rfl rfl ?_
            refine J.loadO Ty.a4 rfl (by repeat first | exact .head _ | apply List.Mem.tail | apply List.mem_append_right) (by exact rfl) rfl ?_
            refine J.move rfl rfl ?_
            first | refine J.skip rfl rfl rfl rfl rfl ?_ | refine J.skipU rfl rfl rfl rfl ?_ | (refine J.unguard rfl rfl rfl ?_; refine J.fieldAddr Ty.fd42_1 rfl rfl ?_)
            first | refine J.skip rfl rfl rfl rfl rfl ?_ | refine J.skipU rfl rfl rfl rfl ?_ | (refine J.unguard rfl rfl rfl ?_; refine J.loadO Ty.a4 rfl (by repeat first | exact .head _ | apply List.Mem.tail | apply List.mem_append_right) (by exact rfl) rfl ?_)
            first | refine J.skip rfl rfl rfl rfl rfl ?_ | refine J.skipU rfl rfl rfl rfl ?_ | (refine J.unguard rfl rfl rfl ?_; refine J.not rfl rfl ?_)
            first | refine J.skip rfl rfl rfl rfl rfl ?_ | refine J.skipU rfl rfl rfl rfl ?_ | (refine J.unguard rfl rfl rfl ?_; refine J.move rfl rfl ?_)
            first | refine J.skip rfl rfl rfl rfl rfl ?_ | refine J.skipU rfl rfl rfl rfl ?_ | (refine J.unguard rfl rfl rfl ?_; refine J.fieldAddr Ty.fd42_3 rfl rfl ?_)
            first | refine J.skip rfl rfl rfl rfl rfl ?_ | refine J.skipU rfl rfl rfl rfl ?_ | (refine J.unguard rfl rfl rfl ?_; refine J.loadO Ty.a3 rfl (by repeat first | exact .head _ | apply List.Mem.tail | apply List.mem_append_right) (by exact rfl) rfl ?_)
            first | refine J.skip rfl rfl rfl rfl rfl ?_ | refine J.skipU rfl rfl rfl rfl ?_ | (refine J.unguard rfl rfl rfl ?_; refine J.fieldAddr Ty.fd42_3 rfl rfl ?_)
            first | refine J.skip rfl rfl rfl rfl rfl ?_ | refine J.skipU rfl rfl rfl rfl ?_ | (refine J.unguard rfl rfl rfl ?_; refine J.loadO Ty.a3 rfl (by repeat first | exact .head _ | apply List.Mem.tail | apply List.mem_append_right) (by exact rfl) rfl ?_)
            first | refine J.skip rfl rfl rfl rfl rfl ?_ | refine J.skipU rfl rfl rfl rfl ?_ | (refine J.unguard rfl rfl rfl ?_; refine J.bin rfl rfl rfl rfl ?_)
            first | refine J.skip rfl rfl rfl rfl rfl ?_ | refine J.skipU rfl rfl rfl rfl ?_ | (refine J.unguard rfl rfl rfl ?_; (first | refine J.pickT rfl rfl rfl ?_ | refine J.pickF rfl rfl rfl ?_))
            (first | refine J.pickT rfl rfl rfl ?_ | refine J.pickF rfl rfl rfl ?_)
            refine J.assign rfl rfl ?_
            refine J.nil ?_
            refine JX.thenN (hK15 _ _ ?_)
            refine JC.ret ?_
            refine JX.thenR ?_
            refine JX.ret1 rfl rfl (fun w hw => ?_)
            exact ⟨congrArg (fun x => Ending.returned (.bool x)) (by rw [Bool.eq_iff_iff]; simp [befV, h0, ha1, h1]), (hw.drop (List.nil_sublist _)).below⟩
          · skip
            refine JC.region ?_
            refine J.fieldAddr Ty.fd42_1 rfl rfl ?_
            refine J.loadO Ty.a4 rfl (by repeat first | exact .head _ | apply List.Mem.tail | apply List.mem_append_right) (by exact rfl) rfl ?_
            refine J.move rfl rfl ?_
            first | refine J.skip rfl rfl rfl rfl rfl ?_ | refine J.skipU rfl rfl rfl rfl ?_ | (refine J.unguard rfl rfl rfl ?_; refine J.fieldAddr Ty.fd42_1 rfl rfl ?_)
            first | refine J.skip rfl rfl rfl rfl rfl ?_ | refine J.skipU rfl rfl rfl rfl ?_ | (refine J.unguard rfl rfl rfl ?_; refine J.loadO Ty.a4 rfl (by repeat first | exact .head _ | apply List.Mem.tail | apply List.mem_append_right) (by exact rfl) rfl ?_)
            (first | refine J.pickT rfl rfl rfl ?_ | refine J.pickF rfl rfl rfl ?_)
            refine J.nil ?_
            refine JX.thenN (hK9 _ _ ?_)
            first | refine JC.condT rfl ?_ | refine JC.cond rfl (fun _ => ?_) (fun h => by first | (exfalso; simp at h; omega) | (simp at h))
            refine JC.seq (fun K16 hK16 => ?_)
            refine JC.region ?_
            refine J.fieldAddr Ty.fd42_1 rfl rfl ?_
            refine J.loadO Ty.a4 rfl (by repeat first | exact .head _ | apply List.Mem.tail | apply List.mem_append_right) (by exact rfl) rfl ?_
            refine J.move rfl rfl ?_
            first | refine J.skip rfl rfl rfl rfl rfl ?_ | refine J.skipU rfl rfl rfl rfl ?_ | (refine J.unguard rfl rfl rfl ?_; refine J.fieldAddr Ty.fd42_1 rfl rfl ?_)
            first | refine J.skip rfl rfl rfl rfl rfl ?_ | refine J.skipU rfl rfl rfl rfl ?_ | (refine J.unguard rfl rfl rfl ?_; refine J.loadO Ty.a4 rfl (by repeat first | exact .head _ | apply List.Mem.tail | apply List.mem_append_right) (by exact rfl) rfl ?_)
            first | refine J.skip rfl rfl rfl rfl rfl ?_ | refine J.skipU rfl rfl rfl rfl ?_ | (refine J.unguard rfl rfl rfl ?_; refine J.not rfl rfl ?_)
            first | refine J.skip rfl rfl rfl rfl rfl ?_ | refine J.skipU rfl rfl rfl rfl ?_ | (refine J.unguard rfl rfl rfl ?_; refine J.move rfl rfl ?_)
            first | refine J.skip rfl rfl rfl rfl rfl ?_ | refine J.skipU rfl rfl rfl rfl ?_ | (refine J.unguard rfl rfl rfl ?_; refine J.fieldAddr Ty.fd42_3 rfl rfl ?_)
            first | refine J.skip rfl rfl rfl rfl rfl ?_ | refine J.skipU rfl rfl rfl rfl ?_ | (refine J.unguard rfl rfl rfl ?_; refine J.loadO Ty.a3 rfl (by repeat first | exact .head _ | apply List.Mem.tail | apply List.mem_append_right) (by exact rfl) rfl ?_)
            first | refine J.skip rfl rfl rfl rfl rfl ?_ | refine J.skipU rfl rfl rfl rfl ?_ | (refine J.unguard rfl rfl rfl ?_; refine J.fieldAddr Ty.fd42_3 rfl rfl ?_)
            first | refine J.skip rfl rfl rfl rfl rfl ?_ | refine J.skipU rfl rfl rfl rfl ?_ | (refine J.unguard rfl rfl rfl ?_; refine J.loadO Ty.a3 rfl (by repeat first | exact .head _ | apply List.Mem.tail | apply List.mem_append_right) (by exact rfl) rfl ?_)
            first | refine J.skip rfl rfl rfl rfl rfl ?_ | refine J.skipU rfl rfl rfl rfl ?_ | (refine J.unguard rfl rfl rfl ?_; refine J.bin rfl rfl rfl rfl ?_)
            first | refine J.skip rfl rfl rfl rfl rfl ?_ | refine J.skipU rfl rfl rfl rfl ?_ | (refine J.unguard rfl rfl rfl ?_; (first | refine J.pickT rfl rfl rfl ?_ | refine J.pickF rfl rfl rfl ?_))
            (first | refine J.pickT rfl rfl rfl ?_ | refine J.pickF rfl rfl rfl ?_)
            refine J.assign rfl rfl ?_
            refine J.nil ?_
            refine JX.thenN (hK16 _ _ ?_)
            refine JC.ret ?_
            refine JX.thenR ?_
            refine JX.ret1 rfl rfl (fun w hw => ?_)
            exact ⟨congrArg (fun x => Ending.returned (.bool x)) (by rw [Bool.eq_iff_iff]; simp [befV, h0, ha1, h1]), (hw.drop (List.nil_sublist _)).below⟩

end Go.Proofs.Ytohldionclgljaa
