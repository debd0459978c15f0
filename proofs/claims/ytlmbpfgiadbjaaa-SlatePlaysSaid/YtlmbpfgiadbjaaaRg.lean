/-
  The document's own disk, more contracts; reading and writing of both disks in one piece.
-/
import Derived.Test.YtlmbpfgiadbjaaaRf
namespace Go.Proofs.Ytlmbpfgiadbjaaa
open Go.J Go.RowKit
set_option linter.unusedVariables false
set_option linter.unusedSimpArgs false
set_option maxRecDepth 4000
theorem flat1 (m : Nat) : (List.replicate m [Value.int .u8 0]).flatten = (List.replicate m (0 : UInt8)).map u8 := by
  rw [List.map_replicate]
  induction m with
  | zero => rfl
  | succ m ih => rw [List.replicate_succ, List.flatten_cons, ih]; rfl
def rE (n : Nat) (i : Int) : Int := if i < 0 ∨ (n : Int) ≤ i then 1 else 0
def rB (n : Nat) (B : List UInt8) (i : Int) : List UInt8 := if i < 0 ∨ (n : Int) ≤ i then [] else sec B i.toNat

theorem rnew_spec (k : Int) (w : World) :
    Calls Try.prog 15 [.int .i64 k].toArray w fun ρ w' => ∃ x : Nat × Nat, ρ = .returned (.pointer (some ⟨x.1, 0, none⟩)) ∧ True ∧ St w [] [(x.1, rfO (.slice (some ⟨x.2, 0, none⟩) (64 * (min (max k 0) 4096).toNat) (64 * (min (max k 0) 4096).toNat)) (-1) 0), (x.2, cb ((List.replicate (64 * (min (max k 0) 4096).toNat) (0 : UInt8)).map u8) 5)] w' := by
  refine calls_of_J (args := [.int .i64 k]) (e := [(0, .int .i64 k)]) Try.func15 rfl rfl ⟨rfl, trivial⟩ (St.start w) ?_
  refine JC.seq (fun K0 hK0 => ?_)
  refine JC.region ?_
  refine J.assign rfl rfl ?_
  refine J.nil ?_
  refine JX.thenN (hK0 _ _ ?_)
  refine JC.seq (fun K1 hK1 => ?_)
  refine JC.seq (fun K2 hK2 => ?_)
  refine JC.region ?_
  refine J.move rfl rfl ?_
  refine J.bin rfl rfl rfl rfl ?_
  refine J.nil ?_
  refine JX.thenN (hK2 _ _ ?_)
  refine JC.cond rfl (fun h0 => ?_) (fun h0 => ?_)
  · skip
    try simp only [decide_eq_true_eq, decide_eq_false_iff_not, beq_iff_eq, bne_iff_ne, bne_eq_false_iff_eq, ne_eq, beq_eq_false_iff_ne, Bool.not_eq_true, Bool.not_eq_false, Int.not_lt, Int.not_le] at h0
    refine JC.region ?_
    refine J.assign rfl rfl ?_
    refine J.nil ?_
    refine JX.thenN (hK1 _ _ ?_)
    refine JC.seq (fun K3 hK3 => ?_)
    refine JC.seq (fun K4 hK4 => ?_)
    refine JC.region ?_
    refine J.move rfl rfl ?_
    refine J.bin rfl rfl rfl rfl ?_
    refine J.nil ?_
    refine JX.thenN (hK4 _ _ ?_)
    refine JC.cond rfl (fun h1 => ?_) (fun h1 => ?_)
    · skip
      try simp only [decide_eq_true_eq, decide_eq_false_iff_not, beq_iff_eq, bne_iff_ne, bne_eq_false_iff_eq, ne_eq, beq_eq_false_iff_ne, Bool.not_eq_true, Bool.not_eq_false, Int.not_lt, Int.not_le] at h1
      refine JC.region ?_
      refine J.assign rfl rfl ?_
      refine J.nil ?_
      refine JX.thenN (hK3 _ _ ?_)
      refine JC.seq (fun K5 hK5 => ?_)
      refine JC.region ?_
      refine J.move rfl rfl ?_
      (first | refine J.mulN rfl rfl (by omega) (by omega) rfl ?_ | refine J.bin rfl rfl rfl rfl ?_)
      refine J.make Ty.el28 Ty.s5 Ty.b5 Ty.z5 rfl rfl rfl rfl (by omega) (by omega) (by omega) rfl (fun b9 => ?_)
      refine J.buildS Ty.pl35 Ty.z35 rfl rfl rfl ?_
      refine J.box rfl rfl rfl (fun b11 => ?_)
      refine J.assign rfl rfl ?_
      refine J.nil ?_
      refine JX.thenN (hK5 _ _ ?_)
      refine JC.ret ?_
      refine JX.ret1 rfl rfl (fun w hw => ?_)
      first
      | rw [flat1, show ((64 : Int) * 0).toNat = 64 * (min (max k 0) 4096).toNat by omega] at hw
      | rw [flat1, show ((64 : Int) * 4096).toNat = 64 * (min (max k 0) 4096).toNat by omega] at hw
      | rw [flat1, show ((64 : Int) * k).toNat = 64 * (min (max k 0) 4096).toNat by omega] at hw
      exact ⟨(b11, b9), rfl, trivial, hw⟩
    · skip
      try simp only [decide_eq_true_eq, decide_eq_false_iff_not, beq_iff_eq, bne_iff_ne, bne_eq_false_iff_eq, ne_eq, beq_eq_false_iff_ne, Bool.not_eq_true, Bool.not_eq_false, Int.not_lt, Int.not_le] at h1
      refine JC.skip ?_
      refine JX.thenN (hK3 _ _ ?_)
      refine JC.seq (fun K6 hK6 => ?_)
      refine JC.region ?_
      refine J.move rfl rfl ?_
      (first | refine J.mulN rfl rfl (by omega) (by omega) rfl ?_ | refine J.bin rfl rfl rfl rfl ?_)
      refine J.make Ty.el28 Ty.s5 Ty.b5 Ty.z5 rfl rfl rfl rfl (by omega) (by omega) (by omega) rfl (fun b9 => ?_)
      refine J.buildS Ty.pl35 Ty.z35 rfl rfl rfl ?_
      refine J.box rfl rfl rfl (fun b11 => ?_)
      refine J.assign rfl rfl ?_
      refine J.nil ?_
      refine JX.thenN (hK6 _ _ ?_)
      refine JC.ret ?_
      refine JX.ret1 rfl rfl (fun w hw => ?_)
      first
      | rw [flat1, show ((64 : Int) * 0).toNat = 64 * (min (max k 0) 4096).toNat by omega] at hw
      | rw [flat1, show ((64 : Int) * 4096).toNat = 64 * (min (max k 0) 4096).toNat by omega] at hw
      | rw [flat1, show ((64 : Int) * k).toNat = 64 * (min (max k 0) 4096).toNat by omega] at hw
      exact ⟨(b11, b9), rfl, trivial, hw⟩
  · skip
    try simp only [decide_eq_true_eq, decide_eq_false_iff_not, beq_iff_eq, bne_iff_ne, bne_eq_false_iff_eq, ne_eq, beq_eq_false_iff_ne, Bool.not_eq_true, Bool.not_eq_false, Int.not_lt, Int.not_le] at h0
    refine JC.skip ?_
    refine JX.thenN (hK1 _ _ ?_)
    refine JC.seq (fun K7 hK7 => ?_)
    refine JC.seq (fun K8 hK8 => ?_)
    refine JC.region ?_
    refine J.move rfl rfl ?_
    refine J.bin rfl rfl rfl rfl ?_
    refine J.nil ?_
    refine JX.thenN (hK8 _ _ ?_)
    refine JC.cond rfl (fun h1 => ?_) (fun h1 => ?_)
    · skip
      try simp only [decide_eq_true_eq, decide_eq_false_iff_not, beq_iff_eq, bne_iff_ne, bne_eq_false_iff_eq, ne_eq, beq_eq_false_iff_ne, Bool.not_eq_true, Bool.not_eq_false, Int.not_lt, Int.not_le] at h1
      refine JC.region ?_
      refine J.assign rfl rfl ?_
      refine J.nil ?_
      refine JX.thenN (hK7 _ _ ?_)
      refine JC.seq (fun K9 hK9 => ?_)
      refine JC.region ?_
      refine J.move rfl rfl ?_
      (first | refine J.mulN rfl rfl (by omega) (by omega) rfl ?_ | refine J.bin rfl rfl rfl rfl ?_)
      refine J.make Ty.el28 Ty.s5 Ty.b5 Ty.z5 rfl rfl rfl rfl (by omega) (by omega) (by omega) rfl (fun b9 => ?_)
      refine J.buildS Ty.pl35 Ty.z35 rfl rfl rfl ?_
      refine J.box rfl rfl rfl (fun b11 => ?_)
      refine J.assign rfl rfl ?_
      refine J.nil ?_
      refine JX.thenN (hK9 _ _ ?_)
      refine JC.ret ?_
      refine JX.ret1 rfl rfl (fun w hw => ?_)
      first
      | rw [flat1, show ((64 : Int) * 0).toNat = 64 * (min (max k 0) 4096).toNat by omega] at hw
      | rw [flat1, show ((64 : Int) * 4096).toNat = 64 * (min (max k 0) 4096).toNat by omega] at hw
      | rw [flat1, show ((64 : Int) * k).toNat = 64 * (min (max k 0) 4096).toNat by omega] at hw
      exact ⟨(b11, b9), rfl, trivial, hw⟩
    · skip
      try simp only [decide_eq_true_eq, decide_eq_false_iff_not, beq_iff_eq, bne_iff_ne, bne_eq_false_iff_eq, ne_eq, beq_eq_false_iff_ne, Bool.not_eq_true, Bool.not_eq_false, Int.not_lt, Int.not_le] at h1
      refine JC.skip ?_
      refine JX.thenN (hK7 _ _ ?_)
      refine JC.seq (fun K10 hK10 => ?_)
      refine JC.region ?_
      refine J.move rfl rfl ?_
      (first | refine J.mulN rfl rfl (by omega) (by omega) rfl ?_ | refine J.bin rfl rfl rfl rfl ?_)
      refine J.make Ty.el28 Ty.s5 Ty.b5 Ty.z5 rfl rfl rfl rfl (by omega) (by omega) (by omega) rfl (fun b9 => ?_)
      refine J.buildS Ty.pl35 Ty.z35 rfl rfl rfl ?_
      refine J.box rfl rfl rfl (fun b11 => ?_)
      refine J.assign rfl rfl ?_
      refine J.nil ?_
      refine JX.thenN (hK10 _ _ ?_)
      refine JC.ret ?_
      refine JX.ret1 rfl rfl (fun w hw => ?_)
      first
      | rw [flat1, show ((64 : Int) * 0).toNat = 64 * (min (max k 0) 4096).toNat by omega] at hw
      | rw [flat1, show ((64 : Int) * 4096).toNat = 64 * (min (max k 0) 4096).toNat by omega] at hw
      | rw [flat1, show ((64 : Int) * k).toNat = 64 * (min (max k 0) 4096).toNat by omega] at hw
      exact ⟨(b11, b9), rfl, trivial, hw⟩

theorem rread_neg (r n : Nat) (v : Value) (lp : List (Nat × Obj)) (B : List UInt8) (p k : Int) (w : World) (hw0 : Own w ((r, rfO v p k) :: lp)) (hv : Vec 5 1 v (64 * n) (B.map u8) lp) (hn : n ≤ 4096) (i : Int) (hi : i < 0) :
    Calls Try.prog 21 [.pointer (some ⟨r, 0, none⟩), .int .i64 i].toArray w fun ρ w' => ρ = .returned (.tuple #[.slice none 0 0, .int .i64 1]) ∧ Below w.heap.size w w' := by
  obtain ⟨a0, c0, rfl, hnc0⟩ := hv.form
  refine calls_of_J (args := [.pointer (some ⟨r, 0, none⟩), .int .i64 i]) (e := [(0, .pointer (some ⟨r, 0, none⟩)), (1, .int .i64 i)]) Try.func21 rfl rfl ⟨rfl, rfl, trivial⟩ (hw0.st) ?_
  refine JC.seq (fun K0 hK0 => ?_)
  refine JC.region ?_
  refine J.assign rfl rfl ?_
  refine J.assign rfl rfl ?_
  refine J.nil ?_
  refine JX.thenN (hK0 _ _ ?_)
  refine JC.seq (fun K1 hK1 => ?_)
  refine JC.seq (fun K2 hK2 => ?_)
  refine JC.region ?_
  refine J.move rfl rfl ?_
  refine J.bin rfl rfl rfl rfl ?_
  refine J.move rfl rfl ?_
  refine J.split 8 rfl (fun _ => ?_) (fun h => by first | (exfalso; simp at h; omega) | (simp at h))
  first
    | (refine J.skip rfl rfl rfl rfl rfl ?_)
    | (refine J.skipU rfl rfl rfl rfl ?_)
    | (refine J.unguard rfl rfl rfl ?_; refine J.move rfl rfl ?_)
  first
    | (refine J.skip rfl rfl rfl rfl rfl ?_)
    | (refine J.skipU rfl rfl rfl rfl ?_)
    | (refine J.unguard rfl rfl rfl ?_; refine J.move rfl rfl ?_)
  first
    | (refine J.skip rfl rfl rfl rfl rfl ?_)
    | (refine J.skipU rfl rfl rfl rfl ?_)
    | (refine J.unguard rfl rfl rfl ?_; refine J.nilCheck rfl rfl ?_)
  first
    | (refine J.skip rfl rfl rfl rfl rfl ?_)
    | (refine J.skipU rfl rfl rfl rfl ?_)
    | (refine J.unguard rfl rfl rfl ?_; refine J.fieldAddr Ty.fd35_0 rfl rfl ?_)
  first
    | (refine J.skip rfl rfl rfl rfl rfl ?_)
    | (refine J.skipU rfl rfl rfl rfl ?_)
    | (refine J.unguard rfl rfl rfl ?_; (first | refine J.loadO Ty.a28 rfl (.head _) rfl rfl ?_ | refine J.loadO Ty.a28 rfl (.tail _ (.head _)) rfl rfl ?_ | refine J.loadO Ty.a28 rfl (.tail _ (.tail _ (.head _))) rfl rfl ?_ | refine J.loadO Ty.a28 rfl (.tail _ (.tail _ (.tail _ (.head _)))) rfl rfl ?_ | refine J.loadO Ty.a28 rfl (.tail _ (.tail _ (.tail _ (.tail _ (.head _))))) rfl rfl ?_ | refine J.loadO Ty.a28 rfl (List.mem_append_right _ (.head _)) rfl rfl ?_ | refine J.loadO Ty.a28 rfl (List.mem_append_right _ (.tail _ (.head _))) rfl rfl ?_ | refine J.loadO Ty.a28 rfl (List.mem_append_right _ (.tail _ (.tail _ (.head _)))) rfl rfl ?_ | refine J.loadO Ty.a28 rfl (List.mem_append_right _ (.tail _ (.tail _ (.tail _ (.head _))))) rfl rfl ?_ | refine J.loadO Ty.a28 rfl (List.mem_append_right _ (.tail _ (.tail _ (.tail _ (.tail _ (.head _)))))) rfl rfl ?_))
  first
    | (refine J.skip rfl rfl rfl rfl rfl ?_)
    | (refine J.skipU rfl rfl rfl rfl ?_)
    | (refine J.unguard rfl rfl rfl ?_; refine J.lenS rfl Ty.u28 rfl rfl ?_)
  first
    | (refine J.skip rfl rfl rfl rfl rfl ?_)
    | (refine J.skipU rfl rfl rfl rfl ?_)
    | (refine J.unguard rfl rfl rfl ?_; (first | refine J.quoN rfl rfl (by omega) (by omega) (by omega) rfl ?_ | refine J.bin rfl rfl rfl rfl ?_))
  first
    | (refine J.skip rfl rfl rfl rfl rfl ?_)
    | (refine J.skipU rfl rfl rfl rfl ?_)
    | (refine J.unguard rfl rfl rfl ?_; refine J.bin rfl rfl rfl rfl ?_)
  (first | refine J.pickT rfl rfl rfl ?_ | refine J.pickF rfl rfl rfl ?_)
  refine J.nil ?_
  refine JX.thenN (hK2 _ _ ?_)
  first | refine JC.condT rfl ?_ | refine JC.cond rfl (fun _ => ?_) (fun h => by first | (exfalso; simp at h; omega) | (simp at h))
  refine JC.seq (fun K3 hK3 => ?_)
  refine JC.region ?_
  refine J.assign rfl rfl ?_
  refine J.assign rfl rfl ?_
  refine J.nil ?_
  refine JX.thenN (hK3 _ _ ?_)
  refine JC.ret ?_
  refine JX.thenR ?_
  refine JX.ret2 rfl rfl rfl (fun w hw => ?_)
  exact ⟨rfl, hw.same hw0 (fun p hp => hp)⟩

theorem rread_high (r n : Nat) (v : Value) (lp : List (Nat × Obj)) (B : List UInt8) (p k : Int) (w : World) (hw0 : Own w ((r, rfO v p k) :: lp)) (hv : Vec 5 1 v (64 * n) (B.map u8) lp) (hn : n ≤ 4096) (i : Int) (hi : 0 ≤ i) (hi2 : (n : Int) ≤ i) :
    Calls Try.prog 21 [.pointer (some ⟨r, 0, none⟩), .int .i64 i].toArray w fun ρ w' => ρ = .returned (.tuple #[.slice none 0 0, .int .i64 1]) ∧ Below w.heap.size w w' := by
  obtain ⟨a0, c0, rfl, hnc0⟩ := hv.form
  refine calls_of_J (args := [.pointer (some ⟨r, 0, none⟩), .int .i64 i]) (e := [(0, .pointer (some ⟨r, 0, none⟩)), (1, .int .i64 i)]) Try.func21 rfl rfl ⟨rfl, rfl, trivial⟩ (hw0.st) ?_
  refine JC.seq (fun K0 hK0 => ?_)
  refine JC.region ?_
  refine J.assign rfl rfl ?_
  refine J.assign rfl rfl ?_
  refine J.nil ?_
  refine JX.thenN (hK0 _ _ ?_)
  refine JC.seq (fun K1 hK1 => ?_)
  refine JC.seq (fun K2 hK2 => ?_)
  refine JC.region ?_
  refine J.move rfl rfl ?_
  refine J.bin rfl rfl rfl rfl ?_
  refine J.move rfl rfl ?_
  refine J.split 8 rfl (fun h => by first | (exfalso; simp at h; omega) | (simp at h)) (fun _ => ?_)
  first
    | (refine J.skip rfl rfl rfl rfl rfl ?_)
    | (refine J.skipU rfl rfl rfl rfl ?_)
    | (refine J.unguard rfl rfl rfl ?_; refine J.move rfl rfl ?_)
  first
    | (refine J.skip rfl rfl rfl rfl rfl ?_)
    | (refine J.skipU rfl rfl rfl rfl ?_)
    | (refine J.unguard rfl rfl rfl ?_; refine J.move rfl rfl ?_)
  first
    | (refine J.skip rfl rfl rfl rfl rfl ?_)
    | (refine J.skipU rfl rfl rfl rfl ?_)
    | (refine J.unguard rfl rfl rfl ?_; refine J.nilCheck rfl rfl ?_)
  first
    | (refine J.skip rfl rfl rfl rfl rfl ?_)
    | (refine J.skipU rfl rfl rfl rfl ?_)
    | (refine J.unguard rfl rfl rfl ?_; refine J.fieldAddr Ty.fd35_0 rfl rfl ?_)
  first
    | (refine J.skip rfl rfl rfl rfl rfl ?_)
    | (refine J.skipU rfl rfl rfl rfl ?_)
    | (refine J.unguard rfl rfl rfl ?_; (first | refine J.loadO Ty.a28 rfl (.head _) rfl rfl ?_ | refine J.loadO Ty.a28 rfl (.tail _ (.head _)) rfl rfl ?_ | refine J.loadO Ty.a28 rfl (.tail _ (.tail _ (.head _))) rfl rfl ?_ | refine J.loadO Ty.a28 rfl (.tail _ (.tail _ (.tail _ (.head _)))) rfl rfl ?_ | refine J.loadO Ty.a28 rfl (.tail _ (.tail _ (.tail _ (.tail _ (.head _))))) rfl rfl ?_ | refine J.loadO Ty.a28 rfl (List.mem_append_right _ (.head _)) rfl rfl ?_ | refine J.loadO Ty.a28 rfl (List.mem_append_right _ (.tail _ (.head _))) rfl rfl ?_ | refine J.loadO Ty.a28 rfl (List.mem_append_right _ (.tail _ (.tail _ (.head _)))) rfl rfl ?_ | refine J.loadO Ty.a28 rfl (List.mem_append_right _ (.tail _ (.tail _ (.tail _ (.head _))))) rfl rfl ?_ | refine J.loadO Ty.a28 rfl (List.mem_append_right _ (.tail _ (.tail _ (.tail _ (.tail _ (.head _)))))) rfl rfl ?_))
  first
    | (refine J.skip rfl rfl rfl rfl rfl ?_)
    | (refine J.skipU rfl rfl rfl rfl ?_)
    | (refine J.unguard rfl rfl rfl ?_; refine J.lenS rfl Ty.u28 rfl rfl ?_)
  refine J.unguard rfl rfl rfl ?_
  refine J.quoN rfl rfl (by omega) (by omega) (by omega) rfl ?_
  refine J.name 15 rfl (congrArg (Value.int .i64) (show ((64 * n : Nat) : Int) / 64 = (n : Int) by omega)) ?_
  first
    | (refine J.skip rfl rfl rfl rfl rfl ?_)
    | (refine J.skipU rfl rfl rfl rfl ?_)
    | (refine J.unguard rfl rfl rfl ?_; refine J.bin rfl rfl rfl rfl ?_)
  (first | refine J.pickT rfl rfl rfl ?_ | refine J.pickF rfl rfl rfl ?_)
  refine J.nil ?_
  refine JX.thenN (hK2 _ _ ?_)
  first | refine JC.condT rfl ?_ | refine JC.cond rfl (fun _ => ?_) (fun h => by first | (exfalso; simp at h; omega) | (simp at h))
  refine JC.seq (fun K3 hK3 => ?_)
  refine JC.region ?_
  refine J.assign rfl rfl ?_
  refine J.assign rfl rfl ?_
  refine J.nil ?_
  refine JX.thenN (hK3 _ _ ?_)
  refine JC.ret ?_
  refine JX.thenR ?_
  refine JX.ret2 rfl rfl rfl (fun w hw => ?_)
  exact ⟨rfl, hw.same hw0 (fun p hp => hp)⟩

theorem rread_spec (r n : Nat) (v : Value) (lp : List (Nat × Obj)) (B : List UInt8) (p k : Int) (w : World) (hw0 : Own w ((r, rfO v p k) :: lp)) (hv : Vec 5 1 v (64 * n) (B.map u8) lp) (hn : n ≤ 4096) (i : Int) (hB : B.length = 64 * n) (hi : 0 ≤ i) (hi2 : i < (n : Int)) :
    Calls Try.prog 21 [.pointer (some ⟨r, 0, none⟩), .int .i64 i].toArray w fun ρ w' => ∃ x : Value × List (Nat × Obj), ρ = .returned (.tuple #[x.1, .int .i64 0]) ∧ Vec 5 1 x.1 64 ((sec B i.toNat).map u8) x.2 ∧ St w (r :: lp.map (·.1)) (x.2 ++ ((r, rfO v p k) :: lp)) w' := by
  obtain ⟨a0, c0, rfl, hnc0⟩ := hv.form
  refine calls_of_J (args := [.pointer (some ⟨r, 0, none⟩), .int .i64 i]) (e := [(0, .pointer (some ⟨r, 0, none⟩)), (1, .int .i64 i)]) Try.func21 rfl rfl ⟨rfl, rfl, trivial⟩ (hw0.st) ?_
  refine JC.seq (fun K0 hK0 => ?_)
  refine JC.region ?_
  refine J.assign rfl rfl ?_
  refine J.assign rfl rfl ?_
  refine J.nil ?_
  refine JX.thenN (hK0 _ _ ?_)
  refine JC.seq (fun K1 hK1 => ?_)
  refine JC.seq (fun K2 hK2 => ?_)
  refine JC.region ?_
  refine J.move rfl rfl ?_
  refine J.bin rfl rfl rfl rfl ?_
  refine J.move rfl rfl ?_
  refine J.split 8 rfl (fun h => by first | (exfalso; simp at h; omega) | (simp at h)) (fun _ => ?_)
  first
    | (refine J.skip rfl rfl rfl rfl rfl ?_)
    | (refine J.skipU rfl rfl rfl rfl ?_)
    | (refine J.unguard rfl rfl rfl ?_; refine J.move rfl rfl ?_)
  first
    | (refine J.skip rfl rfl rfl rfl rfl ?_)
    | (refine J.skipU rfl rfl rfl rfl ?_)
    | (refine J.unguard rfl rfl rfl ?_; refine J.move rfl rfl ?_)
  first
    | (refine J.skip rfl rfl rfl rfl rfl ?_)
    | (refine J.skipU rfl rfl rfl rfl ?_)
    | (refine J.unguard rfl rfl rfl ?_; refine J.nilCheck rfl rfl ?_)
  first
    | (refine J.skip rfl rfl rfl rfl rfl ?_)
    | (refine J.skipU rfl rfl rfl rfl ?_)
    | (refine J.unguard rfl rfl rfl ?_; refine J.fieldAddr Ty.fd35_0 rfl rfl ?_)
  first
    | (refine J.skip rfl rfl rfl rfl rfl ?_)
    | (refine J.skipU rfl rfl rfl rfl ?_)
    | (refine J.unguard rfl rfl rfl ?_; (first | refine J.loadO Ty.a28 rfl (.head _) rfl rfl ?_ | refine J.loadO Ty.a28 rfl (.tail _ (.head _)) rfl rfl ?_ | refine J.loadO Ty.a28 rfl (.tail _ (.tail _ (.head _))) rfl rfl ?_ | refine J.loadO Ty.a28 rfl (.tail _ (.tail _ (.tail _ (.head _)))) rfl rfl ?_ | refine J.loadO Ty.a28 rfl (.tail _ (.tail _ (.tail _ (.tail _ (.head _))))) rfl rfl ?_ | refine J.loadO Ty.a28 rfl (List.mem_append_right _ (.head _)) rfl rfl ?_ | refine J.loadO Ty.a28 rfl (List.mem_append_right _ (.tail _ (.head _))) rfl rfl ?_ | refine J.loadO Ty.a28 rfl (List.mem_append_right _ (.tail _ (.tail _ (.head _)))) rfl rfl ?_ | refine J.loadO Ty.a28 rfl (List.mem_append_right _ (.tail _ (.tail _ (.tail _ (.head _))))) rfl rfl ?_ | refine J.loadO Ty.a28 rfl (List.mem_append_right _ (.tail _ (.tail _ (.tail _ (.tail _ (.head _)))))) rfl rfl ?_))
  first
    | (refine J.skip rfl rfl rfl rfl rfl ?_)
    | (refine J.skipU rfl rfl rfl rfl ?_)
    | (refine J.unguard rfl rfl rfl ?_; refine J.lenS rfl Ty.u28 rfl rfl ?_)
  refine J.unguard rfl rfl rfl ?_
  refine J.quoN rfl rfl (by omega) (by omega) (by omega) rfl ?_
  refine J.name 15 rfl (congrArg (Value.int .i64) (show ((64 * n : Nat) : Int) / 64 = (n : Int) by omega)) ?_
  first
    | (refine J.skip rfl rfl rfl rfl rfl ?_)
    | (refine J.skipU rfl rfl rfl rfl ?_)
    | (refine J.unguard rfl rfl rfl ?_; refine J.bin rfl rfl rfl rfl ?_)
  (first | refine J.pickT rfl rfl rfl ?_ | refine J.pickF rfl rfl rfl ?_)
  refine J.nil ?_
  refine JX.thenN (hK2 _ _ ?_)
  first | refine JC.condF rfl ?_ | refine JC.cond rfl (fun h => by first | (exfalso; simp at h; omega) | (simp at h)) (fun _ => ?_)
  refine JC.skip ?_
  refine JX.thenN (hK1 _ _ ?_)
  refine JC.seq (fun K3 hK3 => ?_)
  refine JC.region ?_
  refine J.buildSl Ty.el28 Ty.s5 Ty.z5 rfl rfl rfl rfl rfl rfl rfl (fun b18 => ?_)
  refine J.move rfl rfl ?_
  refine J.nilCheck rfl rfl ?_
  refine J.fieldAddr Ty.fd35_0 rfl rfl ?_
  (first | refine J.loadO Ty.a28 rfl (.head _) rfl rfl ?_ | refine J.loadO Ty.a28 rfl (.tail _ (.head _)) rfl rfl ?_ | refine J.loadO Ty.a28 rfl (.tail _ (.tail _ (.head _))) rfl rfl ?_ | refine J.loadO Ty.a28 rfl (.tail _ (.tail _ (.tail _ (.head _)))) rfl rfl ?_ | refine J.loadO Ty.a28 rfl (.tail _ (.tail _ (.tail _ (.tail _ (.head _))))) rfl rfl ?_ | refine J.loadO Ty.a28 rfl (List.mem_append_right _ (.head _)) rfl rfl ?_ | refine J.loadO Ty.a28 rfl (List.mem_append_right _ (.tail _ (.head _))) rfl rfl ?_ | refine J.loadO Ty.a28 rfl (List.mem_append_right _ (.tail _ (.tail _ (.head _)))) rfl rfl ?_ | refine J.loadO Ty.a28 rfl (List.mem_append_right _ (.tail _ (.tail _ (.tail _ (.head _))))) rfl rfl ?_ | refine J.loadO Ty.a28 rfl (List.mem_append_right _ (.tail _ (.tail _ (.tail _ (.tail _ (.head _)))))) rfl rfl ?_)
  refine J.move rfl rfl ?_
  (first | refine J.mulN rfl rfl (by omega) (by omega) rfl ?_ | refine J.bin rfl rfl rfl rfl ?_)
  refine J.move rfl rfl ?_
  (first | refine J.mulN rfl rfl (by omega) (by omega) rfl ?_ | refine J.bin rfl rfl rfl rfl ?_)
  (first | refine J.addN rfl rfl (by omega) (by omega) rfl ?_ | refine J.bin rfl rfl rfl rfl ?_)
  refine J.sliceS (i := 64 * i.toNat) (j := 64 * i.toNat + 64) Ty.el28 Ty.s5 rfl rfl rfl (by simp only [bnd]; rw [if_pos (by omega)]; congr 1; omega) (by simp only [bnd]; rw [if_pos (by omega)]; congr 1; omega) (by omega) (by omega) (by omega) rfl ?_
  refine J.append (lp := [(b18, cb [] 5)]) (xs := []) (ys := (sec B i.toNat).map u8) (k := 0) (m := 64 * i.toNat + 64 - 64 * i.toNat) Ty.el28 Ty.s5 Ty.b5 Ty.z5 rfl (.inl ⟨5, Ty.u28⟩) rfl rfl ⟨rfl, .inr ⟨b18, 0, [], rfl, rfl, rfl, Nat.le_refl _⟩⟩ (fun w' hw => .inl ?_) ?_ (one_u8 _) (by omega) (by omega) rfl (fun v29 lp29 hv29 => ?_)
  · have h1 : Row w' (.slice a0 (64 * n) c0) (64 * n) (B.map u8) := hv.row (l := []) (St.owns' (hw.drop (List.sublist_append_of_sublist_right (List.sublist_cons_self _ _)))).st0
    have h2 := h1.slice (sz := 1) (i := 64 * i.toNat) (j := 64 * i.toNat + 64) (by simp [hB]) (by omega) (by omega)
    have h3 : ((B.map u8).drop (64 * i.toNat * 1)).take ((64 * i.toNat + 64 - 64 * i.toNat) * 1) = (sec B i.toNat).map u8 := by
      rw [Nat.mul_one, Nat.mul_one, show 64 * i.toNat + 64 - 64 * i.toNat = 64 by omega, sec, List.map_take, List.map_drop]
    rw [h3] at h2
    exact h2
  · rw [List.length_map, sec_length hB i hi hi2]; omega
  refine J.assign rfl rfl ?_
  refine J.assign rfl rfl ?_
  refine J.nil ?_
  refine JX.thenN (hK3 _ _ ?_)
  refine JC.ret ?_
  refine JX.ret2 rfl rfl rfl (fun w hw => ?_)
  exact ⟨(v29, lp29), rfl, by rw [show 0 + (64 * i.toNat + 64 - 64 * i.toNat) = 64 by omega, List.nil_append] at hv29; exact hv29, hw⟩


theorem rread_all (r n : Nat) (v : Value) (lp : List (Nat × Obj)) (B : List UInt8) (p k : Int) (w : World) (hw0 : Own w ((r, rfO v p k) :: lp)) (hv : Vec 5 1 v (64 * n) (B.map u8) lp) (hn : n ≤ 4096) (i : Int) (hB : B.length = 64 * n) :
    Calls Try.prog 21 [.pointer (some ⟨r, 0, none⟩), .int .i64 i].toArray w fun ρ w' => ∃ x : Value × List (Nat × Obj), ρ = .returned (.tuple #[x.1, .int .i64 (rE n i)]) ∧ Vec 5 1 x.1 (rB n B i).length ((rB n B i).map u8) x.2 ∧ St w (r :: lp.map (·.1)) (x.2 ++ ((r, rfO v p k) :: lp)) w' := by
  by_cases h : i < 0 ∨ (n : Int) ≤ i
  · simp only [rE, rB, if_pos h]
    have key : Calls Try.prog 21 [.pointer (some ⟨r, 0, none⟩), .int .i64 i].toArray w fun ρ w' => ρ = .returned (.tuple #[.slice none 0 0, .int .i64 1]) ∧ Below w.heap.size w w' := by
      rcases h with h | h
      · exact rread_neg r n v lp B p k w hw0 hv hn i h
      · by_cases h0 : i < 0
        · exact rread_neg r n v lp B p k w hw0 hv hn i h0
        · exact rread_high r n v lp B p k w hw0 hv hn i (by omega) h
    exact key.mono fun _ _ hr => ⟨(_, []), hr.1, Vec.nil _ _, hw0.keep hr.2⟩
  · simp only [rE, rB, if_neg h]
    refine (rread_spec r n v lp B p k w hw0 hv hn i hB (by omega) (by omega)).mono fun _ _ ⟨x, h1, h2, h3⟩ => ⟨x, h1, ?_, h3⟩
    rw [sec_length hB i (by omega) (by omega)]; exact h2
theorem read_all (d s n : Nat) (B : List UInt8) (p k i : Int) (w : World) (hw0 : Own w [(d, dkO s n p k), (s, dkS B)]) (hB : B.length = 64 * n) :
    Calls Try.prog 20 [.pointer (some ⟨d, 0, none⟩), .int .i64 i].toArray w fun ρ w' => ∃ x : Value × List (Nat × Obj), ρ = .returned (.tuple #[x.1, .int .i64 (rE n i)]) ∧ Vec 5 1 x.1 (rB n B i).length ((rB n B i).map u8) x.2 ∧ St w [d, s] (x.2 ++ [(d, dkO s n p k), (s, dkS B)]) w' := by
  by_cases h : i < 0 ∨ (n : Int) ≤ i
  · simp only [rE, rB, if_pos h]
    have key : Calls Try.prog 20 [.pointer (some ⟨d, 0, none⟩), .int .i64 i].toArray w fun ρ w' => ρ = .returned (.tuple #[.slice none 0 0, .int .i64 1]) ∧ Below w.heap.size w w' := by
      rcases h with h | h
      · exact read_neg d s n p k w hw0 i h
      · by_cases h0 : i < 0
        · exact read_neg d s n p k w hw0 i h0
        · exact read_high d s n p k w hw0 i (by omega) h
    exact key.mono fun _ _ hr => ⟨(_, []), hr.1, Vec.nil _ _, hw0.keep hr.2⟩
  · simp only [rE, rB, if_neg h]
    refine (read_spec d s n B p k i w hw0 hB (by omega) (by omega)).mono fun _ _ ⟨x, h1, h2, h3⟩ => ⟨x, h1, ?_, h3⟩
    rw [sec_length hB i (by omega) (by omega)]; exact h2
theorem rwrite_all (r n : Nat) (v : Value) (lp : List (Nat × Obj)) (B bs : List UInt8) (p k i : Int) (a : Option Addr) (m c : Nat) (w : World) (hw0 : Own w ((r, rfO v p k) :: lp)) (hv : Vec 5 1 v (64 * n) (B.map u8) lp) (hn : n ≤ 4096) (hB : B.length = 64 * n) (hk : 0 ≤ k) (hk2 : k < 4611686018427387904)
    (hbl : bs.length = m) (hbv : Row w (.slice a m c) m (bs.map u8)) (hoff : Off (r :: lp.map (·.1)) (.slice a m c) (bs.map u8)) (hp : p < 9223372036854775808) :
    Calls Try.prog 18 [.pointer (some ⟨r, 0, none⟩), .int .i64 i, .slice a m c].toArray w fun ρ w' => ∃ lp', ρ = .returned (.int .i64 (wE n p i m)) ∧ Vec 5 1 v (64 * n) ((wB n p i B bs).map u8) lp' ∧ St w (r :: lp.map (·.1)) ((r, rfO v (wP n p i m) (wK n p i m k)) :: lp') w' := by
  by_cases h1 : i < 0
  · have e : wE n p i m = 1 := by simp [wE, h1]
    simp only [wP, wK, wB, hbl, e]
    exact (rwrite_neg r n v lp B p k w hw0 hv hn i _ h1).mono fun _ _ h => ⟨lp, h.1, hv, hw0.keep h.2⟩
  by_cases h2 : (n : Int) ≤ i
  · have e : wE n p i m = 1 := by simp [wE, h2]
    simp only [wP, wK, wB, hbl, e]
    exact (rwrite_high r n v lp B p k w hw0 hv hn i _ (by omega) h2).mono fun _ _ h => ⟨lp, h.1, hv, hw0.keep h.2⟩
  have hni : ¬ (i < 0 ∨ (n : Int) ≤ i) := by omega
  by_cases h3 : 64 < m
  · have e : wE n p i m = 4 := by simp only [wE, if_neg hni, if_pos h3]
    simp only [wP, wK, wB, hbl, e]
    exact (rwrite_long r n v lp B p k w hw0 hv hn i a m c (by omega) (by omega) h3).mono fun _ _ h => ⟨lp, h.1, hv, hw0.keep h.2⟩
  by_cases h4 : p = 0
  · subst h4
    have e : wE n 0 i m = 8 := by simp only [wE, if_neg hni, if_neg h3, if_true]
    simp only [wP, wK, wB, hbl, e]
    exact (rwrite_down r n v lp B k w hw0 hv hn i a m c (by omega) (by omega) (by omega)).mono fun _ _ h => ⟨lp, h.1, hv, hw0.keep h.2⟩
  have e : wE n p i m = 0 := by simp only [wE, if_neg hni, if_neg h3, if_neg h4]
  simp only [wP, wK, wB, hbl, e, if_true]
  by_cases h5 : 0 < p
  · rw [if_pos h5]
    exact (rwrite_power r n v lp B p k w hw0 hv hn bs i a m c hB (by omega) (by omega) hk hk2 (by omega) hbl hbv hoff h5 hp).mono fun _ _ ⟨h1, lp', h2, h3⟩ => ⟨lp', h1, h2, h3⟩
  · rw [if_neg h5]
    exact (rwrite_endless r n v lp B p k w hw0 hv hn bs i a m c hB (by omega) (by omega) hk hk2 (by omega) hbl hbv hoff (by omega)).mono fun _ _ ⟨h1, lp', h2, h3⟩ => ⟨lp', h1, h2, h3⟩

end Go.Proofs.Ytlmbpfgiadbjaaa
