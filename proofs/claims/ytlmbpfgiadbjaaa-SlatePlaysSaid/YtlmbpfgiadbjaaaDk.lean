/-
  What the functions of package disk do: contracts.
-/
import Derived.Test.YtlmbpfgiadbjaaaTy
namespace Go.Proofs.Ytlmbpfgiadbjaaa
open Go.J Go.RowKit
set_option linter.unusedVariables false
set_option linter.unusedSimpArgs false
set_option maxRecDepth 4000

abbrev dkO (s n : Nat) (p k : Int) : Obj := cb [.slice (some ⟨s, 0, none⟩) n n, .int .i64 p, .int .i64 k] 74
abbrev dkS (B : List UInt8) : Obj := cb (B.map u8) 75
theorem flat64 (n : Nat) : (List.replicate n (List.replicate 64 (Value.int .u8 0))).flatten = (List.replicate (64 * n) (0 : UInt8)).map u8 := by
  rw [List.flatten_replicate_replicate, List.map_replicate, Nat.mul_comm]; rfl
/-- sector i of the bytes -/
def sec (B : List UInt8) (i : Nat) : List UInt8 := (B.drop (64 * i)).take 64
theorem sec_length {B : List UInt8} {n : Nat} (hB : B.length = 64 * n) (i : Int) (hi : 0 ≤ i) (hi2 : i < (n : Int)) : (sec B i.toNat).length = 64 := by
  simp only [sec, List.length_take, List.length_drop]; omega
theorem sec_cells {B : List UInt8} {n : Nat} (hB : B.length = 64 * n) (i : Int) (hi : 0 ≤ i) (hi2 : i < (n : Int)) :
    ((B.map u8).drop (0 + i.toNat * 64)).take ((sec B i.toNat).map u8).length = (sec B i.toNat).map u8 := by
  rw [List.length_map, sec_length hB i hi hi2]
  simp only [sec, List.map_take, List.map_drop]
  congr 2; omega
/-- what a write leaves -/
def put (B : List UInt8) (i : Nat) (bs : List UInt8) : List UInt8 := B.take (64 * i) ++ (bs ++ List.replicate (64 - bs.length) 0) ++ B.drop (64 * i + 64)
theorem put_length {B : List UInt8} {n : Nat} (hB : B.length = 64 * n) {i : Nat} (hi : i < n) {bs : List UInt8} (hb : bs.length ≤ 64) : (put B i bs).length = 64 * n := by
  simp only [put, List.length_append, List.length_take, List.length_drop, List.length_replicate]; omega
theorem put_cells {B : List UInt8} {n : Nat} (hB : B.length = 64 * n) {i : Nat} (hi : i < n) {bs : List UInt8} (hb : bs.length ≤ 64) :
    setMany (setMany (B.map u8) (0 + i * 64) (List.replicate 64 (Value.int .u8 0))) (0 + i * 64) (bs.map u8) = (put B i bs).map u8 := by
  rw [setMany_eq _ _ _ (by simp; omega), setMany_eq _ _ _ (by simp; omega)]
  simp only [put, List.map_append, List.map_take, List.map_drop, List.length_map, List.length_replicate, List.map_replicate]
  have e1 : (List.replicate 64 (Value.int .u8 0)) = List.replicate bs.length (Value.int .u8 0) ++ List.replicate (64 - bs.length) (Value.int .u8 0) := by
    rw [List.replicate_append_replicate]; congr 1; omega
  have m : ((B.map u8).take (0 + i * 64)).length = 0 + i * 64 := by simp; omega
  rw [e1]
  have t1 : List.take (0 + i * 64) (List.take (0 + i * 64) (B.map u8) ++ (List.replicate bs.length (Value.int .u8 0) ++ List.replicate (64 - bs.length) (Value.int .u8 0)) ++ (B.map u8).drop (0 + i * 64 + 64)) = (B.map u8).take (0 + i * 64) := by
    rw [List.append_assoc, List.take_append_of_le_length (by omega), List.take_take, Nat.min_self]
  have t2 : List.drop (0 + i * 64 + bs.length) (List.take (0 + i * 64) (B.map u8) ++ (List.replicate bs.length (Value.int .u8 0) ++ List.replicate (64 - bs.length) (Value.int .u8 0)) ++ (B.map u8).drop (0 + i * 64 + 64)) = List.replicate (64 - bs.length) (Value.int .u8 0) ++ (B.map u8).drop (0 + i * 64 + 64) := by
    rw [show 0 + i * 64 + bs.length = ((B.map u8).take (0 + i * 64)).length + bs.length by omega, List.append_assoc, List.append_assoc, List.drop_append, List.drop_eq_nil_of_le (by omega), List.nil_append]
    rw [show ((B.map u8).take (0 + i * 64)).length + bs.length - ((B.map u8).take (0 + i * 64)).length = bs.length by omega]
    have : bs.length = (List.replicate bs.length (Value.int .u8 0)).length := by simp
    conv => lhs; arg 1; rw [this]
    rw [List.drop_left']
    rfl
  rw [t1, t2]
  have z : u8 0 = Value.int .u8 0 := rfl
  simp only [List.append_assoc, z, Nat.zero_add, Nat.mul_comm]

theorem new_spec (k : Int) (w : World) :
    Calls Try.prog 14 [.int .i64 k].toArray w fun r w' => ∃ x : Nat × Nat, r = .returned (.pointer (some ⟨x.1, 0, none⟩)) ∧ True ∧ St w [] [(x.1, dkO x.2 (min (max k 0) 4096).toNat (-1) 0), (x.2, dkS (List.replicate (64 * (min (max k 0) 4096).toNat) 0))] w' := by
  refine calls_of_J (args := [.int .i64 k]) (e := [(0, .int .i64 k)]) Try.func14 rfl rfl ⟨rfl, trivial⟩ (St.start w) ?_
  refine JC.seq (fun K0 hK0 => ?_)
  refine JC.region ?_
  refine J.assign rfl rfl ?_
  refine J.nil ?_
  refine JX.thenN (hK0 _ _ ?_)
  refine JC.seq (fun K1 hK1 => ?_)
  refine JC.region ?_
  refine J.move rfl rfl ?_
  refine J.max2 rfl rfl rfl ?_
  refine J.min2 rfl rfl rfl ?_
  refine J.make Ty.el72 Ty.s75 Ty.b75 Ty.z75 rfl rfl rfl rfl (by omega) (by omega) (by omega) rfl (fun b6 => ?_)
  refine J.buildS Ty.pl74 Ty.z74 rfl rfl rfl ?_
  refine J.box rfl rfl rfl (fun b8 => ?_)
  refine J.assign rfl rfl ?_
  refine J.nil ?_
  refine JX.thenN (hK1 _ _ ?_)
  refine JC.ret ?_
  refine JX.ret1 rfl rfl (fun w hw => ?_)
  rw [flat64] at hw
  exact ⟨(b8, b6), rfl, trivial, hw⟩

theorem size_spec (d s n : Nat) (p k : Int) (w : World) {l : List (Nat × Obj)} (hw0 : Own w ((d, dkO s n p k) :: l)) :
    Calls Try.prog 23 [.pointer (some ⟨d, 0, none⟩)].toArray w fun r w' => r = .returned (.int .i64 n) ∧ Below w.heap.size w w' := by
  refine calls_of_J (args := [.pointer (some ⟨d, 0, none⟩)]) (e := [(0, .pointer (some ⟨d, 0, none⟩))]) Try.func23 rfl rfl ⟨rfl, trivial⟩ (hw0.st) ?_
  refine JC.seq (fun K0 hK0 => ?_)
  refine JC.region ?_
  refine J.assign rfl rfl ?_
  refine J.nil ?_
  refine JX.thenN (hK0 _ _ ?_)
  refine JC.seq (fun K1 hK1 => ?_)
  refine JC.seq (fun K2 hK2 => ?_)
  refine JC.region ?_
  refine J.move rfl rfl ?_
  refine J.eqNil Ty.u23 rfl rfl rfl ?_
  refine J.nil ?_
  refine JX.thenN (hK2 _ _ ?_)
  first | refine JC.condF rfl ?_ | refine JC.cond rfl (fun h => by first | (exfalso; simp at h; omega) | (simp at h)) (fun _ => ?_)
  refine JC.skip ?_
  refine JX.thenN (hK1 _ _ ?_)
  refine JC.seq (fun K3 hK3 => ?_)
  refine JC.region ?_
  refine J.move rfl rfl ?_
  refine J.nilCheck rfl rfl ?_
  refine J.fieldAddr Ty.fd74_0 rfl rfl ?_
  (first | refine J.loadO Ty.a72 rfl (.head _) rfl rfl ?_ | refine J.loadO Ty.a72 rfl (.tail _ (.head _)) rfl rfl ?_ | refine J.loadO Ty.a72 rfl (.tail _ (.tail _ (.head _))) rfl rfl ?_ | refine J.loadO Ty.a72 rfl (.tail _ (.tail _ (.tail _ (.head _)))) rfl rfl ?_ | refine J.loadO Ty.a72 rfl (.tail _ (.tail _ (.tail _ (.tail _ (.head _))))) rfl rfl ?_ | refine J.loadO Ty.a72 rfl (List.mem_append_right _ (.head _)) rfl rfl ?_ | refine J.loadO Ty.a72 rfl (List.mem_append_right _ (.tail _ (.head _))) rfl rfl ?_ | refine J.loadO Ty.a72 rfl (List.mem_append_right _ (.tail _ (.tail _ (.head _)))) rfl rfl ?_ | refine J.loadO Ty.a72 rfl (List.mem_append_right _ (.tail _ (.tail _ (.tail _ (.head _))))) rfl rfl ?_ | refine J.loadO Ty.a72 rfl (List.mem_append_right _ (.tail _ (.tail _ (.tail _ (.tail _ (.head _)))))) rfl rfl ?_)
  refine J.lenS rfl Ty.u72 rfl rfl ?_
  refine J.assign rfl rfl ?_
  refine J.nil ?_
  refine JX.thenN (hK3 _ _ ?_)
  refine JC.ret ?_
  refine JX.ret1 rfl rfl (fun w hw => ?_)
  exact ⟨rfl, hw.same hw0 (fun p hp => hp)⟩

theorem size_nil (w : World) :
    Calls Try.prog 23 [.pointer none].toArray w fun r w' => r = .returned (.int .i64 0) ∧ Below w.heap.size w w' := by
  refine calls_of_J (args := [.pointer none]) (e := [(0, .pointer none)]) Try.func23 rfl rfl ⟨rfl, trivial⟩ (St.start w) ?_
  refine JC.seq (fun K0 hK0 => ?_)
  refine JC.region ?_
  refine J.assign rfl rfl ?_
  refine J.nil ?_
  refine JX.thenN (hK0 _ _ ?_)
  refine JC.seq (fun K1 hK1 => ?_)
  refine JC.seq (fun K2 hK2 => ?_)
  refine JC.region ?_
  refine J.move rfl rfl ?_
  refine J.eqNil Ty.u23 rfl rfl rfl ?_
  refine J.nil ?_
  refine JX.thenN (hK2 _ _ ?_)
  first | refine JC.condT rfl ?_ | refine JC.cond rfl (fun _ => ?_) (fun h => by first | (exfalso; simp at h; omega) | (simp at h))
  refine JC.seq (fun K3 hK3 => ?_)
  refine JC.region ?_
  refine J.assign rfl rfl ?_
  refine J.nil ?_
  refine JX.thenN (hK3 _ _ ?_)
  refine JC.ret ?_
  refine JX.thenR ?_
  refine JX.ret1 rfl rfl (fun w hw => ?_)
  exact ⟨rfl, hw.below⟩

theorem done_spec (d s n : Nat) (p k : Int) (w : World) {l : List (Nat × Obj)} (hw0 : Own w ((d, dkO s n p k) :: l)) :
    Calls Try.prog 22 [.pointer (some ⟨d, 0, none⟩)].toArray w fun r w' => r = .returned (.int .i64 k) ∧ Below w.heap.size w w' := by
  refine calls_of_J (args := [.pointer (some ⟨d, 0, none⟩)]) (e := [(0, .pointer (some ⟨d, 0, none⟩))]) Try.func22 rfl rfl ⟨rfl, trivial⟩ (hw0.st) ?_
  refine JC.seq (fun K0 hK0 => ?_)
  refine JC.region ?_
  refine J.assign rfl rfl ?_
  refine J.nil ?_
  refine JX.thenN (hK0 _ _ ?_)
  refine JC.seq (fun K1 hK1 => ?_)
  refine JC.seq (fun K2 hK2 => ?_)
  refine JC.region ?_
  refine J.move rfl rfl ?_
  refine J.eqNil Ty.u23 rfl rfl rfl ?_
  refine J.nil ?_
  refine JX.thenN (hK2 _ _ ?_)
  first | refine JC.condF rfl ?_ | refine JC.cond rfl (fun h => by first | (exfalso; simp at h; omega) | (simp at h)) (fun _ => ?_)
  refine JC.skip ?_
  refine JX.thenN (hK1 _ _ ?_)
  refine JC.seq (fun K3 hK3 => ?_)
  refine JC.region ?_
  refine J.move rfl rfl ?_
  refine J.nilCheck rfl rfl ?_
  refine J.fieldAddr Ty.fd74_2 rfl rfl ?_
  (first | refine J.loadO Ty.a3 rfl (.head _) rfl rfl ?_ | refine J.loadO Ty.a3 rfl (.tail _ (.head _)) rfl rfl ?_ | refine J.loadO Ty.a3 rfl (.tail _ (.tail _ (.head _))) rfl rfl ?_ | refine J.loadO Ty.a3 rfl (.tail _ (.tail _ (.tail _ (.head _)))) rfl rfl ?_ | refine J.loadO Ty.a3 rfl (.tail _ (.tail _ (.tail _ (.tail _ (.head _))))) rfl rfl ?_ | refine J.loadO Ty.a3 rfl (List.mem_append_right _ (.head _)) rfl rfl ?_ | refine J.loadO Ty.a3 rfl (List.mem_append_right _ (.tail _ (.head _))) rfl rfl ?_ | refine J.loadO Ty.a3 rfl (List.mem_append_right _ (.tail _ (.tail _ (.head _)))) rfl rfl ?_ | refine J.loadO Ty.a3 rfl (List.mem_append_right _ (.tail _ (.tail _ (.tail _ (.head _))))) rfl rfl ?_ | refine J.loadO Ty.a3 rfl (List.mem_append_right _ (.tail _ (.tail _ (.tail _ (.tail _ (.head _)))))) rfl rfl ?_)
  refine J.assign rfl rfl ?_
  refine J.nil ?_
  refine JX.thenN (hK3 _ _ ?_)
  refine JC.ret ?_
  refine JX.ret1 rfl rfl (fun w hw => ?_)
  exact ⟨rfl, hw.same hw0 (fun p hp => hp)⟩

theorem done_nil (w : World) :
    Calls Try.prog 22 [.pointer none].toArray w fun r w' => r = .returned (.int .i64 0) ∧ Below w.heap.size w w' := by
  refine calls_of_J (args := [.pointer none]) (e := [(0, .pointer none)]) Try.func22 rfl rfl ⟨rfl, trivial⟩ (St.start w) ?_
  refine JC.seq (fun K0 hK0 => ?_)
  refine JC.region ?_
  refine J.assign rfl rfl ?_
  refine J.nil ?_
  refine JX.thenN (hK0 _ _ ?_)
  refine JC.seq (fun K1 hK1 => ?_)
  refine JC.seq (fun K2 hK2 => ?_)
  refine JC.region ?_
  refine J.move rfl rfl ?_
  refine J.eqNil Ty.u23 rfl rfl rfl ?_
  refine J.nil ?_
  refine JX.thenN (hK2 _ _ ?_)
  first | refine JC.condT rfl ?_ | refine JC.cond rfl (fun _ => ?_) (fun h => by first | (exfalso; simp at h; omega) | (simp at h))
  refine JC.seq (fun K3 hK3 => ?_)
  refine JC.region ?_
  refine J.assign rfl rfl ?_
  refine J.nil ?_
  refine JX.thenN (hK3 _ _ ?_)
  refine JC.ret ?_
  refine JX.thenR ?_
  refine JX.ret1 rfl rfl (fun w hw => ?_)
  exact ⟨rfl, hw.below⟩

theorem power_spec (d s n : Nat) (p k q : Int) (w : World) (hw0 : Own w [(d, dkO s n p k)]) :
    Calls Try.prog 19 [.pointer (some ⟨d, 0, none⟩), .int .i64 q].toArray w fun r w' => r = .returned (.tuple #[]) ∧ St w [d] [(d, dkO s n (max q (-1)) k)] w' := by
  refine calls_of_J (args := [.pointer (some ⟨d, 0, none⟩), .int .i64 q]) (e := [(0, .pointer (some ⟨d, 0, none⟩)), (1, .int .i64 q)]) Try.func19 rfl rfl ⟨rfl, rfl, trivial⟩ (hw0.st) ?_
  refine JC.seq (fun K0 hK0 => ?_)
  refine JC.region ?_
  refine J.move rfl rfl ?_
  refine J.neNil Ty.u23 rfl rfl rfl ?_
  refine J.nil ?_
  refine JX.thenN (hK0 _ _ ?_)
  first | refine JC.condT rfl ?_ | refine JC.cond rfl (fun _ => ?_) (fun h => by first | (exfalso; simp at h; omega) | (simp at h))
  refine JC.region ?_
  refine J.move rfl rfl ?_
  refine J.move rfl rfl ?_
  refine J.max2 rfl rfl rfl ?_
  refine J.nilCheck rfl rfl ?_
  refine J.fieldAddr Ty.fd74_1 rfl rfl ?_
  (first | refine J.storeO Ty.s3 rfl rfl rfl rfl (by simp [Value.oneCell']) .here (by simp) ?_ | refine J.storeO Ty.s3 rfl rfl rfl rfl (by simp [Value.oneCell']) (.there .here) (by simp) ?_ | refine J.storeO Ty.s3 rfl rfl rfl rfl (by simp [Value.oneCell']) (.there (.there .here)) (by simp) ?_ | refine J.storeO Ty.s3 rfl rfl rfl rfl (by simp [Value.oneCell']) (.there (.there (.there .here))) (by simp) ?_)
  refine J.nil ?_
  refine JX.end0 rfl (fun w hw => ?_)
  exact ⟨rfl, hw⟩

theorem power_nil (q : Int) (w : World) :
    Calls Try.prog 19 [.pointer none, .int .i64 q].toArray w fun r w' => r = .returned (.tuple #[]) ∧ Below w.heap.size w w' := by
  refine calls_of_J (args := [.pointer none, .int .i64 q]) (e := [(0, .pointer none), (1, .int .i64 q)]) Try.func19 rfl rfl ⟨rfl, rfl, trivial⟩ (St.start w) ?_
  refine JC.seq (fun K0 hK0 => ?_)
  refine JC.region ?_
  refine J.move rfl rfl ?_
  refine J.neNil Ty.u23 rfl rfl rfl ?_
  refine J.nil ?_
  refine JX.thenN (hK0 _ _ ?_)
  first | refine JC.condF rfl ?_ | refine JC.cond rfl (fun h => by first | (exfalso; simp at h; omega) | (simp at h)) (fun _ => ?_)
  refine JC.skip ?_
  refine JX.end0 rfl (fun w hw => ?_)
  exact ⟨rfl, hw.below⟩

theorem read_nil (i : Int) (w : World) :
    Calls Try.prog 20 [.pointer none, .int .i64 i].toArray w fun r w' => r = .returned (.tuple #[.slice none 0 0, .int .i64 1]) ∧ Below w.heap.size w w' := by
  refine calls_of_J (args := [.pointer none, .int .i64 i]) (e := [(0, .pointer none), (1, .int .i64 i)]) Try.func20 rfl rfl ⟨rfl, rfl, trivial⟩ (St.start w) ?_
  refine JC.seq (fun K0 hK0 => ?_)
  refine JC.region ?_
  refine J.assign rfl rfl ?_
  refine J.assign rfl rfl ?_
  refine J.nil ?_
  refine JX.thenN (hK0 _ _ ?_)
  refine JC.seq (fun K1 hK1 => ?_)
  refine JC.seq (fun K2 hK2 => ?_)
  refine JC.region ?_
  refine J.move rfl rfl ?_
  refine J.eqNil Ty.u23 rfl rfl rfl ?_
  refine J.move rfl rfl ?_
  first
    | (refine J.skip rfl rfl rfl rfl rfl ?_)
    | (refine J.skipU rfl rfl rfl rfl ?_)
    | (refine J.unguard rfl rfl rfl ?_; refine J.move rfl rfl ?_)
  first
    | (refine J.skip rfl rfl rfl rfl rfl ?_)
    | (refine J.skipU rfl rfl rfl rfl ?_)
    | (refine J.unguard rfl rfl rfl ?_; refine J.bin rfl rfl rfl rfl ?_)
  (first | refine J.pickT rfl rfl rfl ?_ | refine J.pickF rfl rfl rfl ?_)
  refine J.move rfl rfl ?_
  first
    | (refine J.skip rfl rfl rfl rfl rfl ?_)
    | (refine J.skipU rfl rfl rfl rfl ?_)
    | (refine J.unguard rfl rfl rfl ?_; refine J.move rfl rfl ?_)
  first
    | (refine J.skip rfl rfl rfl rfl rfl ?_)
    | (refine J.skipU rfl rfl rfl rfl ?_)
    | (refine J.unguard rfl rfl rfl ?_; refine J.move rfl rfl ?_)
  first
    | (refine J.skip rfl rfl rfl rfl rfl ?_)
    | (refine J.skipU rfl rfl rfl rfl ?_)
    | (refine J.unguard rfl rfl rfl ?_; refine J.nilCheck rfl rfl ?_)
  first
    | (refine J.skip rfl rfl rfl rfl rfl ?_)
    | (refine J.skipU rfl rfl rfl rfl ?_)
    | (refine J.unguard rfl rfl rfl ?_; refine J.fieldAddr Ty.fd74_0 rfl rfl ?_)
  first
    | (refine J.skip rfl rfl rfl rfl rfl ?_)
    | (refine J.skipU rfl rfl rfl rfl ?_)
    | (refine J.unguard rfl rfl rfl ?_; (first | refine J.loadO Ty.a72 rfl (.head _) rfl rfl ?_ | refine J.loadO Ty.a72 rfl (.tail _ (.head _)) rfl rfl ?_ | refine J.loadO Ty.a72 rfl (.tail _ (.tail _ (.head _))) rfl rfl ?_ | refine J.loadO Ty.a72 rfl (.tail _ (.tail _ (.tail _ (.head _)))) rfl rfl ?_ | refine J.loadO Ty.a72 rfl (.tail _ (.tail _ (.tail _ (.tail _ (.head _))))) rfl rfl ?_ | refine J.loadO Ty.a72 rfl (List.mem_append_right _ (.head _)) rfl rfl ?_ | refine J.loadO Ty.a72 rfl (List.mem_append_right _ (.tail _ (.head _))) rfl rfl ?_ | refine J.loadO Ty.a72 rfl (List.mem_append_right _ (.tail _ (.tail _ (.head _)))) rfl rfl ?_ | refine J.loadO Ty.a72 rfl (List.mem_append_right _ (.tail _ (.tail _ (.tail _ (.head _))))) rfl rfl ?_ | refine J.loadO Ty.a72 rfl (List.mem_append_right _ (.tail _ (.tail _ (.tail _ (.tail _ (.head _)))))) rfl rfl ?_))
  first
    | (refine J.skip rfl rfl rfl rfl rfl ?_)
    | (refine J.skipU rfl rfl rfl rfl ?_)
    | (refine J.unguard rfl rfl rfl ?_; refine J.lenS rfl Ty.u72 rfl rfl ?_)
  first
    | (refine J.skip rfl rfl rfl rfl rfl ?_)
    | (refine J.skipU rfl rfl rfl rfl ?_)
    | (refine J.unguard rfl rfl rfl ?_; refine J.bin rfl rfl rfl rfl ?_)
  (first | refine J.pickT rfl rfl rfl ?_ | refine J.pickF rfl rfl rfl ?_)
  refine J.nil ?_
  refine JX.thenN (hK2 _ _ ?_)
  first | refine JC.condT rfl ?_ | refine JC.cond rfl (fun _ => ?_) (fun h => by first | (exfalso; simp at h; omega) | (simp at h))
  refine JC.seq (fun K3 hK3 => ?_)
  refine JC.region ?_
  refine J.assign rfl rfl ?_
  refine J.assign rfl rfl ?_
  refine J.nil ?_
  refine JX.thenN (hK3 _ _ ?_)
  refine JC.ret ?_
  refine JX.thenR ?_
  refine JX.ret2 rfl rfl rfl (fun w hw => ?_)
  exact ⟨rfl, hw.below⟩

theorem read_neg (d s n : Nat) (p k : Int) (w : World) {l : List (Nat × Obj)} (hw0 : Own w ((d, dkO s n p k) :: l)) (i : Int) (hi : i < 0) :
    Calls Try.prog 20 [.pointer (some ⟨d, 0, none⟩), .int .i64 i].toArray w fun r w' => r = .returned (.tuple #[.slice none 0 0, .int .i64 1]) ∧ Below w.heap.size w w' := by
  refine calls_of_J (args := [.pointer (some ⟨d, 0, none⟩), .int .i64 i]) (e := [(0, .pointer (some ⟨d, 0, none⟩)), (1, .int .i64 i)]) Try.func20 rfl rfl ⟨rfl, rfl, trivial⟩ (hw0.st) ?_
  refine JC.seq (fun K0 hK0 => ?_)
  refine JC.region ?_
  refine J.assign rfl rfl ?_
  refine J.assign rfl rfl ?_
  refine J.nil ?_
  refine JX.thenN (hK0 _ _ ?_)
  refine JC.seq (fun K1 hK1 => ?_)
  refine JC.seq (fun K2 hK2 => ?_)
  refine JC.region ?_
  refine J.move rfl rfl ?_
  refine J.eqNil Ty.u23 rfl rfl rfl ?_
  refine J.move rfl rfl ?_
  first
    | (refine J.skip rfl rfl rfl rfl rfl ?_)
    | (refine J.skipU rfl rfl rfl rfl ?_)
    | (refine J.unguard rfl rfl rfl ?_; refine J.move rfl rfl ?_)
  first
    | (refine J.skip rfl rfl rfl rfl rfl ?_)
    | (refine J.skipU rfl rfl rfl rfl ?_)
    | (refine J.unguard rfl rfl rfl ?_; refine J.bin rfl rfl rfl rfl ?_)
  (first | refine J.pickT rfl rfl rfl ?_ | refine J.pickF rfl rfl rfl ?_)
  refine J.move rfl rfl ?_
  refine J.split 12 rfl (fun _ => ?_) (fun h => by first | (exfalso; simp at h; omega) | (simp at h))
  first
    | (refine J.skip rfl rfl rfl rfl rfl ?_)
    | (refine J.skipU rfl rfl rfl rfl ?_)
    | (refine J.unguard rfl rfl rfl ?_; refine J.move rfl rfl ?_)
  first
    | (refine J.skip rfl rfl rfl rfl rfl ?_)
    | (refine J.skipU rfl rfl rfl rfl ?_)
    | (refine J.unguard rfl rfl rfl ?_; refine J.move rfl rfl ?_)
  first
    | (refine J.skip rfl rfl rfl rfl rfl ?_)
    | (refine J.skipU rfl rfl rfl rfl ?_)
    | (refine J.unguard rfl rfl rfl ?_; refine J.nilCheck rfl rfl ?_)
  first
    | (refine J.skip rfl rfl rfl rfl rfl ?_)
    | (refine J.skipU rfl rfl rfl rfl ?_)
    | (refine J.unguard rfl rfl rfl ?_; refine J.fieldAddr Ty.fd74_0 rfl rfl ?_)
  first
    | (refine J.skip rfl rfl rfl rfl rfl ?_)
    | (refine J.skipU rfl rfl rfl rfl ?_)
    | (refine J.unguard rfl rfl rfl ?_; (first | refine J.loadO Ty.a72 rfl (.head _) rfl rfl ?_ | refine J.loadO Ty.a72 rfl (.tail _ (.head _)) rfl rfl ?_ | refine J.loadO Ty.a72 rfl (.tail _ (.tail _ (.head _))) rfl rfl ?_ | refine J.loadO Ty.a72 rfl (.tail _ (.tail _ (.tail _ (.head _)))) rfl rfl ?_ | refine J.loadO Ty.a72 rfl (.tail _ (.tail _ (.tail _ (.tail _ (.head _))))) rfl rfl ?_ | refine J.loadO Ty.a72 rfl (List.mem_append_right _ (.head _)) rfl rfl ?_ | refine J.loadO Ty.a72 rfl (List.mem_append_right _ (.tail _ (.head _))) rfl rfl ?_ | refine J.loadO Ty.a72 rfl (List.mem_append_right _ (.tail _ (.tail _ (.head _)))) rfl rfl ?_ | refine J.loadO Ty.a72 rfl (List.mem_append_right _ (.tail _ (.tail _ (.tail _ (.head _))))) rfl rfl ?_ | refine J.loadO Ty.a72 rfl (List.mem_append_right _ (.tail _ (.tail _ (.tail _ (.tail _ (.head _)))))) rfl rfl ?_))
  first
    | (refine J.skip rfl rfl rfl rfl rfl ?_)
    | (refine J.skipU rfl rfl rfl rfl ?_)
    | (refine J.unguard rfl rfl rfl ?_; refine J.lenS rfl Ty.u72 rfl rfl ?_)
  first
    | (refine J.skip rfl rfl rfl rfl rfl ?_)
    | (refine J.skipU rfl rfl rfl rfl ?_)
    | (refine J.unguard rfl rfl rfl ?_; refine J.bin rfl rfl rfl rfl ?_)
  (first | refine J.pickT rfl rfl rfl ?_ | refine J.pickF rfl rfl rfl ?_)
  refine J.nil ?_
  refine JX.thenN (hK2 _ _ ?_)
  first | refine JC.condT rfl ?_ | refine JC.cond rfl (fun _ => ?_) (fun h => by first | (exfalso; simp at h; omega) | (simp at h))
  refine JC.seq (fun K3 hK3 => ?_)
  refine JC.region ?_
  refine J.assign rfl rfl ?_
  refine J.assign rfl rfl ?_
  refine J.nil ?_
  refine JX.thenN (hK3 _ _ ?_)
  refine JC.ret ?_
  refine JX.thenR ?_
  refine JX.ret2 rfl rfl rfl (fun w hw => ?_)
  exact ⟨rfl, hw.same hw0 (fun p hp => hp)⟩

theorem read_high (d s n : Nat) (p k : Int) (w : World) {l : List (Nat × Obj)} (hw0 : Own w ((d, dkO s n p k) :: l)) (i : Int) (hi : 0 ≤ i) (hi2 : (n : Int) ≤ i) :
    Calls Try.prog 20 [.pointer (some ⟨d, 0, none⟩), .int .i64 i].toArray w fun r w' => r = .returned (.tuple #[.slice none 0 0, .int .i64 1]) ∧ Below w.heap.size w w' := by
  refine calls_of_J (args := [.pointer (some ⟨d, 0, none⟩), .int .i64 i]) (e := [(0, .pointer (some ⟨d, 0, none⟩)), (1, .int .i64 i)]) Try.func20 rfl rfl ⟨rfl, rfl, trivial⟩ (hw0.st) ?_
  refine JC.seq (fun K0 hK0 => ?_)
  refine JC.region ?_
  refine J.assign rfl rfl ?_
  refine J.assign rfl rfl ?_
  refine J.nil ?_
  refine JX.thenN (hK0 _ _ ?_)
  refine JC.seq (fun K1 hK1 => ?_)
  refine JC.seq (fun K2 hK2 => ?_)
  refine JC.region ?_
  refine J.move rfl rfl ?_
  refine J.eqNil Ty.u23 rfl rfl rfl ?_
  refine J.move rfl rfl ?_
  first
    | (refine J.skip rfl rfl rfl rfl rfl ?_)
    | (refine J.skipU rfl rfl rfl rfl ?_)
    | (refine J.unguard rfl rfl rfl ?_; refine J.move rfl rfl ?_)
  first
    | (refine J.skip rfl rfl rfl rfl rfl ?_)
    | (refine J.skipU rfl rfl rfl rfl ?_)
    | (refine J.unguard rfl rfl rfl ?_; refine J.bin rfl rfl rfl rfl ?_)
  (first | refine J.pickT rfl rfl rfl ?_ | refine J.pickF rfl rfl rfl ?_)
  refine J.move rfl rfl ?_
  refine J.split 12 rfl (fun h => by first | (exfalso; simp at h; omega) | (simp at h)) (fun _ => ?_)
  first
    | (refine J.skip rfl rfl rfl rfl rfl ?_)
    | (refine J.skipU rfl rfl rfl rfl ?_)
    | (refine J.unguard rfl rfl rfl ?_; refine J.move rfl rfl ?_)
  first
    | (refine J.skip rfl rfl rfl rfl rfl ?_)
    | (refine J.skipU rfl rfl rfl rfl ?_)
    | (refine J.unguard rfl rfl rfl ?_; refine J.move rfl rfl ?_)
  first
    | (refine J.skip rfl rfl rfl rfl rfl ?_)
    | (refine J.skipU rfl rfl rfl rfl ?_)
    | (refine J.unguard rfl rfl rfl ?_; refine J.nilCheck rfl rfl ?_)
  first
    | (refine J.skip rfl rfl rfl rfl rfl ?_)
    | (refine J.skipU rfl rfl rfl rfl ?_)
    | (refine J.unguard rfl rfl rfl ?_; refine J.fieldAddr Ty.fd74_0 rfl rfl ?_)
  first
    | (refine J.skip rfl rfl rfl rfl rfl ?_)
    | (refine J.skipU rfl rfl rfl rfl ?_)
    | (refine J.unguard rfl rfl rfl ?_; (first | refine J.loadO Ty.a72 rfl (.head _) rfl rfl ?_ | refine J.loadO Ty.a72 rfl (.tail _ (.head _)) rfl rfl ?_ | refine J.loadO Ty.a72 rfl (.tail _ (.tail _ (.head _))) rfl rfl ?_ | refine J.loadO Ty.a72 rfl (.tail _ (.tail _ (.tail _ (.head _)))) rfl rfl ?_ | refine J.loadO Ty.a72 rfl (.tail _ (.tail _ (.tail _ (.tail _ (.head _))))) rfl rfl ?_ | refine J.loadO Ty.a72 rfl (List.mem_append_right _ (.head _)) rfl rfl ?_ | refine J.loadO Ty.a72 rfl (List.mem_append_right _ (.tail _ (.head _))) rfl rfl ?_ | refine J.loadO Ty.a72 rfl (List.mem_append_right _ (.tail _ (.tail _ (.head _)))) rfl rfl ?_ | refine J.loadO Ty.a72 rfl (List.mem_append_right _ (.tail _ (.tail _ (.tail _ (.head _))))) rfl rfl ?_ | refine J.loadO Ty.a72 rfl (List.mem_append_right _ (.tail _ (.tail _ (.tail _ (.tail _ (.head _)))))) rfl rfl ?_))
  first
    | (refine J.skip rfl rfl rfl rfl rfl ?_)
    | (refine J.skipU rfl rfl rfl rfl ?_)
    | (refine J.unguard rfl rfl rfl ?_; refine J.lenS rfl Ty.u72 rfl rfl ?_)
  first
    | (refine J.skip rfl rfl rfl rfl rfl ?_)
    | (refine J.skipU rfl rfl rfl rfl ?_)
    | (refine J.unguard rfl rfl rfl ?_; refine J.bin rfl rfl rfl rfl ?_)
  (first | refine J.pickT rfl rfl rfl ?_ | refine J.pickF rfl rfl rfl ?_)
  refine J.nil ?_
  refine JX.thenN (hK2 _ _ ?_)
  first | refine JC.condT rfl ?_ | refine JC.cond rfl (fun _ => ?_) (fun h => by first | (exfalso; simp at h; omega) | (simp at h))
  refine JC.seq (fun K3 hK3 => ?_)
  refine JC.region ?_
  refine J.assign rfl rfl ?_
  refine J.assign rfl rfl ?_
  refine J.nil ?_
  refine JX.thenN (hK3 _ _ ?_)
  refine JC.ret ?_
  refine JX.thenR ?_
  refine JX.ret2 rfl rfl rfl (fun w hw => ?_)
  exact ⟨rfl, hw.same hw0 (fun p hp => hp)⟩

theorem read_spec (d s n : Nat) (B : List UInt8) (p k i : Int) (w : World) (hw0 : Own w [(d, dkO s n p k), (s, dkS B)]) (hB : B.length = 64 * n) (hi : 0 ≤ i) (hi2 : i < (n : Int)) :
    Calls Try.prog 20 [.pointer (some ⟨d, 0, none⟩), .int .i64 i].toArray w fun r w' => ∃ x : Value × List (Nat × Obj), r = .returned (.tuple #[x.1, .int .i64 0]) ∧ Vec 5 1 x.1 64 ((sec B i.toNat).map u8) x.2 ∧ St w [d, s] (x.2 ++ [(d, dkO s n p k), (s, dkS B)]) w' := by
  refine calls_of_J (args := [.pointer (some ⟨d, 0, none⟩), .int .i64 i]) (e := [(0, .pointer (some ⟨d, 0, none⟩)), (1, .int .i64 i)]) Try.func20 rfl rfl ⟨rfl, rfl, trivial⟩ (hw0.st) ?_
  refine JC.seq (fun K0 hK0 => ?_)
  refine JC.region ?_
  refine J.assign rfl rfl ?_
  refine J.assign rfl rfl ?_
  refine J.nil ?_
  refine JX.thenN (hK0 _ _ ?_)
  refine JC.seq (fun K1 hK1 => ?_)
  refine JC.seq (fun K2 hK2 => ?_)
  refine JC.region ?_
  refine J.move rfl rfl ?_
  refine J.eqNil Ty.u23 rfl rfl rfl ?_
  refine J.move rfl rfl ?_
  first
    | (refine J.skip rfl rfl rfl rfl rfl ?_)
    | (refine J.skipU rfl rfl rfl rfl ?_)
    | (refine J.unguard rfl rfl rfl ?_; refine J.move rfl rfl ?_)
  first
    | (refine J.skip rfl rfl rfl rfl rfl ?_)
    | (refine J.skipU rfl rfl rfl rfl ?_)
    | (refine J.unguard rfl rfl rfl ?_; refine J.bin rfl rfl rfl rfl ?_)
  (first | refine J.pickT rfl rfl rfl ?_ | refine J.pickF rfl rfl rfl ?_)
  refine J.move rfl rfl ?_
  refine J.split 12 rfl (fun h => by first | (exfalso; simp at h; omega) | (simp at h)) (fun _ => ?_)
  first
    | (refine J.skip rfl rfl rfl rfl rfl ?_)
    | (refine J.skipU rfl rfl rfl rfl ?_)
    | (refine J.unguard rfl rfl rfl ?_; refine J.move rfl rfl ?_)
  first
    | (refine J.skip rfl rfl rfl rfl rfl ?_)
    | (refine J.skipU rfl rfl rfl rfl ?_)
    | (refine J.unguard rfl rfl rfl ?_; refine J.move rfl rfl ?_)
  first
    | (refine J.skip rfl rfl rfl rfl rfl ?_)
    | (refine J.skipU rfl rfl rfl rfl ?_)
    | (refine J.unguard rfl rfl rfl ?_; refine J.nilCheck rfl rfl ?_)
  first
    | (refine J.skip rfl rfl rfl rfl rfl ?_)
    | (refine J.skipU rfl rfl rfl rfl ?_)
    | (refine J.unguard rfl rfl rfl ?_; refine J.fieldAddr Ty.fd74_0 rfl rfl ?_)
  first
    | (refine J.skip rfl rfl rfl rfl rfl ?_)
    | (refine J.skipU rfl rfl rfl rfl ?_)
    | (refine J.unguard rfl rfl rfl ?_; (first | refine J.loadO Ty.a72 rfl (.head _) rfl rfl ?_ | refine J.loadO Ty.a72 rfl (.tail _ (.head _)) rfl rfl ?_ | refine J.loadO Ty.a72 rfl (.tail _ (.tail _ (.head _))) rfl rfl ?_ | refine J.loadO Ty.a72 rfl (.tail _ (.tail _ (.tail _ (.head _)))) rfl rfl ?_ | refine J.loadO Ty.a72 rfl (.tail _ (.tail _ (.tail _ (.tail _ (.head _))))) rfl rfl ?_ | refine J.loadO Ty.a72 rfl (List.mem_append_right _ (.head _)) rfl rfl ?_ | refine J.loadO Ty.a72 rfl (List.mem_append_right _ (.tail _ (.head _))) rfl rfl ?_ | refine J.loadO Ty.a72 rfl (List.mem_append_right _ (.tail _ (.tail _ (.head _)))) rfl rfl ?_ | refine J.loadO Ty.a72 rfl (List.mem_append_right _ (.tail _ (.tail _ (.tail _ (.head _))))) rfl rfl ?_ | refine J.loadO Ty.a72 rfl (List.mem_append_right _ (.tail _ (.tail _ (.tail _ (.tail _ (.head _)))))) rfl rfl ?_))
  first
    | (refine J.skip rfl rfl rfl rfl rfl ?_)
    | (refine J.skipU rfl rfl rfl rfl ?_)
    | (refine J.unguard rfl rfl rfl ?_; refine J.lenS rfl Ty.u72 rfl rfl ?_)
  first
    | (refine J.skip rfl rfl rfl rfl rfl ?_)
    | (refine J.skipU rfl rfl rfl rfl ?_)
    | (refine J.unguard rfl rfl rfl ?_; refine J.bin rfl rfl rfl rfl ?_)
  (first | refine J.pickT rfl rfl rfl ?_ | refine J.pickF rfl rfl rfl ?_)
  refine J.nil ?_
  refine JX.thenN (hK2 _ _ ?_)
  first | refine JC.condF rfl ?_ | refine JC.cond rfl (fun h => by first | (exfalso; simp at h; omega) | (simp at h)) (fun _ => ?_)
  refine JC.skip ?_
  refine JX.thenN (hK1 _ _ ?_)
  refine JC.seq (fun K3 hK3 => ?_)
  refine JC.region ?_
  refine J.buildSl Ty.el28 Ty.s5 Ty.z5 rfl rfl rfl rfl rfl rfl rfl (fun b21 => ?_)
  refine J.move rfl rfl ?_
  refine J.nilCheck rfl rfl ?_
  refine J.fieldAddr Ty.fd74_0 rfl rfl ?_
  (first | refine J.loadO Ty.a72 rfl (.head _) rfl rfl ?_ | refine J.loadO Ty.a72 rfl (.tail _ (.head _)) rfl rfl ?_ | refine J.loadO Ty.a72 rfl (.tail _ (.tail _ (.head _))) rfl rfl ?_ | refine J.loadO Ty.a72 rfl (.tail _ (.tail _ (.tail _ (.head _)))) rfl rfl ?_ | refine J.loadO Ty.a72 rfl (.tail _ (.tail _ (.tail _ (.tail _ (.head _))))) rfl rfl ?_ | refine J.loadO Ty.a72 rfl (List.mem_append_right _ (.head _)) rfl rfl ?_ | refine J.loadO Ty.a72 rfl (List.mem_append_right _ (.tail _ (.head _))) rfl rfl ?_ | refine J.loadO Ty.a72 rfl (List.mem_append_right _ (.tail _ (.tail _ (.head _)))) rfl rfl ?_ | refine J.loadO Ty.a72 rfl (List.mem_append_right _ (.tail _ (.tail _ (.tail _ (.head _))))) rfl rfl ?_ | refine J.loadO Ty.a72 rfl (List.mem_append_right _ (.tail _ (.tail _ (.tail _ (.tail _ (.head _)))))) rfl rfl ?_)
  refine J.move rfl rfl ?_
  refine J.indexAddrS Ty.el72 Ty.s75 rfl rfl (by omega) (by omega) rfl ?_
  refine J.sliceAll Ty.ar75 (by rw [Ty.s5]; rfl) rfl rfl ?_
  refine J.append (lp := [(b21, cb [] 5)]) (xs := []) (ys := (sec B i.toNat).map u8) (k := 0) (m := 64) Ty.el28 Ty.s5 Ty.b5 Ty.z5 rfl (.inl ⟨5, Ty.u28⟩) rfl rfl ⟨rfl, .inr ⟨b21, 0, [], rfl, rfl, rfl, Nat.le_refl _⟩⟩ (fun w hw => .inl ?_) ?_ (one_u8 _) (by omega) (by omega) rfl (fun v29 lp29 hv29 => ?_)
  · exact Row.own (cs := B.map u8) (tb := 75) (fr := (0, 0)) hw (.tail _ (.tail _ (.head _))) (sec_cells hB i hi hi2) (Nat.le_refl _)
  · rw [List.length_map, sec_length hB i hi hi2]
  refine J.assign rfl rfl ?_
  refine J.assign rfl rfl ?_
  refine J.nil ?_
  refine JX.thenN (hK3 _ _ ?_)
  refine JC.ret ?_
  refine JX.ret2 rfl rfl rfl (fun w hw => ?_)
  exact ⟨(v29, lp29), rfl, by simpa using hv29, hw⟩

theorem write_nil (i : Int) (bv : Value) (w : World) :
    Calls Try.prog 17 [.pointer none, .int .i64 i, bv].toArray w fun r w' => r = .returned (.int .i64 1) ∧ Below w.heap.size w w' := by
  refine calls_of_J (args := [.pointer none, .int .i64 i, bv]) (e := [(0, .pointer none), (1, .int .i64 i), (2, bv)]) Try.func17 rfl rfl ⟨rfl, rfl, rfl, trivial⟩ (St.start w) ?_
  refine JC.seq (fun K0 hK0 => ?_)
  refine JC.region ?_
  refine J.assign rfl rfl ?_
  refine J.nil ?_
  refine JX.thenN (hK0 _ _ ?_)
  refine JC.seq (fun K1 hK1 => ?_)
  refine JC.block ?_
  refine JC.seq (fun K2 hK2 => ?_)
  refine JC.region ?_
  refine J.move rfl rfl ?_
  refine J.eqNil Ty.u23 rfl rfl rfl ?_
  refine J.move rfl rfl ?_
  first
    | (refine J.skip rfl rfl rfl rfl rfl ?_)
    | (refine J.skipU rfl rfl rfl rfl ?_)
    | (refine J.unguard rfl rfl rfl ?_; refine J.move rfl rfl ?_)
  first
    | (refine J.skip rfl rfl rfl rfl rfl ?_)
    | (refine J.skipU rfl rfl rfl rfl ?_)
    | (refine J.unguard rfl rfl rfl ?_; refine J.bin rfl rfl rfl rfl ?_)
  (first | refine J.pickT rfl rfl rfl ?_ | refine J.pickF rfl rfl rfl ?_)
  refine J.move rfl rfl ?_
  first
    | (refine J.skip rfl rfl rfl rfl rfl ?_)
    | (refine J.skipU rfl rfl rfl rfl ?_)
    | (refine J.unguard rfl rfl rfl ?_; refine J.move rfl rfl ?_)
  first
    | (refine J.skip rfl rfl rfl rfl rfl ?_)
    | (refine J.skipU rfl rfl rfl rfl ?_)
    | (refine J.unguard rfl rfl rfl ?_; refine J.move rfl rfl ?_)
  first
    | (refine J.skip rfl rfl rfl rfl rfl ?_)
    | (refine J.skipU rfl rfl rfl rfl ?_)
    | (refine J.unguard rfl rfl rfl ?_; refine J.nilCheck rfl rfl ?_)
  first
    | (refine J.skip rfl rfl rfl rfl rfl ?_)
    | (refine J.skipU rfl rfl rfl rfl ?_)
    | (refine J.unguard rfl rfl rfl ?_; refine J.fieldAddr Ty.fd74_0 rfl rfl ?_)
  first
    | (refine J.skip rfl rfl rfl rfl rfl ?_)
    | (refine J.skipU rfl rfl rfl rfl ?_)
    | (refine J.unguard rfl rfl rfl ?_; (first | refine J.loadO Ty.a72 rfl (.head _) rfl rfl ?_ | refine J.loadO Ty.a72 rfl (.tail _ (.head _)) rfl rfl ?_ | refine J.loadO Ty.a72 rfl (.tail _ (.tail _ (.head _))) rfl rfl ?_ | refine J.loadO Ty.a72 rfl (.tail _ (.tail _ (.tail _ (.head _)))) rfl rfl ?_ | refine J.loadO Ty.a72 rfl (.tail _ (.tail _ (.tail _ (.tail _ (.head _))))) rfl rfl ?_ | refine J.loadO Ty.a72 rfl (List.mem_append_right _ (.head _)) rfl rfl ?_ | refine J.loadO Ty.a72 rfl (List.mem_append_right _ (.tail _ (.head _))) rfl rfl ?_ | refine J.loadO Ty.a72 rfl (List.mem_append_right _ (.tail _ (.tail _ (.head _)))) rfl rfl ?_ | refine J.loadO Ty.a72 rfl (List.mem_append_right _ (.tail _ (.tail _ (.tail _ (.head _))))) rfl rfl ?_ | refine J.loadO Ty.a72 rfl (List.mem_append_right _ (.tail _ (.tail _ (.tail _ (.tail _ (.head _)))))) rfl rfl ?_))
  first
    | (refine J.skip rfl rfl rfl rfl rfl ?_)
    | (refine J.skipU rfl rfl rfl rfl ?_)
    | (refine J.unguard rfl rfl rfl ?_; refine J.lenS rfl Ty.u72 rfl rfl ?_)
  first
    | (refine J.skip rfl rfl rfl rfl rfl ?_)
    | (refine J.skipU rfl rfl rfl rfl ?_)
    | (refine J.unguard rfl rfl rfl ?_; refine J.bin rfl rfl rfl rfl ?_)
  (first | refine J.pickT rfl rfl rfl ?_ | refine J.pickF rfl rfl rfl ?_)
  refine J.assign rfl rfl ?_
  refine J.nil ?_
  refine JX.thenN (hK2 _ _ ?_)
  first | refine JC.condT rfl ?_ | refine JC.cond rfl (fun _ => ?_) (fun h => by first | (exfalso; simp at h; omega) | (simp at h))
  refine JC.seq (fun K3 hK3 => ?_)
  refine JC.region ?_
  refine J.assign rfl rfl ?_
  refine J.nil ?_
  refine JX.thenN (hK3 _ _ ?_)
  refine JC.ret ?_
  refine JX.blockR ?_
  refine JX.thenR ?_
  refine JX.ret1 rfl rfl (fun w hw => ?_)
  exact ⟨rfl, hw.below⟩

theorem write_neg (d s n : Nat) (p k : Int) (w : World) {l : List (Nat × Obj)} (hw0 : Own w ((d, dkO s n p k) :: l)) (i : Int) (bv : Value) (hi : i < 0) :
    Calls Try.prog 17 [.pointer (some ⟨d, 0, none⟩), .int .i64 i, bv].toArray w fun r w' => r = .returned (.int .i64 1) ∧ Below w.heap.size w w' := by
  refine calls_of_J (args := [.pointer (some ⟨d, 0, none⟩), .int .i64 i, bv]) (e := [(0, .pointer (some ⟨d, 0, none⟩)), (1, .int .i64 i), (2, bv)]) Try.func17 rfl rfl ⟨rfl, rfl, rfl, trivial⟩ (hw0.st) ?_
  refine JC.seq (fun K0 hK0 => ?_)
  refine JC.region ?_
  refine J.assign rfl rfl ?_
  refine J.nil ?_
  refine JX.thenN (hK0 _ _ ?_)
  refine JC.seq (fun K1 hK1 => ?_)
  refine JC.block ?_
  refine JC.seq (fun K2 hK2 => ?_)
  refine JC.region ?_
  refine J.move rfl rfl ?_
  refine J.eqNil Ty.u23 rfl rfl rfl ?_
  refine J.move rfl rfl ?_
  first
    | (refine J.skip rfl rfl rfl rfl rfl ?_)
    | (refine J.skipU rfl rfl rfl rfl ?_)
    | (refine J.unguard rfl rfl rfl ?_; refine J.move rfl rfl ?_)
  first
    | (refine J.skip rfl rfl rfl rfl rfl ?_)
    | (refine J.skipU rfl rfl rfl rfl ?_)
    | (refine J.unguard rfl rfl rfl ?_; refine J.bin rfl rfl rfl rfl ?_)
  (first | refine J.pickT rfl rfl rfl ?_ | refine J.pickF rfl rfl rfl ?_)
  refine J.move rfl rfl ?_
  refine J.split 14 rfl (fun _ => ?_) (fun h => by first | (exfalso; simp at h; omega) | (simp at h))
  first
    | (refine J.skip rfl rfl rfl rfl rfl ?_)
    | (refine J.skipU rfl rfl rfl rfl ?_)
    | (refine J.unguard rfl rfl rfl ?_; refine J.move rfl rfl ?_)
  first
    | (refine J.skip rfl rfl rfl rfl rfl ?_)
    | (refine J.skipU rfl rfl rfl rfl ?_)
    | (refine J.unguard rfl rfl rfl ?_; refine J.move rfl rfl ?_)
  first
    | (refine J.skip rfl rfl rfl rfl rfl ?_)
    | (refine J.skipU rfl rfl rfl rfl ?_)
    | (refine J.unguard rfl rfl rfl ?_; refine J.nilCheck rfl rfl ?_)
  first
    | (refine J.skip rfl rfl rfl rfl rfl ?_)
    | (refine J.skipU rfl rfl rfl rfl ?_)
    | (refine J.unguard rfl rfl rfl ?_; refine J.fieldAddr Ty.fd74_0 rfl rfl ?_)
  first
    | (refine J.skip rfl rfl rfl rfl rfl ?_)
    | (refine J.skipU rfl rfl rfl rfl ?_)
    | (refine J.unguard rfl rfl rfl ?_; (first | refine J.loadO Ty.a72 rfl (.head _) rfl rfl ?_ | refine J.loadO Ty.a72 rfl (.tail _ (.head _)) rfl rfl ?_ | refine J.loadO Ty.a72 rfl (.tail _ (.tail _ (.head _))) rfl rfl ?_ | refine J.loadO Ty.a72 rfl (.tail _ (.tail _ (.tail _ (.head _)))) rfl rfl ?_ | refine J.loadO Ty.a72 rfl (.tail _ (.tail _ (.tail _ (.tail _ (.head _))))) rfl rfl ?_ | refine J.loadO Ty.a72 rfl (List.mem_append_right _ (.head _)) rfl rfl ?_ | refine J.loadO Ty.a72 rfl (List.mem_append_right _ (.tail _ (.head _))) rfl rfl ?_ | refine J.loadO Ty.a72 rfl (List.mem_append_right _ (.tail _ (.tail _ (.head _)))) rfl rfl ?_ | refine J.loadO Ty.a72 rfl (List.mem_append_right _ (.tail _ (.tail _ (.tail _ (.head _))))) rfl rfl ?_ | refine J.loadO Ty.a72 rfl (List.mem_append_right _ (.tail _ (.tail _ (.tail _ (.tail _ (.head _)))))) rfl rfl ?_))
  first
    | (refine J.skip rfl rfl rfl rfl rfl ?_)
    | (refine J.skipU rfl rfl rfl rfl ?_)
    | (refine J.unguard rfl rfl rfl ?_; refine J.lenS rfl Ty.u72 rfl rfl ?_)
  first
    | (refine J.skip rfl rfl rfl rfl rfl ?_)
    | (refine J.skipU rfl rfl rfl rfl ?_)
    | (refine J.unguard rfl rfl rfl ?_; refine J.bin rfl rfl rfl rfl ?_)
  (first | refine J.pickT rfl rfl rfl ?_ | refine J.pickF rfl rfl rfl ?_)
  refine J.assign rfl rfl ?_
  refine J.nil ?_
  refine JX.thenN (hK2 _ _ ?_)
  first | refine JC.condT rfl ?_ | refine JC.cond rfl (fun _ => ?_) (fun h => by first | (exfalso; simp at h; omega) | (simp at h))
  refine JC.seq (fun K3 hK3 => ?_)
  refine JC.region ?_
  refine J.assign rfl rfl ?_
  refine J.nil ?_
  refine JX.thenN (hK3 _ _ ?_)
  refine JC.ret ?_
  refine JX.blockR ?_
  refine JX.thenR ?_
  refine JX.ret1 rfl rfl (fun w hw => ?_)
  exact ⟨rfl, hw.same hw0 (fun p hp => hp)⟩

theorem write_high (d s n : Nat) (p k : Int) (w : World) {l : List (Nat × Obj)} (hw0 : Own w ((d, dkO s n p k) :: l)) (i : Int) (bv : Value) (hi : 0 ≤ i) (hi2 : (n : Int) ≤ i) :
    Calls Try.prog 17 [.pointer (some ⟨d, 0, none⟩), .int .i64 i, bv].toArray w fun r w' => r = .returned (.int .i64 1) ∧ Below w.heap.size w w' := by
  refine calls_of_J (args := [.pointer (some ⟨d, 0, none⟩), .int .i64 i, bv]) (e := [(0, .pointer (some ⟨d, 0, none⟩)), (1, .int .i64 i), (2, bv)]) Try.func17 rfl rfl ⟨rfl, rfl, rfl, trivial⟩ (hw0.st) ?_
  refine JC.seq (fun K0 hK0 => ?_)
  refine JC.region ?_
  refine J.assign rfl rfl ?_
  refine J.nil ?_
  refine JX.thenN (hK0 _ _ ?_)
  refine JC.seq (fun K1 hK1 => ?_)
  refine JC.block ?_
  refine JC.seq (fun K2 hK2 => ?_)
  refine JC.region ?_
  refine J.move rfl rfl ?_
  refine J.eqNil Ty.u23 rfl rfl rfl ?_
  refine J.move rfl rfl ?_
  first
    | (refine J.skip rfl rfl rfl rfl rfl ?_)
    | (refine J.skipU rfl rfl rfl rfl ?_)
    | (refine J.unguard rfl rfl rfl ?_; refine J.move rfl rfl ?_)
  first
    | (refine J.skip rfl rfl rfl rfl rfl ?_)
    | (refine J.skipU rfl rfl rfl rfl ?_)
    | (refine J.unguard rfl rfl rfl ?_; refine J.bin rfl rfl rfl rfl ?_)
  (first | refine J.pickT rfl rfl rfl ?_ | refine J.pickF rfl rfl rfl ?_)
  refine J.move rfl rfl ?_
  refine J.split 14 rfl (fun h => by first | (exfalso; simp at h; omega) | (simp at h)) (fun _ => ?_)
  first
    | (refine J.skip rfl rfl rfl rfl rfl ?_)
    | (refine J.skipU rfl rfl rfl rfl ?_)
    | (refine J.unguard rfl rfl rfl ?_; refine J.move rfl rfl ?_)
  first
    | (refine J.skip rfl rfl rfl rfl rfl ?_)
    | (refine J.skipU rfl rfl rfl rfl ?_)
    | (refine J.unguard rfl rfl rfl ?_; refine J.move rfl rfl ?_)
  first
    | (refine J.skip rfl rfl rfl rfl rfl ?_)
    | (refine J.skipU rfl rfl rfl rfl ?_)
    | (refine J.unguard rfl rfl rfl ?_; refine J.nilCheck rfl rfl ?_)
  first
    | (refine J.skip rfl rfl rfl rfl rfl ?_)
    | (refine J.skipU rfl rfl rfl rfl ?_)
    | (refine J.unguard rfl rfl rfl ?_; refine J.fieldAddr Ty.fd74_0 rfl rfl ?_)
  first
    | (refine J.skip rfl rfl rfl rfl rfl ?_)
    | (refine J.skipU rfl rfl rfl rfl ?_)
    | (refine J.unguard rfl rfl rfl ?_; (first | refine J.loadO Ty.a72 rfl (.head _) rfl rfl ?_ | refine J.loadO Ty.a72 rfl (.tail _ (.head _)) rfl rfl ?_ | refine J.loadO Ty.a72 rfl (.tail _ (.tail _ (.head _))) rfl rfl ?_ | refine J.loadO Ty.a72 rfl (.tail _ (.tail _ (.tail _ (.head _)))) rfl rfl ?_ | refine J.loadO Ty.a72 rfl (.tail _ (.tail _ (.tail _ (.tail _ (.head _))))) rfl rfl ?_ | refine J.loadO Ty.a72 rfl (List.mem_append_right _ (.head _)) rfl rfl ?_ | refine J.loadO Ty.a72 rfl (List.mem_append_right _ (.tail _ (.head _))) rfl rfl ?_ | refine J.loadO Ty.a72 rfl (List.mem_append_right _ (.tail _ (.tail _ (.head _)))) rfl rfl ?_ | refine J.loadO Ty.a72 rfl (List.mem_append_right _ (.tail _ (.tail _ (.tail _ (.head _))))) rfl rfl ?_ | refine J.loadO Ty.a72 rfl (List.mem_append_right _ (.tail _ (.tail _ (.tail _ (.tail _ (.head _)))))) rfl rfl ?_))
  first
    | (refine J.skip rfl rfl rfl rfl rfl ?_)
    | (refine J.skipU rfl rfl rfl rfl ?_)
    | (refine J.unguard rfl rfl rfl ?_; refine J.lenS rfl Ty.u72 rfl rfl ?_)
  first
    | (refine J.skip rfl rfl rfl rfl rfl ?_)
    | (refine J.skipU rfl rfl rfl rfl ?_)
    | (refine J.unguard rfl rfl rfl ?_; refine J.bin rfl rfl rfl rfl ?_)
  (first | refine J.pickT rfl rfl rfl ?_ | refine J.pickF rfl rfl rfl ?_)
  refine J.assign rfl rfl ?_
  refine J.nil ?_
  refine JX.thenN (hK2 _ _ ?_)
  first | refine JC.condT rfl ?_ | refine JC.cond rfl (fun _ => ?_) (fun h => by first | (exfalso; simp at h; omega) | (simp at h))
  refine JC.seq (fun K3 hK3 => ?_)
  refine JC.region ?_
  refine J.assign rfl rfl ?_
  refine J.nil ?_
  refine JX.thenN (hK3 _ _ ?_)
  refine JC.ret ?_
  refine JX.blockR ?_
  refine JX.thenR ?_
  refine JX.ret1 rfl rfl (fun w hw => ?_)
  exact ⟨rfl, hw.same hw0 (fun p hp => hp)⟩

theorem write_long (d s n : Nat) (p k : Int) (w : World) {l : List (Nat × Obj)} (hw0 : Own w ((d, dkO s n p k) :: l)) (i : Int) (a : Option Addr) (m c : Nat) (hi : 0 ≤ i) (hi2 : i < (n : Int)) (hm : 64 < m) :
    Calls Try.prog 17 [.pointer (some ⟨d, 0, none⟩), .int .i64 i, .slice a m c].toArray w fun r w' => r = .returned (.int .i64 4) ∧ Below w.heap.size w w' := by
  refine calls_of_J (args := [.pointer (some ⟨d, 0, none⟩), .int .i64 i, .slice a m c]) (e := [(0, .pointer (some ⟨d, 0, none⟩)), (1, .int .i64 i), (2, .slice a m c)]) Try.func17 rfl rfl ⟨rfl, rfl, rfl, trivial⟩ (hw0.st) ?_
  refine JC.seq (fun K0 hK0 => ?_)
  refine JC.region ?_
  refine J.assign rfl rfl ?_
  refine J.nil ?_
  refine JX.thenN (hK0 _ _ ?_)
  refine JC.seq (fun K1 hK1 => ?_)
  refine JC.block ?_
  refine JC.seq (fun K2 hK2 => ?_)
  refine JC.region ?_
  refine J.move rfl rfl ?_
  refine J.eqNil Ty.u23 rfl rfl rfl ?_
  refine J.move rfl rfl ?_
  first
    | (refine J.skip rfl rfl rfl rfl rfl ?_)
    | (refine J.skipU rfl rfl rfl rfl ?_)
    | (refine J.unguard rfl rfl rfl ?_; refine J.move rfl rfl ?_)
  first
    | (refine J.skip rfl rfl rfl rfl rfl ?_)
    | (refine J.skipU rfl rfl rfl rfl ?_)
    | (refine J.unguard rfl rfl rfl ?_; refine J.bin rfl rfl rfl rfl ?_)
  (first | refine J.pickT rfl rfl rfl ?_ | refine J.pickF rfl rfl rfl ?_)
  refine J.move rfl rfl ?_
  refine J.split 14 rfl (fun h => by first | (exfalso; simp at h; omega) | (simp at h)) (fun _ => ?_)
  first
    | (refine J.skip rfl rfl rfl rfl rfl ?_)
    | (refine J.skipU rfl rfl rfl rfl ?_)
    | (refine J.unguard rfl rfl rfl ?_; refine J.move rfl rfl ?_)
  first
    | (refine J.skip rfl rfl rfl rfl rfl ?_)
    | (refine J.skipU rfl rfl rfl rfl ?_)
    | (refine J.unguard rfl rfl rfl ?_; refine J.move rfl rfl ?_)
  first
    | (refine J.skip rfl rfl rfl rfl rfl ?_)
    | (refine J.skipU rfl rfl rfl rfl ?_)
    | (refine J.unguard rfl rfl rfl ?_; refine J.nilCheck rfl rfl ?_)
  first
    | (refine J.skip rfl rfl rfl rfl rfl ?_)
    | (refine J.skipU rfl rfl rfl rfl ?_)
    | (refine J.unguard rfl rfl rfl ?_; refine J.fieldAddr Ty.fd74_0 rfl rfl ?_)
  first
    | (refine J.skip rfl rfl rfl rfl rfl ?_)
    | (refine J.skipU rfl rfl rfl rfl ?_)
    | (refine J.unguard rfl rfl rfl ?_; (first | refine J.loadO Ty.a72 rfl (.head _) rfl rfl ?_ | refine J.loadO Ty.a72 rfl (.tail _ (.head _)) rfl rfl ?_ | refine J.loadO Ty.a72 rfl (.tail _ (.tail _ (.head _))) rfl rfl ?_ | refine J.loadO Ty.a72 rfl (.tail _ (.tail _ (.tail _ (.head _)))) rfl rfl ?_ | refine J.loadO Ty.a72 rfl (.tail _ (.tail _ (.tail _ (.tail _ (.head _))))) rfl rfl ?_ | refine J.loadO Ty.a72 rfl (List.mem_append_right _ (.head _)) rfl rfl ?_ | refine J.loadO Ty.a72 rfl (List.mem_append_right _ (.tail _ (.head _))) rfl rfl ?_ | refine J.loadO Ty.a72 rfl (List.mem_append_right _ (.tail _ (.tail _ (.head _)))) rfl rfl ?_ | refine J.loadO Ty.a72 rfl (List.mem_append_right _ (.tail _ (.tail _ (.tail _ (.head _))))) rfl rfl ?_ | refine J.loadO Ty.a72 rfl (List.mem_append_right _ (.tail _ (.tail _ (.tail _ (.tail _ (.head _)))))) rfl rfl ?_))
  first
    | (refine J.skip rfl rfl rfl rfl rfl ?_)
    | (refine J.skipU rfl rfl rfl rfl ?_)
    | (refine J.unguard rfl rfl rfl ?_; refine J.lenS rfl Ty.u72 rfl rfl ?_)
  first
    | (refine J.skip rfl rfl rfl rfl rfl ?_)
    | (refine J.skipU rfl rfl rfl rfl ?_)
    | (refine J.unguard rfl rfl rfl ?_; refine J.bin rfl rfl rfl rfl ?_)
  (first | refine J.pickT rfl rfl rfl ?_ | refine J.pickF rfl rfl rfl ?_)
  refine J.assign rfl rfl ?_
  refine J.nil ?_
  refine JX.thenN (hK2 _ _ ?_)
  first | refine JC.condF rfl ?_ | refine JC.cond rfl (fun h => by first | (exfalso; simp at h; omega) | (simp at h)) (fun _ => ?_)
  refine JC.seq (fun K3 hK3 => ?_)
  refine JC.region ?_
  refine J.move rfl rfl ?_
  refine J.lenS rfl Ty.u28 rfl rfl ?_
  refine J.bin rfl rfl rfl rfl ?_
  refine J.assign rfl rfl ?_
  refine J.nil ?_
  refine JX.thenN (hK3 _ _ ?_)
  first | refine JC.condT rfl ?_ | refine JC.cond rfl (fun _ => ?_) (fun h => by first | (exfalso; simp at h; omega) | (simp at h))
  refine JC.seq (fun K4 hK4 => ?_)
  refine JC.region ?_
  refine J.assign rfl rfl ?_
  refine J.nil ?_
  refine JX.thenN (hK4 _ _ ?_)
  refine JC.ret ?_
  refine JX.blockR ?_
  refine JX.thenR ?_
  refine JX.ret1 rfl rfl (fun w hw => ?_)
  exact ⟨rfl, hw.same hw0 (fun p hp => hp)⟩

theorem write_down (d s n : Nat) (k : Int) (w : World) {l : List (Nat × Obj)} (hw0 : Own w ((d, dkO s n 0 k) :: l)) (i : Int) (a : Option Addr) (m c : Nat) (hi : 0 ≤ i) (hi2 : i < (n : Int)) (hm : m ≤ 64) :
    Calls Try.prog 17 [.pointer (some ⟨d, 0, none⟩), .int .i64 i, .slice a m c].toArray w fun r w' => r = .returned (.int .i64 8) ∧ Below w.heap.size w w' := by
  refine calls_of_J (args := [.pointer (some ⟨d, 0, none⟩), .int .i64 i, .slice a m c]) (e := [(0, .pointer (some ⟨d, 0, none⟩)), (1, .int .i64 i), (2, .slice a m c)]) Try.func17 rfl rfl ⟨rfl, rfl, rfl, trivial⟩ (hw0.st) ?_
  refine JC.seq (fun K0 hK0 => ?_)
  refine JC.region ?_
  refine J.assign rfl rfl ?_
  refine J.nil ?_
  refine JX.thenN (hK0 _ _ ?_)
  refine JC.seq (fun K1 hK1 => ?_)
  refine JC.block ?_
  refine JC.seq (fun K2 hK2 => ?_)
  refine JC.region ?_
  refine J.move rfl rfl ?_
  refine J.eqNil Ty.u23 rfl rfl rfl ?_
  refine J.move rfl rfl ?_
  first
    | (refine J.skip rfl rfl rfl rfl rfl ?_)
    | (refine J.skipU rfl rfl rfl rfl ?_)
    | (refine J.unguard rfl rfl rfl ?_; refine J.move rfl rfl ?_)
  first
    | (refine J.skip rfl rfl rfl rfl rfl ?_)
    | (refine J.skipU rfl rfl rfl rfl ?_)
    | (refine J.unguard rfl rfl rfl ?_; refine J.bin rfl rfl rfl rfl ?_)
  (first | refine J.pickT rfl rfl rfl ?_ | refine J.pickF rfl rfl rfl ?_)
  refine J.move rfl rfl ?_
  refine J.split 14 rfl (fun h => by first | (exfalso; simp at h; omega) | (simp at h)) (fun _ => ?_)
  first
    | (refine J.skip rfl rfl rfl rfl rfl ?_)
    | (refine J.skipU rfl rfl rfl rfl ?_)
    | (refine J.unguard rfl rfl rfl ?_; refine J.move rfl rfl ?_)
  first
    | (refine J.skip rfl rfl rfl rfl rfl ?_)
    | (refine J.skipU rfl rfl rfl rfl ?_)
    | (refine J.unguard rfl rfl rfl ?_; refine J.move rfl rfl ?_)
  first
    | (refine J.skip rfl rfl rfl rfl rfl ?_)
    | (refine J.skipU rfl rfl rfl rfl ?_)
    | (refine J.unguard rfl rfl rfl ?_; refine J.nilCheck rfl rfl ?_)
  first
    | (refine J.skip rfl rfl rfl rfl rfl ?_)
    | (refine J.skipU rfl rfl rfl rfl ?_)
    | (refine J.unguard rfl rfl rfl ?_; refine J.fieldAddr Ty.fd74_0 rfl rfl ?_)
  first
    | (refine J.skip rfl rfl rfl rfl rfl ?_)
    | (refine J.skipU rfl rfl rfl rfl ?_)
    | (refine J.unguard rfl rfl rfl ?_; (first | refine J.loadO Ty.a72 rfl (.head _) rfl rfl ?_ | refine J.loadO Ty.a72 rfl (.tail _ (.head _)) rfl rfl ?_ | refine J.loadO Ty.a72 rfl (.tail _ (.tail _ (.head _))) rfl rfl ?_ | refine J.loadO Ty.a72 rfl (.tail _ (.tail _ (.tail _ (.head _)))) rfl rfl ?_ | refine J.loadO Ty.a72 rfl (.tail _ (.tail _ (.tail _ (.tail _ (.head _))))) rfl rfl ?_ | refine J.loadO Ty.a72 rfl (List.mem_append_right _ (.head _)) rfl rfl ?_ | refine J.loadO Ty.a72 rfl (List.mem_append_right _ (.tail _ (.head _))) rfl rfl ?_ | refine J.loadO Ty.a72 rfl (List.mem_append_right _ (.tail _ (.tail _ (.head _)))) rfl rfl ?_ | refine J.loadO Ty.a72 rfl (List.mem_append_right _ (.tail _ (.tail _ (.tail _ (.head _))))) rfl rfl ?_ | refine J.loadO Ty.a72 rfl (List.mem_append_right _ (.tail _ (.tail _ (.tail _ (.tail _ (.head _)))))) rfl rfl ?_))
  first
    | (refine J.skip rfl rfl rfl rfl rfl ?_)
    | (refine J.skipU rfl rfl rfl rfl ?_)
    | (refine J.unguard rfl rfl rfl ?_; refine J.lenS rfl Ty.u72 rfl rfl ?_)
  first
    | (refine J.skip rfl rfl rfl rfl rfl ?_)
    | (refine J.skipU rfl rfl rfl rfl ?_)
    | (refine J.unguard rfl rfl rfl ?_; refine J.bin rfl rfl rfl rfl ?_)
  (first | refine J.pickT rfl rfl rfl ?_ | refine J.pickF rfl rfl rfl ?_)
  refine J.assign rfl rfl ?_
  refine J.nil ?_
  refine JX.thenN (hK2 _ _ ?_)
  first | refine JC.condF rfl ?_ | refine JC.cond rfl (fun h => by first | (exfalso; simp at h; omega) | (simp at h)) (fun _ => ?_)
  refine JC.seq (fun K3 hK3 => ?_)
  refine JC.region ?_
  refine J.move rfl rfl ?_
  refine J.lenS rfl Ty.u28 rfl rfl ?_
  refine J.bin rfl rfl rfl rfl ?_
  refine J.assign rfl rfl ?_
  refine J.nil ?_
  refine JX.thenN (hK3 _ _ ?_)
  first | refine JC.condF rfl ?_ | refine JC.cond rfl (fun h => by first | (exfalso; simp at h; omega) | (simp at h)) (fun _ => ?_)
  refine JC.seq (fun K4 hK4 => ?_)
  refine JC.region ?_
  refine J.move rfl rfl ?_
  refine J.nilCheck rfl rfl ?_
  refine J.fieldAddr Ty.fd74_1 rfl rfl ?_
  (first | refine J.loadO Ty.a3 rfl (.head _) rfl rfl ?_ | refine J.loadO Ty.a3 rfl (.tail _ (.head _)) rfl rfl ?_ | refine J.loadO Ty.a3 rfl (.tail _ (.tail _ (.head _))) rfl rfl ?_ | refine J.loadO Ty.a3 rfl (.tail _ (.tail _ (.tail _ (.head _)))) rfl rfl ?_ | refine J.loadO Ty.a3 rfl (.tail _ (.tail _ (.tail _ (.tail _ (.head _))))) rfl rfl ?_ | refine J.loadO Ty.a3 rfl (List.mem_append_right _ (.head _)) rfl rfl ?_ | refine J.loadO Ty.a3 rfl (List.mem_append_right _ (.tail _ (.head _))) rfl rfl ?_ | refine J.loadO Ty.a3 rfl (List.mem_append_right _ (.tail _ (.tail _ (.head _)))) rfl rfl ?_ | refine J.loadO Ty.a3 rfl (List.mem_append_right _ (.tail _ (.tail _ (.tail _ (.head _))))) rfl rfl ?_ | refine J.loadO Ty.a3 rfl (List.mem_append_right _ (.tail _ (.tail _ (.tail _ (.tail _ (.head _)))))) rfl rfl ?_)
  refine J.bin rfl rfl rfl rfl ?_
  refine J.assign rfl rfl ?_
  refine J.nil ?_
  refine JX.thenN (hK4 _ _ ?_)
  first | refine JC.condT rfl ?_ | refine JC.cond rfl (fun _ => ?_) (fun h => by first | (exfalso; simp at h; omega) | (simp at h))
  refine JC.seq (fun K5 hK5 => ?_)
  refine JC.region ?_
  refine J.assign rfl rfl ?_
  refine J.nil ?_
  refine JX.thenN (hK5 _ _ ?_)
  refine JC.ret ?_
  refine JX.blockR ?_
  refine JX.thenR ?_
  refine JX.ret1 rfl rfl (fun w hw => ?_)
  exact ⟨rfl, hw.same hw0 (fun p hp => hp)⟩

theorem write_endless (d s n : Nat) (B bs : List UInt8) (p k i : Int) (a : Option Addr) (m c : Nat) (w : World) (hw0 : Own w [(d, dkO s n p k), (s, dkS B)]) (hB : B.length = 64 * n) (hi : 0 ≤ i) (hi2 : i < (n : Int)) (hk : 0 ≤ k) (hk2 : k < 4611686018427387904) (hm : m ≤ 64) (hbl : bs.length = m) (hbv : Row w (.slice a m c) m (bs.map u8)) (hoff : Off [d, s] (.slice a m c) (bs.map u8)) (hp : p < 0) :
    Calls Try.prog 17 [.pointer (some ⟨d, 0, none⟩), .int .i64 i, .slice a m c].toArray w fun r w' => r = .returned (.int .i64 0) ∧ St w [d, s] [(d, dkO s n p (k + 1)), (s, dkS (put B i.toNat bs))] w' := by
  refine calls_of_J (args := [.pointer (some ⟨d, 0, none⟩), .int .i64 i, .slice a m c]) (e := [(0, .pointer (some ⟨d, 0, none⟩)), (1, .int .i64 i), (2, .slice a m c)]) Try.func17 rfl rfl ⟨rfl, rfl, rfl, trivial⟩ (hw0.st) ?_
  refine JC.seq (fun K0 hK0 => ?_)
  refine JC.region ?_
  refine J.assign rfl rfl ?_
  refine J.nil ?_
  refine JX.thenN (hK0 _ _ ?_)
  refine JC.seq (fun K1 hK1 => ?_)
  refine JC.block ?_
  refine JC.seq (fun K2 hK2 => ?_)
  refine JC.region ?_
  refine J.move rfl rfl ?_
  refine J.eqNil Ty.u23 rfl rfl rfl ?_
  refine J.move rfl rfl ?_
  first
    | (refine J.skip rfl rfl rfl rfl rfl ?_)
    | (refine J.skipU rfl rfl rfl rfl ?_)
    | (refine J.unguard rfl rfl rfl ?_; refine J.move rfl rfl ?_)
  first
    | (refine J.skip rfl rfl rfl rfl rfl ?_)
    | (refine J.skipU rfl rfl rfl rfl ?_)
    | (refine J.unguard rfl rfl rfl ?_; refine J.bin rfl rfl rfl rfl ?_)
  (first | refine J.pickT rfl rfl rfl ?_ | refine J.pickF rfl rfl rfl ?_)
  refine J.move rfl rfl ?_
  refine J.split 14 rfl (fun h => by first | (exfalso; simp at h; omega) | (simp at h)) (fun _ => ?_)
  first
    | (refine J.skip rfl rfl rfl rfl rfl ?_)
    | (refine J.skipU rfl rfl rfl rfl ?_)
    | (refine J.unguard rfl rfl rfl ?_; refine J.move rfl rfl ?_)
  first
    | (refine J.skip rfl rfl rfl rfl rfl ?_)
    | (refine J.skipU rfl rfl rfl rfl ?_)
    | (refine J.unguard rfl rfl rfl ?_; refine J.move rfl rfl ?_)
  first
    | (refine J.skip rfl rfl rfl rfl rfl ?_)
    | (refine J.skipU rfl rfl rfl rfl ?_)
    | (refine J.unguard rfl rfl rfl ?_; refine J.nilCheck rfl rfl ?_)
  first
    | (refine J.skip rfl rfl rfl rfl rfl ?_)
    | (refine J.skipU rfl rfl rfl rfl ?_)
    | (refine J.unguard rfl rfl rfl ?_; refine J.fieldAddr Ty.fd74_0 rfl rfl ?_)
  first
    | (refine J.skip rfl rfl rfl rfl rfl ?_)
    | (refine J.skipU rfl rfl rfl rfl ?_)
    | (refine J.unguard rfl rfl rfl ?_; (first | refine J.loadO Ty.a72 rfl (.head _) rfl rfl ?_ | refine J.loadO Ty.a72 rfl (.tail _ (.head _)) rfl rfl ?_ | refine J.loadO Ty.a72 rfl (.tail _ (.tail _ (.head _))) rfl rfl ?_ | refine J.loadO Ty.a72 rfl (.tail _ (.tail _ (.tail _ (.head _)))) rfl rfl ?_ | refine J.loadO Ty.a72 rfl (.tail _ (.tail _ (.tail _ (.tail _ (.head _))))) rfl rfl ?_ | refine J.loadO Ty.a72 rfl (List.mem_append_right _ (.head _)) rfl rfl ?_ | refine J.loadO Ty.a72 rfl (List.mem_append_right _ (.tail _ (.head _))) rfl rfl ?_ | refine J.loadO Ty.a72 rfl (List.mem_append_right _ (.tail _ (.tail _ (.head _)))) rfl rfl ?_ | refine J.loadO Ty.a72 rfl (List.mem_append_right _ (.tail _ (.tail _ (.tail _ (.head _))))) rfl rfl ?_ | refine J.loadO Ty.a72 rfl (List.mem_append_right _ (.tail _ (.tail _ (.tail _ (.tail _ (.head _)))))) rfl rfl ?_))
  first
    | (refine J.skip rfl rfl rfl rfl rfl ?_)
    | (refine J.skipU rfl rfl rfl rfl ?_)
    | (refine J.unguard rfl rfl rfl ?_; refine J.lenS rfl Ty.u72 rfl rfl ?_)
  first
    | (refine J.skip rfl rfl rfl rfl rfl ?_)
    | (refine J.skipU rfl rfl rfl rfl ?_)
    | (refine J.unguard rfl rfl rfl ?_; refine J.bin rfl rfl rfl rfl ?_)
  (first | refine J.pickT rfl rfl rfl ?_ | refine J.pickF rfl rfl rfl ?_)
  refine J.assign rfl rfl ?_
  refine J.nil ?_
  refine JX.thenN (hK2 _ _ ?_)
  first | refine JC.condF rfl ?_ | refine JC.cond rfl (fun h => by first | (exfalso; simp at h; omega) | (simp at h)) (fun _ => ?_)
  refine JC.seq (fun K3 hK3 => ?_)
  refine JC.region ?_
  refine J.move rfl rfl ?_
  refine J.lenS rfl Ty.u28 rfl rfl ?_
  refine J.bin rfl rfl rfl rfl ?_
  refine J.assign rfl rfl ?_
  refine J.nil ?_
  refine JX.thenN (hK3 _ _ ?_)
  first | refine JC.condF rfl ?_ | refine JC.cond rfl (fun h => by first | (exfalso; simp at h; omega) | (simp at h)) (fun _ => ?_)
  refine JC.seq (fun K4 hK4 => ?_)
  refine JC.region ?_
  refine J.move rfl rfl ?_
  refine J.nilCheck rfl rfl ?_
  refine J.fieldAddr Ty.fd74_1 rfl rfl ?_
  (first | refine J.loadO Ty.a3 rfl (.head _) rfl rfl ?_ | refine J.loadO Ty.a3 rfl (.tail _ (.head _)) rfl rfl ?_ | refine J.loadO Ty.a3 rfl (.tail _ (.tail _ (.head _))) rfl rfl ?_ | refine J.loadO Ty.a3 rfl (.tail _ (.tail _ (.tail _ (.head _)))) rfl rfl ?_ | refine J.loadO Ty.a3 rfl (.tail _ (.tail _ (.tail _ (.tail _ (.head _))))) rfl rfl ?_ | refine J.loadO Ty.a3 rfl (List.mem_append_right _ (.head _)) rfl rfl ?_ | refine J.loadO Ty.a3 rfl (List.mem_append_right _ (.tail _ (.head _))) rfl rfl ?_ | refine J.loadO Ty.a3 rfl (List.mem_append_right _ (.tail _ (.tail _ (.head _)))) rfl rfl ?_ | refine J.loadO Ty.a3 rfl (List.mem_append_right _ (.tail _ (.tail _ (.tail _ (.head _))))) rfl rfl ?_ | refine J.loadO Ty.a3 rfl (List.mem_append_right _ (.tail _ (.tail _ (.tail _ (.tail _ (.head _)))))) rfl rfl ?_)
  refine J.bin rfl rfl rfl rfl ?_
  refine J.assign rfl rfl ?_
  refine J.nil ?_
  refine JX.thenN (hK4 _ _ ?_)
  first | refine JC.condF rfl ?_ | refine JC.cond rfl (fun h => by first | (exfalso; simp at h; omega) | (simp at h)) (fun _ => ?_)
  refine JC.seq (fun K5 hK5 => ?_)
  refine JC.region ?_
  refine J.move rfl rfl ?_
  refine J.nilCheck rfl rfl ?_
  refine J.fieldAddr Ty.fd74_1 rfl rfl ?_
  (first | refine J.loadO Ty.a3 rfl (.head _) rfl rfl ?_ | refine J.loadO Ty.a3 rfl (.tail _ (.head _)) rfl rfl ?_ | refine J.loadO Ty.a3 rfl (.tail _ (.tail _ (.head _))) rfl rfl ?_ | refine J.loadO Ty.a3 rfl (.tail _ (.tail _ (.tail _ (.head _)))) rfl rfl ?_ | refine J.loadO Ty.a3 rfl (.tail _ (.tail _ (.tail _ (.tail _ (.head _))))) rfl rfl ?_ | refine J.loadO Ty.a3 rfl (List.mem_append_right _ (.head _)) rfl rfl ?_ | refine J.loadO Ty.a3 rfl (List.mem_append_right _ (.tail _ (.head _))) rfl rfl ?_ | refine J.loadO Ty.a3 rfl (List.mem_append_right _ (.tail _ (.tail _ (.head _)))) rfl rfl ?_ | refine J.loadO Ty.a3 rfl (List.mem_append_right _ (.tail _ (.tail _ (.tail _ (.head _))))) rfl rfl ?_ | refine J.loadO Ty.a3 rfl (List.mem_append_right _ (.tail _ (.tail _ (.tail _ (.tail _ (.head _)))))) rfl rfl ?_)
  refine J.bin rfl rfl rfl rfl ?_
  refine J.assign rfl rfl ?_
  refine J.nil ?_
  refine JX.thenN (hK5 _ _ ?_)
  first | refine JC.condF rfl ?_ | refine JC.cond rfl (fun h => by first | (exfalso; simp at h; omega) | (simp at h)) (fun _ => ?_)
  refine JC.skip ?_
  refine JX.blockN ?_
  refine JX.thenN (hK1 _ _ ?_)
  refine JC.seq (fun K6 hK6 => ?_)
  refine JC.region ?_
  refine J.move rfl rfl ?_
  refine J.nilCheck rfl rfl ?_
  refine J.fieldAddr Ty.fd74_0 rfl rfl ?_
  (first | refine J.loadO Ty.a72 rfl (.head _) rfl rfl ?_ | refine J.loadO Ty.a72 rfl (.tail _ (.head _)) rfl rfl ?_ | refine J.loadO Ty.a72 rfl (.tail _ (.tail _ (.head _))) rfl rfl ?_ | refine J.loadO Ty.a72 rfl (.tail _ (.tail _ (.tail _ (.head _)))) rfl rfl ?_ | refine J.loadO Ty.a72 rfl (.tail _ (.tail _ (.tail _ (.tail _ (.head _))))) rfl rfl ?_ | refine J.loadO Ty.a72 rfl (List.mem_append_right _ (.head _)) rfl rfl ?_ | refine J.loadO Ty.a72 rfl (List.mem_append_right _ (.tail _ (.head _))) rfl rfl ?_ | refine J.loadO Ty.a72 rfl (List.mem_append_right _ (.tail _ (.tail _ (.head _)))) rfl rfl ?_ | refine J.loadO Ty.a72 rfl (List.mem_append_right _ (.tail _ (.tail _ (.tail _ (.head _))))) rfl rfl ?_ | refine J.loadO Ty.a72 rfl (List.mem_append_right _ (.tail _ (.tail _ (.tail _ (.tail _ (.head _)))))) rfl rfl ?_)
  refine J.move rfl rfl ?_
  refine J.buildA Ty.ar75 Ty.s5 Ty.z75 rfl rfl rfl ?_
  refine J.indexAddrS Ty.el72 Ty.s75 rfl rfl (by omega) (by omega) rfl ?_
  refine J.storeO (vs := List.replicate 64 (Value.int .u8 0)) Ty.s75 rfl rfl rfl rfl (fun v hv => by rw [List.eq_of_mem_replicate hv]; rfl) (.there .here) (by simp; omega) ?_
  refine J.nil ?_
  refine JX.thenN (hK6 _ _ ?_)
  refine JC.seq (fun K7 hK7 => ?_)
  refine JC.region ?_
  refine J.move rfl rfl ?_
  refine J.nilCheck rfl rfl ?_
  refine J.fieldAddr Ty.fd74_0 rfl rfl ?_
  (first | refine J.loadO Ty.a72 rfl (.head _) rfl rfl ?_ | refine J.loadO Ty.a72 rfl (.tail _ (.head _)) rfl rfl ?_ | refine J.loadO Ty.a72 rfl (.tail _ (.tail _ (.head _))) rfl rfl ?_ | refine J.loadO Ty.a72 rfl (.tail _ (.tail _ (.tail _ (.head _)))) rfl rfl ?_ | refine J.loadO Ty.a72 rfl (.tail _ (.tail _ (.tail _ (.tail _ (.head _))))) rfl rfl ?_ | refine J.loadO Ty.a72 rfl (List.mem_append_right _ (.head _)) rfl rfl ?_ | refine J.loadO Ty.a72 rfl (List.mem_append_right _ (.tail _ (.head _))) rfl rfl ?_ | refine J.loadO Ty.a72 rfl (List.mem_append_right _ (.tail _ (.tail _ (.head _)))) rfl rfl ?_ | refine J.loadO Ty.a72 rfl (List.mem_append_right _ (.tail _ (.tail _ (.tail _ (.head _))))) rfl rfl ?_ | refine J.loadO Ty.a72 rfl (List.mem_append_right _ (.tail _ (.tail _ (.tail _ (.tail _ (.head _)))))) rfl rfl ?_)
  refine J.move rfl rfl ?_
  refine J.indexAddrS Ty.el72 Ty.s75 rfl rfl (by omega) (by omega) rfl ?_
  refine J.sliceAll Ty.ar75 (by rw [Ty.s5]; rfl) rfl rfl ?_
  refine J.move rfl rfl ?_
  refine J.copy (m := m) (kb := m) (cs := setMany (B.map u8) (0 + i.toNat * 64) (List.replicate 64 (Value.int .u8 0))) (ys := bs.map u8) (tb := 75) (o := 0 + i.toNat * 64) Ty.el28 Ty.s5 rfl rfl (fun w hw => ⟨hbv.st hoff hw, a, c, rfl⟩) (by simpa using hbl) (one_u8 _) (by omega) (.there .here) (by simp [setMany_length]; omega) (.inr ⟨_, rfl, rfl⟩) ?_
  refine J.nil ?_
  refine JX.thenN (hK7 _ _ ?_)
  refine JC.seq (fun K8 hK8 => ?_)
  refine JC.region ?_
  refine J.move rfl rfl ?_
  refine J.nilCheck rfl rfl ?_
  refine J.fieldAddr Ty.fd74_2 rfl rfl ?_
  (first | refine J.loadO Ty.a3 rfl (.head _) rfl rfl ?_ | refine J.loadO Ty.a3 rfl (.tail _ (.head _)) rfl rfl ?_ | refine J.loadO Ty.a3 rfl (.tail _ (.tail _ (.head _))) rfl rfl ?_ | refine J.loadO Ty.a3 rfl (.tail _ (.tail _ (.tail _ (.head _)))) rfl rfl ?_ | refine J.loadO Ty.a3 rfl (.tail _ (.tail _ (.tail _ (.tail _ (.head _))))) rfl rfl ?_ | refine J.loadO Ty.a3 rfl (List.mem_append_right _ (.head _)) rfl rfl ?_ | refine J.loadO Ty.a3 rfl (List.mem_append_right _ (.tail _ (.head _))) rfl rfl ?_ | refine J.loadO Ty.a3 rfl (List.mem_append_right _ (.tail _ (.tail _ (.head _)))) rfl rfl ?_ | refine J.loadO Ty.a3 rfl (List.mem_append_right _ (.tail _ (.tail _ (.tail _ (.head _))))) rfl rfl ?_ | refine J.loadO Ty.a3 rfl (List.mem_append_right _ (.tail _ (.tail _ (.tail _ (.tail _ (.head _)))))) rfl rfl ?_)
  refine J.bin rfl rfl rfl rfl ?_
  refine J.name 66 rfl (congrArg (Value.int .i64) (wrap_i64 (by omega) (by omega))) ?_
  refine J.nilCheck rfl rfl ?_
  refine J.fieldAddr Ty.fd74_2 rfl rfl ?_
  (first | refine J.storeO Ty.s3 rfl rfl rfl rfl (by simp [Value.oneCell']) .here (by simp) ?_ | refine J.storeO Ty.s3 rfl rfl rfl rfl (by simp [Value.oneCell']) (.there .here) (by simp) ?_ | refine J.storeO Ty.s3 rfl rfl rfl rfl (by simp [Value.oneCell']) (.there (.there .here)) (by simp) ?_ | refine J.storeO Ty.s3 rfl rfl rfl rfl (by simp [Value.oneCell']) (.there (.there (.there .here))) (by simp) ?_)
  refine J.nil ?_
  refine JX.thenN (hK8 _ _ ?_)
  refine JC.seq (fun K9 hK9 => ?_)
  refine JC.region ?_
  refine J.assign rfl rfl ?_
  refine J.nil ?_
  refine JX.thenN (hK9 _ _ ?_)
  refine JC.ret ?_
  refine JX.ret1 rfl rfl (fun w hw => ?_)
  rw [show List.take m (bs.map u8) = bs.map u8 from List.take_of_length_le (by simp; omega), put_cells hB (by omega) (by omega)] at hw
  exact ⟨rfl, hw⟩

theorem write_power (d s n : Nat) (B bs : List UInt8) (p k i : Int) (a : Option Addr) (m c : Nat) (w : World) (hw0 : Own w [(d, dkO s n p k), (s, dkS B)]) (hB : B.length = 64 * n) (hi : 0 ≤ i) (hi2 : i < (n : Int)) (hk : 0 ≤ k) (hk2 : k < 4611686018427387904) (hm : m ≤ 64) (hbl : bs.length = m) (hbv : Row w (.slice a m c) m (bs.map u8)) (hoff : Off [d, s] (.slice a m c) (bs.map u8)) (hp : 0 < p) (hp2 : p < 9223372036854775808) :
    Calls Try.prog 17 [.pointer (some ⟨d, 0, none⟩), .int .i64 i, .slice a m c].toArray w fun r w' => r = .returned (.int .i64 0) ∧ St w [d, s] [(d, dkO s n (p - 1) (k + 1)), (s, dkS (put B i.toNat bs))] w' := by
  refine calls_of_J (args := [.pointer (some ⟨d, 0, none⟩), .int .i64 i, .slice a m c]) (e := [(0, .pointer (some ⟨d, 0, none⟩)), (1, .int .i64 i), (2, .slice a m c)]) Try.func17 rfl rfl ⟨rfl, rfl, rfl, trivial⟩ (hw0.st) ?_
  refine JC.seq (fun K0 hK0 => ?_)
  refine JC.region ?_
  refine J.assign rfl rfl ?_
  refine J.nil ?_
  refine JX.thenN (hK0 _ _ ?_)
  refine JC.seq (fun K1 hK1 => ?_)
  refine JC.block ?_
  refine JC.seq (fun K2 hK2 => ?_)
  refine JC.region ?_
  refine J.move rfl rfl ?_
  refine J.eqNil Ty.u23 rfl rfl rfl ?_
  refine J.move rfl rfl ?_
  first
    | (refine J.skip rfl rfl rfl rfl rfl ?_)
    | (refine J.skipU rfl rfl rfl rfl ?_)
    | (refine J.unguard rfl rfl rfl ?_; refine J.move rfl rfl ?_)
  first
    | (refine J.skip rfl rfl rfl rfl rfl ?_)
    | (refine J.skipU rfl rfl rfl rfl ?_)
    | (refine J.unguard rfl rfl rfl ?_; refine J.bin rfl rfl rfl rfl ?_)
  (first | refine J.pickT rfl rfl rfl ?_ | refine J.pickF rfl rfl rfl ?_)
  refine J.move rfl rfl ?_
  refine J.split 14 rfl (fun h => by first | (exfalso; simp at h; omega) | (simp at h)) (fun _ => ?_)
  first
    | (refine J.skip rfl rfl rfl rfl rfl ?_)
    | (refine J.skipU rfl rfl rfl rfl ?_)
    | (refine J.unguard rfl rfl rfl ?_; refine J.move rfl rfl ?_)
  first
    | (refine J.skip rfl rfl rfl rfl rfl ?_)
    | (refine J.skipU rfl rfl rfl rfl ?_)
    | (refine J.unguard rfl rfl rfl ?_; refine J.move rfl rfl ?_)
  first
    | (refine J.skip rfl rfl rfl rfl rfl ?_)
    | (refine J.skipU rfl rfl rfl rfl ?_)
    | (refine J.unguard rfl rfl rfl ?_; refine J.nilCheck rfl rfl ?_)
  first
    | (refine J.skip rfl rfl rfl rfl rfl ?_)
    | (refine J.skipU rfl rfl rfl rfl ?_)
    | (refine J.unguard rfl rfl rfl ?_; refine J.fieldAddr Ty.fd74_0 rfl rfl ?_)
  first
    | (refine J.skip rfl rfl rfl rfl rfl ?_)
    | (refine J.skipU rfl rfl rfl rfl ?_)
    | (refine J.unguard rfl rfl rfl ?_; (first | refine J.loadO Ty.a72 rfl (.head _) rfl rfl ?_ | refine J.loadO Ty.a72 rfl (.tail _ (.head _)) rfl rfl ?_ | refine J.loadO Ty.a72 rfl (.tail _ (.tail _ (.head _))) rfl rfl ?_ | refine J.loadO Ty.a72 rfl (.tail _ (.tail _ (.tail _ (.head _)))) rfl rfl ?_ | refine J.loadO Ty.a72 rfl (.tail _ (.tail _ (.tail _ (.tail _ (.head _))))) rfl rfl ?_ | refine J.loadO Ty.a72 rfl (List.mem_append_right _ (.head _)) rfl rfl ?_ | refine J.loadO Ty.a72 rfl (List.mem_append_right _ (.tail _ (.head _))) rfl rfl ?_ | refine J.loadO Ty.a72 rfl (List.mem_append_right _ (.tail _ (.tail _ (.head _)))) rfl rfl ?_ | refine J.loadO Ty.a72 rfl (List.mem_append_right _ (.tail _ (.tail _ (.tail _ (.head _))))) rfl rfl ?_ | refine J.loadO Ty.a72 rfl (List.mem_append_right _ (.tail _ (.tail _ (.tail _ (.tail _ (.head _)))))) rfl rfl ?_))
  first
    | (refine J.skip rfl rfl rfl rfl rfl ?_)
    | (refine J.skipU rfl rfl rfl rfl ?_)
    | (refine J.unguard rfl rfl rfl ?_; refine J.lenS rfl Ty.u72 rfl rfl ?_)
  first
    | (refine J.skip rfl rfl rfl rfl rfl ?_)
    | (refine J.skipU rfl rfl rfl rfl ?_)
    | (refine J.unguard rfl rfl rfl ?_; refine J.bin rfl rfl rfl rfl ?_)
  (first | refine J.pickT rfl rfl rfl ?_ | refine J.pickF rfl rfl rfl ?_)
  refine J.assign rfl rfl ?_
  refine J.nil ?_
  refine JX.thenN (hK2 _ _ ?_)
  first | refine JC.condF rfl ?_ | refine JC.cond rfl (fun h => by first | (exfalso; simp at h; omega) | (simp at h)) (fun _ => ?_)
  refine JC.seq (fun K3 hK3 => ?_)
  refine JC.region ?_
  refine J.move rfl rfl ?_
  refine J.lenS rfl Ty.u28 rfl rfl ?_
  refine J.bin rfl rfl rfl rfl ?_
  refine J.assign rfl rfl ?_
  refine J.nil ?_
  refine JX.thenN (hK3 _ _ ?_)
  first | refine JC.condF rfl ?_ | refine JC.cond rfl (fun h => by first | (exfalso; simp at h; omega) | (simp at h)) (fun _ => ?_)
  refine JC.seq (fun K4 hK4 => ?_)
  refine JC.region ?_
  refine J.move rfl rfl ?_
  refine J.nilCheck rfl rfl ?_
  refine J.fieldAddr Ty.fd74_1 rfl rfl ?_
  (first | refine J.loadO Ty.a3 rfl (.head _) rfl rfl ?_ | refine J.loadO Ty.a3 rfl (.tail _ (.head _)) rfl rfl ?_ | refine J.loadO Ty.a3 rfl (.tail _ (.tail _ (.head _))) rfl rfl ?_ | refine J.loadO Ty.a3 rfl (.tail _ (.tail _ (.tail _ (.head _)))) rfl rfl ?_ | refine J.loadO Ty.a3 rfl (.tail _ (.tail _ (.tail _ (.tail _ (.head _))))) rfl rfl ?_ | refine J.loadO Ty.a3 rfl (List.mem_append_right _ (.head _)) rfl rfl ?_ | refine J.loadO Ty.a3 rfl (List.mem_append_right _ (.tail _ (.head _))) rfl rfl ?_ | refine J.loadO Ty.a3 rfl (List.mem_append_right _ (.tail _ (.tail _ (.head _)))) rfl rfl ?_ | refine J.loadO Ty.a3 rfl (List.mem_append_right _ (.tail _ (.tail _ (.tail _ (.head _))))) rfl rfl ?_ | refine J.loadO Ty.a3 rfl (List.mem_append_right _ (.tail _ (.tail _ (.tail _ (.tail _ (.head _)))))) rfl rfl ?_)
  refine J.bin rfl rfl rfl rfl ?_
  refine J.assign rfl rfl ?_
  refine J.nil ?_
  refine JX.thenN (hK4 _ _ ?_)
  first | refine JC.condF rfl ?_ | refine JC.cond rfl (fun h => by first | (exfalso; simp at h; omega) | (simp at h)) (fun _ => ?_)
  refine JC.seq (fun K5 hK5 => ?_)
  refine JC.region ?_
  refine J.move rfl rfl ?_
  refine J.nilCheck rfl rfl ?_
  refine J.fieldAddr Ty.fd74_1 rfl rfl ?_
  (first | refine J.loadO Ty.a3 rfl (.head _) rfl rfl ?_ | refine J.loadO Ty.a3 rfl (.tail _ (.head _)) rfl rfl ?_ | refine J.loadO Ty.a3 rfl (.tail _ (.tail _ (.head _))) rfl rfl ?_ | refine J.loadO Ty.a3 rfl (.tail _ (.tail _ (.tail _ (.head _)))) rfl rfl ?_ | refine J.loadO Ty.a3 rfl (.tail _ (.tail _ (.tail _ (.tail _ (.head _))))) rfl rfl ?_ | refine J.loadO Ty.a3 rfl (List.mem_append_right _ (.head _)) rfl rfl ?_ | refine J.loadO Ty.a3 rfl (List.mem_append_right _ (.tail _ (.head _))) rfl rfl ?_ | refine J.loadO Ty.a3 rfl (List.mem_append_right _ (.tail _ (.tail _ (.head _)))) rfl rfl ?_ | refine J.loadO Ty.a3 rfl (List.mem_append_right _ (.tail _ (.tail _ (.tail _ (.head _))))) rfl rfl ?_ | refine J.loadO Ty.a3 rfl (List.mem_append_right _ (.tail _ (.tail _ (.tail _ (.tail _ (.head _)))))) rfl rfl ?_)
  refine J.bin rfl rfl rfl rfl ?_
  refine J.assign rfl rfl ?_
  refine J.nil ?_
  refine JX.thenN (hK5 _ _ ?_)
  first | refine JC.condT rfl ?_ | refine JC.cond rfl (fun _ => ?_) (fun h => by first | (exfalso; simp at h; omega) | (simp at h))
  refine JC.region ?_
  refine J.move rfl rfl ?_
  refine J.nilCheck rfl rfl ?_
  refine J.fieldAddr Ty.fd74_1 rfl rfl ?_
  (first | refine J.loadO Ty.a3 rfl (.head _) rfl rfl ?_ | refine J.loadO Ty.a3 rfl (.tail _ (.head _)) rfl rfl ?_ | refine J.loadO Ty.a3 rfl (.tail _ (.tail _ (.head _))) rfl rfl ?_ | refine J.loadO Ty.a3 rfl (.tail _ (.tail _ (.tail _ (.head _)))) rfl rfl ?_ | refine J.loadO Ty.a3 rfl (.tail _ (.tail _ (.tail _ (.tail _ (.head _))))) rfl rfl ?_ | refine J.loadO Ty.a3 rfl (List.mem_append_right _ (.head _)) rfl rfl ?_ | refine J.loadO Ty.a3 rfl (List.mem_append_right _ (.tail _ (.head _))) rfl rfl ?_ | refine J.loadO Ty.a3 rfl (List.mem_append_right _ (.tail _ (.tail _ (.head _)))) rfl rfl ?_ | refine J.loadO Ty.a3 rfl (List.mem_append_right _ (.tail _ (.tail _ (.tail _ (.head _))))) rfl rfl ?_ | refine J.loadO Ty.a3 rfl (List.mem_append_right _ (.tail _ (.tail _ (.tail _ (.tail _ (.head _)))))) rfl rfl ?_)
  refine J.bin rfl rfl rfl rfl ?_
  refine J.name 43 rfl (congrArg (Value.int .i64) (wrap_i64 (by omega) (by omega))) ?_
  refine J.nilCheck rfl rfl ?_
  refine J.fieldAddr Ty.fd74_1 rfl rfl ?_
  (first | refine J.storeO Ty.s3 rfl rfl rfl rfl (by simp [Value.oneCell']) .here (by simp) ?_ | refine J.storeO Ty.s3 rfl rfl rfl rfl (by simp [Value.oneCell']) (.there .here) (by simp) ?_ | refine J.storeO Ty.s3 rfl rfl rfl rfl (by simp [Value.oneCell']) (.there (.there .here)) (by simp) ?_ | refine J.storeO Ty.s3 rfl rfl rfl rfl (by simp [Value.oneCell']) (.there (.there (.there .here))) (by simp) ?_)
  refine J.nil ?_
  refine JX.blockN ?_
  refine JX.thenN (hK1 _ _ ?_)
  refine JC.seq (fun K6 hK6 => ?_)
  refine JC.region ?_
  refine J.move rfl rfl ?_
  refine J.nilCheck rfl rfl ?_
  refine J.fieldAddr Ty.fd74_0 rfl rfl ?_
  (first | refine J.loadO Ty.a72 rfl (.head _) rfl rfl ?_ | refine J.loadO Ty.a72 rfl (.tail _ (.head _)) rfl rfl ?_ | refine J.loadO Ty.a72 rfl (.tail _ (.tail _ (.head _))) rfl rfl ?_ | refine J.loadO Ty.a72 rfl (.tail _ (.tail _ (.tail _ (.head _)))) rfl rfl ?_ | refine J.loadO Ty.a72 rfl (.tail _ (.tail _ (.tail _ (.tail _ (.head _))))) rfl rfl ?_ | refine J.loadO Ty.a72 rfl (List.mem_append_right _ (.head _)) rfl rfl ?_ | refine J.loadO Ty.a72 rfl (List.mem_append_right _ (.tail _ (.head _))) rfl rfl ?_ | refine J.loadO Ty.a72 rfl (List.mem_append_right _ (.tail _ (.tail _ (.head _)))) rfl rfl ?_ | refine J.loadO Ty.a72 rfl (List.mem_append_right _ (.tail _ (.tail _ (.tail _ (.head _))))) rfl rfl ?_ | refine J.loadO Ty.a72 rfl (List.mem_append_right _ (.tail _ (.tail _ (.tail _ (.tail _ (.head _)))))) rfl rfl ?_)
  refine J.move rfl rfl ?_
  refine J.buildA Ty.ar75 Ty.s5 Ty.z75 rfl rfl rfl ?_
  refine J.indexAddrS Ty.el72 Ty.s75 rfl rfl (by omega) (by omega) rfl ?_
  refine J.storeO (vs := List.replicate 64 (Value.int .u8 0)) Ty.s75 rfl rfl rfl rfl (fun v hv => by rw [List.eq_of_mem_replicate hv]; rfl) (.there .here) (by simp; omega) ?_
  refine J.nil ?_
  refine JX.thenN (hK6 _ _ ?_)
  refine JC.seq (fun K7 hK7 => ?_)
  refine JC.region ?_
  refine J.move rfl rfl ?_
  refine J.nilCheck rfl rfl ?_
  refine J.fieldAddr Ty.fd74_0 rfl rfl ?_
  (first | refine J.loadO Ty.a72 rfl (.head _) rfl rfl ?_ | refine J.loadO Ty.a72 rfl (.tail _ (.head _)) rfl rfl ?_ | refine J.loadO Ty.a72 rfl (.tail _ (.tail _ (.head _))) rfl rfl ?_ | refine J.loadO Ty.a72 rfl (.tail _ (.tail _ (.tail _ (.head _)))) rfl rfl ?_ | refine J.loadO Ty.a72 rfl (.tail _ (.tail _ (.tail _ (.tail _ (.head _))))) rfl rfl ?_ | refine J.loadO Ty.a72 rfl (List.mem_append_right _ (.head _)) rfl rfl ?_ | refine J.loadO Ty.a72 rfl (List.mem_append_right _ (.tail _ (.head _))) rfl rfl ?_ | refine J.loadO Ty.a72 rfl (List.mem_append_right _ (.tail _ (.tail _ (.head _)))) rfl rfl ?_ | refine J.loadO Ty.a72 rfl (List.mem_append_right _ (.tail _ (.tail _ (.tail _ (.head _))))) rfl rfl ?_ | refine J.loadO Ty.a72 rfl (List.mem_append_right _ (.tail _ (.tail _ (.tail _ (.tail _ (.head _)))))) rfl rfl ?_)
  refine J.move rfl rfl ?_
  refine J.indexAddrS Ty.el72 Ty.s75 rfl rfl (by omega) (by omega) rfl ?_
  refine J.sliceAll Ty.ar75 (by rw [Ty.s5]; rfl) rfl rfl ?_
  refine J.move rfl rfl ?_
  refine J.copy (m := m) (kb := m) (cs := setMany (B.map u8) (0 + i.toNat * 64) (List.replicate 64 (Value.int .u8 0))) (ys := bs.map u8) (tb := 75) (o := 0 + i.toNat * 64) Ty.el28 Ty.s5 rfl rfl (fun w hw => ⟨hbv.st hoff hw, a, c, rfl⟩) (by simpa using hbl) (one_u8 _) (by omega) (.there .here) (by simp [setMany_length]; omega) (.inr ⟨_, rfl, rfl⟩) ?_
  refine J.nil ?_
  refine JX.thenN (hK7 _ _ ?_)
  refine JC.seq (fun K8 hK8 => ?_)
  refine JC.region ?_
  refine J.move rfl rfl ?_
  refine J.nilCheck rfl rfl ?_
  refine J.fieldAddr Ty.fd74_2 rfl rfl ?_
  (first | refine J.loadO Ty.a3 rfl (.head _) rfl rfl ?_ | refine J.loadO Ty.a3 rfl (.tail _ (.head _)) rfl rfl ?_ | refine J.loadO Ty.a3 rfl (.tail _ (.tail _ (.head _))) rfl rfl ?_ | refine J.loadO Ty.a3 rfl (.tail _ (.tail _ (.tail _ (.head _)))) rfl rfl ?_ | refine J.loadO Ty.a3 rfl (.tail _ (.tail _ (.tail _ (.tail _ (.head _))))) rfl rfl ?_ | refine J.loadO Ty.a3 rfl (List.mem_append_right _ (.head _)) rfl rfl ?_ | refine J.loadO Ty.a3 rfl (List.mem_append_right _ (.tail _ (.head _))) rfl rfl ?_ | refine J.loadO Ty.a3 rfl (List.mem_append_right _ (.tail _ (.tail _ (.head _)))) rfl rfl ?_ | refine J.loadO Ty.a3 rfl (List.mem_append_right _ (.tail _ (.tail _ (.tail _ (.head _))))) rfl rfl ?_ | refine J.loadO Ty.a3 rfl (List.mem_append_right _ (.tail _ (.tail _ (.tail _ (.tail _ (.head _)))))) rfl rfl ?_)
  refine J.bin rfl rfl rfl rfl ?_
  refine J.name 66 rfl (congrArg (Value.int .i64) (wrap_i64 (by omega) (by omega))) ?_
  refine J.nilCheck rfl rfl ?_
  refine J.fieldAddr Ty.fd74_2 rfl rfl ?_
  (first | refine J.storeO Ty.s3 rfl rfl rfl rfl (by simp [Value.oneCell']) .here (by simp) ?_ | refine J.storeO Ty.s3 rfl rfl rfl rfl (by simp [Value.oneCell']) (.there .here) (by simp) ?_ | refine J.storeO Ty.s3 rfl rfl rfl rfl (by simp [Value.oneCell']) (.there (.there .here)) (by simp) ?_ | refine J.storeO Ty.s3 rfl rfl rfl rfl (by simp [Value.oneCell']) (.there (.there (.there .here))) (by simp) ?_)
  refine J.nil ?_
  refine JX.thenN (hK8 _ _ ?_)
  refine JC.seq (fun K9 hK9 => ?_)
  refine JC.region ?_
  refine J.assign rfl rfl ?_
  refine J.nil ?_
  refine JX.thenN (hK9 _ _ ?_)
  refine JC.ret ?_
  refine JX.ret1 rfl rfl (fun w hw => ?_)
  rw [show List.take m (bs.map u8) = bs.map u8 from List.take_of_length_le (by simp; omega), put_cells hB (by omega) (by omega)] at hw
  exact ⟨rfl, hw⟩

theorem bytes_nil (w : World) :
    Calls Try.prog 24 [.pointer none].toArray w fun r w' => r = .returned (.slice none 0 0) ∧ Below w.heap.size w w' := by
  refine calls_of_J (args := [.pointer none]) (e := [(0, .pointer none)]) Try.func24 rfl rfl ⟨rfl, trivial⟩ (St.start w) ?_
  refine JC.seq (fun K0 hK0 => ?_)
  refine JC.region ?_
  refine J.assign rfl rfl ?_
  refine J.nil ?_
  refine JX.thenN (hK0 _ _ ?_)
  refine JC.seq (fun K1 hK1 => ?_)
  refine JC.seq (fun K2 hK2 => ?_)
  refine JC.region ?_
  refine J.move rfl rfl ?_
  refine J.eqNil Ty.u23 rfl rfl rfl ?_
  refine J.nil ?_
  refine JX.thenN (hK2 _ _ ?_)
  first | refine JC.condT rfl ?_ | refine JC.cond rfl (fun _ => ?_) (fun h => by first | (exfalso; simp at h; omega) | (simp at h))
  refine JC.seq (fun K3 hK3 => ?_)
  refine JC.region ?_
  refine J.assign rfl rfl ?_
  refine J.nil ?_
  refine JX.thenN (hK3 _ _ ?_)
  refine JC.ret ?_
  refine JX.thenR ?_
  refine JX.ret1 rfl rfl (fun w hw => ?_)
  exact ⟨rfl, hw.below⟩


theorem take_sec (B : List UInt8) (i : Nat) : (B.take (64 * i)).map u8 ++ (sec B i).map u8 = (B.take (64 * (i + 1))).map u8 := by
  rw [← List.map_append, sec, ← List.take_add]; rfl

theorem bytes_spec (d s n : Nat) (B : List UInt8) (p k : Int) (w : World) (hw0 : Own w [(d, dkO s n p k), (s, dkS B)]) (hB : B.length = 64 * n) (hn : n ≤ 4096) :
    Calls Try.prog 24 [.pointer (some ⟨d, 0, none⟩)].toArray w fun r w' => ∃ x : Value × List (Nat × Obj), r = .returned x.1 ∧ Vec 5 1 x.1 (64 * n) (B.map u8) x.2 ∧ St w [d, s] (x.2 ++ [(d, dkO s n p k), (s, dkS B)]) w' := by
  refine calls_of_J (args := [.pointer (some ⟨d, 0, none⟩)]) (e := [(0, .pointer (some ⟨d, 0, none⟩))]) Try.func24 rfl rfl ⟨rfl, trivial⟩ (hw0.st) ?_
  refine JC.seq (fun K0 hK0 => ?_)
  refine JC.region ?_
  refine J.assign rfl rfl ?_
  refine J.nil ?_
  refine JX.thenN (hK0 _ _ ?_)
  refine JC.seq (fun K1 hK1 => ?_)
  refine JC.seq (fun K2 hK2 => ?_)
  refine JC.region ?_
  refine J.move rfl rfl ?_
  refine J.eqNil Ty.u23 rfl rfl rfl ?_
  refine J.nil ?_
  refine JX.thenN (hK2 _ _ ?_)
  first | refine JC.condF rfl ?_ | refine JC.cond rfl (fun h => by first | (exfalso; simp at h; omega) | (simp at h)) (fun _ => ?_)
  refine JC.skip ?_
  refine JX.thenN (hK1 _ _ ?_)
  refine JC.seq (fun K3 hK3 => ?_)
  refine JC.region ?_
  refine J.assign rfl rfl ?_
  refine J.nil ?_
  refine JX.thenN (hK3 _ _ ?_)
  refine JC.seq (fun K4 hK4 => ?_)
  refine JC.seq (fun K5 hK5 => ?_)
  refine JC.region ?_
  refine J.move rfl rfl ?_
  refine J.nilCheck rfl rfl ?_
  refine J.fieldAddr Ty.fd74_0 rfl rfl ?_
  (first | refine J.loadO Ty.a72 rfl (.head _) rfl rfl ?_ | refine J.loadO Ty.a72 rfl (.tail _ (.head _)) rfl rfl ?_ | refine J.loadO Ty.a72 rfl (.tail _ (.tail _ (.head _))) rfl rfl ?_ | refine J.loadO Ty.a72 rfl (.tail _ (.tail _ (.tail _ (.head _)))) rfl rfl ?_ | refine J.loadO Ty.a72 rfl (.tail _ (.tail _ (.tail _ (.tail _ (.head _))))) rfl rfl ?_ | refine J.loadO Ty.a72 rfl (List.mem_append_right _ (.head _)) rfl rfl ?_ | refine J.loadO Ty.a72 rfl (List.mem_append_right _ (.tail _ (.head _))) rfl rfl ?_ | refine J.loadO Ty.a72 rfl (List.mem_append_right _ (.tail _ (.tail _ (.head _)))) rfl rfl ?_ | refine J.loadO Ty.a72 rfl (List.mem_append_right _ (.tail _ (.tail _ (.tail _ (.head _))))) rfl rfl ?_ | refine J.loadO Ty.a72 rfl (List.mem_append_right _ (.tail _ (.tail _ (.tail _ (.tail _ (.head _)))))) rfl rfl ?_)
  refine J.lenS rfl Ty.u72 rfl rfl ?_
  refine J.move rfl rfl ?_
  refine J.nil ?_
  refine JX.thenN (hK5 _ _ ?_)
  refine JC.block ?_
  refine JC.conseq (JC.cov (f := (fun x => [(0, .pointer (some ⟨d, 0, none⟩)), (3, x.2.1), (11, .int .i64 n), (12, .int .i64 x.1)]) ((0, .slice none 0 0, []) : Nat × Value × List (Nat × Obj))) ⟨rfl, rfl, rfl, rfl, trivial⟩ (JC.loop (α := Nat × Value × List (Nat × Obj)) (fun x => [(0, .pointer (some ⟨d, 0, none⟩)), (3, x.2.1), (11, .int .i64 n), (12, .int .i64 x.1)]) (fun x w' => (x.1 ≤ n ∧ Vec 5 1 x.2.1 (64 * x.1) ((B.take (64 * x.1)).map u8) x.2.2) ∧ St w [d, s] (x.2.2 ++ [(d, dkO s n p k), (s, dkS B)]) w') (fun x => n - x.1) ((0, .slice none 0 0, []) : Nat × Value × List (Nat × Obj)) (fun x => ?_))) (fun w hw => ⟨⟨Nat.zero_le _, Vec.nil _ _⟩, hw⟩)
  obtain ⟨i, v, lp⟩ := x
  refine JC.pr (fun hx => ?_)
  obtain ⟨hi, hv⟩ := hx
  simp only at hi hv
  refine JC.seq (fun K6 hK6 => ?_)
  refine JC.region ?_
  refine J.bin rfl rfl rfl rfl ?_
  refine J.nil ?_
  refine JX.thenN (hK6 _ _ ?_)
  refine JC.seq (fun K7 hK7 => ?_)
  refine JC.cond rfl (fun h1 => ?_) (fun h1 => ?_)
  · skip
    have hlt : i < n := by simp at h1; omega
    refine JC.skip ?_
    refine JX.thenN (hK7 _ _ ?_)
    refine JC.seq (fun K8 hK8 => ?_)
    refine JC.block ?_
    refine JC.seq (fun K9 hK9 => ?_)
    refine JC.region ?_
    refine J.move rfl rfl ?_
    refine J.assign rfl rfl ?_
    refine J.nil ?_
    refine JX.thenN (hK9 _ _ ?_)
    refine JC.region ?_
    refine J.move rfl rfl ?_
    refine J.move rfl rfl ?_
    refine J.nilCheck rfl rfl ?_
    refine J.fieldAddr Ty.fd74_0 rfl rfl ?_
    refine J.loadO (l := lp ++ [(d, dkO s n p k), (s, dkS B)]) Ty.a72 rfl (List.mem_append_right _ (.head _)) rfl rfl ?_
    refine J.move rfl rfl ?_
    refine J.indexAddrS Ty.el72 Ty.s75 rfl rfl (by omega) (by omega) rfl ?_
    refine J.sliceAll Ty.ar75 (by rw [Ty.s5]; rfl) rfl rfl ?_
    refine J.append (lp := lp) (l := [(d, dkO s n p k), (s, dkS B)]) (xs := (B.take (64 * i)).map u8) (ys := (sec B i).map u8) (k := 64 * i) (m := 64) Ty.el28 Ty.s5 Ty.b5 Ty.z5 rfl (.inl ⟨5, Ty.u28⟩) rfl rfl hv (fun w hw => .inl ?_) ?_ (one_u8 _) (by omega) (by omega) rfl (fun v23 lp23 hv23 => ?_)
    · refine Row.own (cs := B.map u8) (tb := 75) (fr := (0, 0)) hw (List.mem_append_right _ (.tail _ (.head _))) ?_ (Nat.le_refl _)
      have := sec_cells hB (i : Int) (by omega) (by omega)
      simpa using this
    · have := sec_length hB (i : Int) (by omega) (by omega)
      rw [List.length_map]; simpa using this
    refine J.assign rfl rfl ?_
    refine J.nil ?_
    refine JX.blockN ?_
    refine JX.thenN (hK8 _ _ ?_)
    refine JC.region ?_
    (first | refine J.addN rfl rfl (by omega) (by omega) rfl ?_ | refine J.bin rfl rfl rfl rfl ?_)
    refine J.move rfl rfl ?_
    refine J.nil ?_
    rw [take_sec, show 64 * i + 64 = 64 * (i + 1) by omega] at hv23
    refine JX.thenN ?_
    refine JX.again (i + 1, v23, lp23) ?_ ?_ ?_
    · simp only; omega
    · exact ⟨rfl, rfl, rfl, rfl, trivial⟩
    · exact fun w hw => ⟨⟨hlt, hv23⟩, hw⟩
  · skip
    have hge : i = n := by simp at h1; omega
    subst hge
    refine JC.exit ?_
    refine JX.thenE ?_
    refine JX.thenE ?_
    refine JX.blockE ?_
    refine JX.thenN (hK4 _ _ ?_)
    refine JC.seq (fun K10 hK10 => ?_)
    refine JC.region ?_
    refine J.move rfl rfl ?_
    refine J.assign rfl rfl ?_
    refine J.nil ?_
    refine JX.thenN (hK10 _ _ ?_)
    refine JC.ret ?_
    refine JX.ret1 rfl rfl (fun w hw => ?_)
    rw [List.take_of_length_le (by omega)] at hv
    exact ⟨(v, lp), rfl, hv, hw⟩

theorem of_bad (a : Option Addr) (m c : Nat) (w : World) (hbad : m % 64 ≠ 0 ∨ 262144 < m) :
    Calls Try.prog 25 [.slice a m c].toArray w fun r w' => r = .returned (.tuple #[.pointer none, .int .i64 1]) ∧ Below w.heap.size w w' := by
  refine calls_of_J (args := [.slice a m c]) (e := [(0, .slice a m c)]) Try.func25 rfl rfl ⟨rfl, trivial⟩ (St.start w) ?_
  refine JC.seq (fun K0 hK0 => ?_)
  refine JC.region ?_
  refine J.assign rfl rfl ?_
  refine J.assign rfl rfl ?_
  refine J.nil ?_
  refine JX.thenN (hK0 _ _ ?_)
  refine JC.seq (fun K1 hK1 => ?_)
  refine JC.seq (fun K2 hK2 => ?_)
  refine JC.region ?_
  refine J.move rfl rfl ?_
  refine J.lenS rfl Ty.u28 rfl rfl ?_
  (first | refine J.remN rfl rfl (by omega) (by omega) rfl ?_ | refine J.bin rfl rfl rfl rfl ?_)
  refine J.bin rfl rfl rfl rfl ?_
  refine J.move rfl rfl ?_
  refine J.split 10 rfl (fun hs10 => ?_) (fun hs10 => ?_)
  · skip
    try simp only [decide_eq_true_eq, decide_eq_false_iff_not, beq_iff_eq, bne_iff_ne, bne_eq_false_iff_eq, ne_eq, beq_eq_false_iff_ne, Bool.not_eq_true, Bool.not_eq_false, Int.not_lt, Int.not_le] at hs10
    first
      | (refine J.skip rfl rfl rfl rfl rfl ?_)
      | (refine J.skipU rfl rfl rfl rfl ?_)
      | (refine J.unguard rfl rfl rfl ?_; refine J.move rfl rfl ?_)
    first
      | (refine J.skip rfl rfl rfl rfl rfl ?_)
      | (refine J.skipU rfl rfl rfl rfl ?_)
      | (refine J.unguard rfl rfl rfl ?_; refine J.lenS rfl Ty.u28 rfl rfl ?_)
    first
      | (refine J.skip rfl rfl rfl rfl rfl ?_)
      | (refine J.skipU rfl rfl rfl rfl ?_)
      | (refine J.unguard rfl rfl rfl ?_; refine J.bin rfl rfl rfl rfl ?_)
    (first | refine J.pickT rfl rfl rfl ?_ | refine J.pickF rfl rfl rfl ?_)
    refine J.nil ?_
    refine JX.thenN (hK2 _ _ ?_)
    first | refine JC.condT rfl ?_ | refine JC.cond rfl (fun _ => ?_) (fun h => by first | (exfalso; simp at h; omega) | (simp at h))
    refine JC.seq (fun K3 hK3 => ?_)
    refine JC.region ?_
    refine J.assign rfl rfl ?_
    refine J.assign rfl rfl ?_
    refine J.nil ?_
    refine JX.thenN (hK3 _ _ ?_)
    refine JC.ret ?_
    refine JX.thenR ?_
    refine JX.ret2 rfl rfl rfl (fun w hw => ?_)
    exact ⟨rfl, hw.below⟩
  · skip
    try simp only [decide_eq_true_eq, decide_eq_false_iff_not, beq_iff_eq, bne_iff_ne, bne_eq_false_iff_eq, ne_eq, beq_eq_false_iff_ne, Bool.not_eq_true, Bool.not_eq_false, Int.not_lt, Int.not_le] at hs10
    first
      | (refine J.skip rfl rfl rfl rfl rfl ?_)
      | (refine J.skipU rfl rfl rfl rfl ?_)
      | (refine J.unguard rfl rfl rfl ?_; refine J.move rfl rfl ?_)
    first
      | (refine J.skip rfl rfl rfl rfl rfl ?_)
      | (refine J.skipU rfl rfl rfl rfl ?_)
      | (refine J.unguard rfl rfl rfl ?_; refine J.lenS rfl Ty.u28 rfl rfl ?_)
    first
      | (refine J.skip rfl rfl rfl rfl rfl ?_)
      | (refine J.skipU rfl rfl rfl rfl ?_)
      | (refine J.unguard rfl rfl rfl ?_; refine J.bin rfl rfl rfl rfl ?_)
    (first | refine J.pickT rfl rfl rfl ?_ | refine J.pickF rfl rfl rfl ?_)
    refine J.nil ?_
    refine JX.thenN (hK2 _ _ ?_)
    first | refine JC.condT rfl ?_ | refine JC.cond rfl (fun _ => ?_) (fun h => by first | (exfalso; simp at h; omega) | (simp at h))
    refine JC.seq (fun K4 hK4 => ?_)
    refine JC.region ?_
    refine J.assign rfl rfl ?_
    refine J.assign rfl rfl ?_
    refine J.nil ?_
    refine JX.thenN (hK4 _ _ ?_)
    refine JC.ret ?_
    refine JX.thenR ?_
    refine JX.ret2 rfl rfl rfl (fun w hw => ?_)
    exact ⟨rfl, hw.below⟩


/-- how far Of has come -/
def ofB (bs : List UInt8) (n i : Nat) : List UInt8 := bs.take (64 * i) ++ List.replicate (64 * n - 64 * i) 0
theorem ofB_zero (bs : List UInt8) (n : Nat) : ofB bs n 0 = List.replicate (64 * n) 0 := by simp [ofB]
theorem ofB_all {bs : List UInt8} {n : Nat} (h : bs.length = 64 * n) : ofB bs n n = bs := by simp [ofB, List.take_of_length_le (Nat.le_of_eq h)]
theorem ofB_length {bs : List UInt8} {n i : Nat} (h : bs.length = 64 * n) (hi : i ≤ n) : (ofB bs n i).length = 64 * n := by simp [ofB]; omega
theorem ofB_succ {bs : List UInt8} {n i : Nat} (h : bs.length = 64 * n) (hi : i < n) :
    setMany ((ofB bs n i).map u8) (0 + i * 64) (List.take 64 (((bs.map u8).drop (64 * i * 1)).take ((64 * n - 64 * i) * 1))) = (ofB bs n (i + 1)).map u8 := by
  rw [Nat.mul_one, Nat.mul_one, List.take_take, ← List.map_drop, ← List.map_take]
  have hm : min 64 (64 * n - 64 * i) = 64 := by omega
  rw [hm, setMany_eq _ _ _ (by simp [ofB]; omega)]
  simp only [List.length_map, ← List.map_take, ← List.map_drop, ← List.map_append]
  congr 1
  have hl : (List.take 64 (bs.drop (64 * i))).length = 64 := by simp; omega
  rw [hl]
  simp only [ofB]
  have hlt : (bs.take (64 * i)).length = 64 * i := by simp; omega
  have e3 : List.drop ((bs.take (64 * i)).length + 64) (bs.take (64 * i) ++ List.replicate (64 * n - 64 * i) (0 : UInt8)) = List.replicate (64 * n - 64 * (i + 1)) 0 := by
    rw [← List.drop_drop, List.drop_left, List.drop_replicate]
    congr 1
  rw [show 0 + i * 64 = (bs.take (64 * i)).length by omega, List.take_left, e3, ← List.take_add]
  rfl

theorem of_spec (a : Option Addr) (m c n : Nat) (bs : List UInt8) (w : World) (hb : Row w (.slice a m c) m (bs.map u8)) (hbl : bs.length = m) (hm : m = 64 * n) (hn : n ≤ 4096) :
    Calls Try.prog 25 [.slice a m c].toArray w fun r w' => ∃ x : Nat × Nat, r = .returned (.tuple #[.pointer (some ⟨x.1, 0, none⟩), .int .i64 0]) ∧ True ∧ St w [] [(x.1, dkO x.2 n (-1) 0), (x.2, dkS bs)] w' := by
  refine calls_of_J (args := [.slice a m c]) (e := [(0, .slice a m c)]) Try.func25 rfl rfl ⟨rfl, trivial⟩ (St.start w) ?_
  refine JC.seq (fun K0 hK0 => ?_)
  refine JC.region ?_
  refine J.assign rfl rfl ?_
  refine J.assign rfl rfl ?_
  refine J.nil ?_
  refine JX.thenN (hK0 _ _ ?_)
  refine JC.seq (fun K1 hK1 => ?_)
  refine JC.seq (fun K2 hK2 => ?_)
  refine JC.region ?_
  refine J.move rfl rfl ?_
  refine J.lenS rfl Ty.u28 rfl rfl ?_
  (first | refine J.remN rfl rfl (by omega) (by omega) rfl ?_ | refine J.bin rfl rfl rfl rfl ?_)
  refine J.bin rfl rfl rfl rfl ?_
  refine J.move rfl rfl ?_
  refine J.split 10 rfl (fun h => by first | (exfalso; simp at h; omega) | (simp at h)) (fun _ => ?_)
  first
    | (refine J.skip rfl rfl rfl rfl rfl ?_)
    | (refine J.skipU rfl rfl rfl rfl ?_)
    | (refine J.unguard rfl rfl rfl ?_; refine J.move rfl rfl ?_)
  first
    | (refine J.skip rfl rfl rfl rfl rfl ?_)
    | (refine J.skipU rfl rfl rfl rfl ?_)
    | (refine J.unguard rfl rfl rfl ?_; refine J.lenS rfl Ty.u28 rfl rfl ?_)
  first
    | (refine J.skip rfl rfl rfl rfl rfl ?_)
    | (refine J.skipU rfl rfl rfl rfl ?_)
    | (refine J.unguard rfl rfl rfl ?_; refine J.bin rfl rfl rfl rfl ?_)
  (first | refine J.pickT rfl rfl rfl ?_ | refine J.pickF rfl rfl rfl ?_)
  refine J.nil ?_
  refine JX.thenN (hK2 _ _ ?_)
  first | refine JC.condF rfl ?_ | refine JC.cond rfl (fun h => by first | (exfalso; simp at h; omega) | (simp at h)) (fun _ => ?_)
  refine JC.skip ?_
  refine JX.thenN (hK1 _ _ ?_)
  refine JC.seq (fun K3 hK3 => ?_)
  refine JC.region ?_
  refine J.move rfl rfl ?_
  refine J.lenS rfl Ty.u28 rfl rfl ?_
  (first | refine J.quoN rfl rfl (by omega) (by omega) (by omega) rfl ?_ | refine J.bin rfl rfl rfl rfl ?_)
  refine J.callS (l1 := []) Ty.bd14 rfl rfl (fun w hw => new_spec _ w) (fun x _ => ?_)
  obtain ⟨d, s⟩ := x
  have hN : (min (max ((m : Int) / 64) 0) 4096).toNat = n := by omega
  simp only [hN, List.append_nil]
  refine J.assign rfl rfl ?_
  refine J.nil ?_
  refine JX.thenN (hK3 _ _ ?_)
  refine JC.seq (fun K4 hK4 => ?_)
  refine JC.seq (fun K5 hK5 => ?_)
  refine JC.region ?_
  refine J.move rfl rfl ?_
  refine J.nilCheck rfl rfl ?_
  refine J.fieldAddr Ty.fd74_0 rfl rfl ?_
  (first | refine J.loadO Ty.a72 rfl (.head _) rfl rfl ?_ | refine J.loadO Ty.a72 rfl (.tail _ (.head _)) rfl rfl ?_ | refine J.loadO Ty.a72 rfl (.tail _ (.tail _ (.head _))) rfl rfl ?_ | refine J.loadO Ty.a72 rfl (.tail _ (.tail _ (.tail _ (.head _)))) rfl rfl ?_ | refine J.loadO Ty.a72 rfl (.tail _ (.tail _ (.tail _ (.tail _ (.head _))))) rfl rfl ?_ | refine J.loadO Ty.a72 rfl (List.mem_append_right _ (.head _)) rfl rfl ?_ | refine J.loadO Ty.a72 rfl (List.mem_append_right _ (.tail _ (.head _))) rfl rfl ?_ | refine J.loadO Ty.a72 rfl (List.mem_append_right _ (.tail _ (.tail _ (.head _)))) rfl rfl ?_ | refine J.loadO Ty.a72 rfl (List.mem_append_right _ (.tail _ (.tail _ (.tail _ (.head _))))) rfl rfl ?_ | refine J.loadO Ty.a72 rfl (List.mem_append_right _ (.tail _ (.tail _ (.tail _ (.tail _ (.head _)))))) rfl rfl ?_)
  refine J.lenS rfl Ty.u72 rfl rfl ?_
  refine J.move rfl rfl ?_
  refine J.nil ?_
  refine JX.thenN (hK5 _ _ ?_)
  refine JC.block ?_
  refine JC.conseq (JC.cov (f := (fun x => [(0, .slice a m c), (4, .pointer (some ⟨d, 0, none⟩)), (23, .int .i64 n), (24, .int .i64 x)]) (0 : Nat)) ⟨rfl, rfl, rfl, rfl, trivial⟩ (JC.loop (α := Nat) (fun x => [(0, .slice a m c), (4, .pointer (some ⟨d, 0, none⟩)), (23, .int .i64 n), (24, .int .i64 x)]) (fun x w' => x ≤ n ∧ St w [] [(d, dkO s n (-1) 0), (s, dkS (ofB bs n x))] w') (fun x => n - x) (0 : Nat) (fun i => ?_))) (fun w hw => ⟨Nat.zero_le _, by rw [ofB_zero]; exact hw⟩)
  refine JC.pr (fun hi => ?_)
  refine JC.seq (fun K6 hK6 => ?_)
  refine JC.region ?_
  refine J.bin rfl rfl rfl rfl ?_
  refine J.nil ?_
  refine JX.thenN (hK6 _ _ ?_)
  refine JC.seq (fun K7 hK7 => ?_)
  refine JC.cond rfl (fun h1 => ?_) (fun h1 => ?_)
  · skip
    have hlt : i < n := by simp at h1; omega
    refine JC.skip ?_
    refine JX.thenN (hK7 _ _ ?_)
    refine JC.seq (fun K8 hK8 => ?_)
    refine JC.block ?_
    refine JC.seq (fun K9 hK9 => ?_)
    refine JC.region ?_
    refine J.move rfl rfl ?_
    refine J.assign rfl rfl ?_
    refine J.nil ?_
    refine JX.thenN (hK9 _ _ ?_)
    apply JC.drawL 11 [Eqv _, Eqv _, Eqv _, Eqv _, Eqv _, Eqv _, Eqv _, Eqv _, Eqv _, Eqv _, Eqv _] Ty.mixed rfl rfl rfl (by kernel_rfl) rfl rfl (fun w w' hw hb => hw.step hb) ⟨fun _ _ _ h _ => h, fun _ _ _ h _ => h, fun _ _ _ h _ => h, fun _ _ _ h _ => h, fun _ _ _ h _ => h, fun _ _ _ h _ => h, fun _ _ _ h _ => h, fun _ _ _ h _ => h, fun _ _ _ h _ => h, fun _ _ _ h _ => h, fun _ _ _ h _ => h, trivial⟩ ?hstep ?htail
    case hstep =>
      refine ⟨fun wi => ?_, fun wi => ?_, fun wi => ?_, fun wi => ?_, fun wi => ?_, fun wi => ?_, fun wi => ?_, fun wi => ?_, fun wi => ?_, fun wi => ?_, fun wi => ?_, trivial⟩
      · skip
        refine Fin.nil ?_
        refine J.move rfl rfl ?_
        refine J.nil (JX.fin rfl (fun w hw => ⟨rfl, (by rw [hw.1]; exact Below.refl _ _)⟩))
      · skip
        refine Fin.cons (fun v7_0 => ?_)
        refine Fin.nil ?_
        refine J.prE (fun h => ?_); subst h
        refine J.nilCheck rfl rfl ?_
        refine J.nil (JX.fin rfl (fun w hw => ⟨rfl, (by rw [hw.1]; exact Below.refl _ _)⟩))
      · skip
        refine Fin.cons (fun v7_1 => ?_)
        refine Fin.nil ?_
        refine J.prE (fun h => ?_); subst h
        refine J.fieldAddr Ty.fd74_0 rfl rfl ?_
        refine J.nil (JX.fin rfl (fun w hw => ⟨rfl, (by rw [hw.1]; exact Below.refl _ _)⟩))
      · skip
        refine Fin.cons (fun v7_2 => ?_)
        refine Fin.nil ?_
        refine J.prE (fun h => ?_); subst h
        (first | refine J.load1 Ty.a72 rfl (fun w hw => (cell_of (hw.2.own _ (.head _))).trans rfl) rfl ?_ | refine J.load1 Ty.a72 rfl (fun w hw => (cell_of (hw.2.own _ (.tail _ (.head _)))).trans rfl) rfl ?_ | refine J.load1 Ty.a72 rfl (fun w hw => (cell_of (hw.2.own _ (.tail _ (.tail _ (.head _))))).trans rfl) rfl ?_ | refine J.load1 Ty.a72 rfl (fun w hw => (cell_of (hw.2.own _ (.tail _ (.tail _ (.tail _ (.head _)))))).trans rfl) rfl ?_ | refine J.load1 Ty.a72 rfl (fun w hw => (cell_of (hw.2.own _ (.tail _ (.tail _ (.tail _ (.tail _ (.head _))))))).trans rfl) rfl ?_ | refine J.load1 Ty.a72 rfl (fun w hw => (cell_of (hw.2.own _ (List.mem_append_right _ (.head _)))).trans rfl) rfl ?_ | refine J.load1 Ty.a72 rfl (fun w hw => (cell_of (hw.2.own _ (List.mem_append_right _ (.tail _ (.head _))))).trans rfl) rfl ?_ | refine J.load1 Ty.a72 rfl (fun w hw => (cell_of (hw.2.own _ (List.mem_append_right _ (.tail _ (.tail _ (.head _)))))).trans rfl) rfl ?_ | refine J.load1 Ty.a72 rfl (fun w hw => (cell_of (hw.2.own _ (List.mem_append_right _ (.tail _ (.tail _ (.tail _ (.head _))))))).trans rfl) rfl ?_ | refine J.load1 Ty.a72 rfl (fun w hw => (cell_of (hw.2.own _ (List.mem_append_right _ (.tail _ (.tail _ (.tail _ (.tail _ (.head _)))))))).trans rfl) rfl ?_)
        refine J.nil (JX.fin rfl (fun w hw => ⟨rfl, (by rw [hw.1]; exact Below.refl _ _)⟩))
      · skip
        refine Fin.nil ?_
        refine J.move rfl rfl ?_
        refine J.nil (JX.fin rfl (fun w hw => ⟨rfl, (by rw [hw.1]; exact Below.refl _ _)⟩))
      · skip
        refine Fin.cons (fun v7_3 => ?_)
        refine Fin.cons (fun v7_4 => ?_)
        refine Fin.nil ?_
        refine J.prE (fun h => ?_); subst h
        refine J.prE (fun h => ?_); subst h
        refine J.indexAddrS Ty.el72 Ty.s75 rfl rfl (by omega) (by omega) rfl ?_
        refine J.nil (JX.fin rfl (fun w hw => ⟨rfl, (by rw [hw.1]; exact Below.refl _ _)⟩))
      · skip
        refine Fin.cons (fun v7_5 => ?_)
        refine Fin.nil ?_
        refine J.prE (fun h => ?_); subst h
        refine J.sliceAll Ty.ar75 (by rw [Ty.s5]; rfl) rfl rfl ?_
        refine J.nil (JX.fin rfl (fun w hw => ⟨rfl, (by rw [hw.1]; exact Below.refl _ _)⟩))
      · skip
        refine Fin.nil ?_
        refine J.move rfl rfl ?_
        refine J.nil (JX.fin rfl (fun w hw => ⟨rfl, (by rw [hw.1]; exact Below.refl _ _)⟩))
      · skip
        refine Fin.nil ?_
        refine J.move rfl rfl ?_
        refine J.nil (JX.fin rfl (fun w hw => ⟨rfl, (by rw [hw.1]; exact Below.refl _ _)⟩))
      · skip
        refine Fin.cons (fun v7_8 => ?_)
        refine Fin.nil ?_
        refine J.prE (fun h => ?_); subst h
        (first | refine J.mulN rfl rfl (by omega) (by omega) rfl ?_ | refine J.bin rfl rfl rfl rfl ?_)
        refine J.nil (JX.fin rfl (fun w hw => ⟨rfl, (by rw [hw.1]; exact Below.refl _ _)⟩))
      · skip
        refine Fin.cons (fun v7_7 => ?_)
        refine Fin.cons (fun v7_9 => ?_)
        refine Fin.nil ?_
        refine J.prE (fun h => ?_); subst h
        refine J.prE (fun h => ?_); subst h
        refine J.sliceS (i := 64 * i) (j := m) Ty.el28 Ty.s5 rfl rfl rfl (by simp [bnd]; omega) rfl (by omega) (by have := hb.cap; omega) (by have := hb.cap; omega) rfl ?_
        refine J.nil (JX.fin rfl (fun w hw => ⟨rfl, (by rw [hw.1]; exact Below.refl _ _)⟩))
    case htail =>
      refine Fin.cons (fun v7_0 => ?_)
      refine Fin.cons (fun v7_1 => ?_)
      refine Fin.cons (fun v7_2 => ?_)
      refine Fin.cons (fun v7_3 => ?_)
      refine Fin.cons (fun v7_4 => ?_)
      refine Fin.cons (fun v7_5 => ?_)
      refine Fin.cons (fun v7_6 => ?_)
      refine Fin.cons (fun v7_7 => ?_)
      refine Fin.cons (fun v7_8 => ?_)
      refine Fin.cons (fun v7_9 => ?_)
      refine Fin.cons (fun v7_10 => ?_)
      refine Fin.nil ?_
      refine J.prE (fun h => ?_); subst h
      refine J.prE (fun h => ?_); subst h
      refine J.prE (fun h => ?_); subst h
      refine J.prE (fun h => ?_); subst h
      refine J.prE (fun h => ?_); subst h
      refine J.prE (fun h => ?_); subst h
      refine J.prE (fun h => ?_); subst h
      refine J.prE (fun h => ?_); subst h
      refine J.prE (fun h => ?_); subst h
      refine J.prE (fun h => ?_); subst h
      refine J.prE (fun h => ?_); subst h
      refine J.copy (m := m - 64 * i) (kb := 64) (cs := (ofB bs n i).map u8) (ys := ((bs.map u8).drop (64 * i * 1)).take ((m - 64 * i) * 1)) (tb := 75) (o := 0 + i * 64) Ty.el28 Ty.s5 rfl rfl (fun w hw => ⟨(hb.st (.inr (by simp)) hw).slice (by simpa using hbl) (by omega) (Nat.le_refl _), _, _, rfl⟩) (by simp; omega) (fun y hy => one_u8 bs y (List.mem_of_mem_drop (List.mem_of_mem_take hy))) (by omega) (.there .here) (by simp [ofB_length (hbl.trans hm) hi]; omega) (.inr ⟨_, rfl, rfl⟩) ?_
      subst hm
      rw [ofB_succ hbl hlt]
      refine J.nil ?_
      refine JX.blockN ?_
      refine JX.thenN (hK8 _ _ ?_)
      refine JC.region ?_
      (first | refine J.addN rfl rfl (by omega) (by omega) rfl ?_ | refine J.bin rfl rfl rfl rfl ?_)
      refine J.move rfl rfl ?_
      refine J.nil ?_
      refine JX.thenN ?_
      refine JX.again (i + 1) ?_ ?_ ?_
      · omega
      · exact ⟨rfl, rfl, rfl, rfl, trivial⟩
      · exact fun w hw => ⟨hlt, hw⟩
  · skip
    have hge : i = n := by simp at h1; omega
    subst hge
    refine JC.exit ?_
    refine JX.thenE ?_
    refine JX.thenE ?_
    refine JX.blockE ?_
    refine JX.thenN (hK4 _ _ ?_)
    refine JC.seq (fun K10 hK10 => ?_)
    refine JC.region ?_
    refine J.move rfl rfl ?_
    refine J.assign rfl rfl ?_
    refine J.assign rfl rfl ?_
    refine J.nil ?_
    refine JX.thenN (hK10 _ _ ?_)
    refine JC.ret ?_
    refine JX.ret2 rfl rfl rfl (fun w hw => ?_)
    rw [ofB_all (hbl.trans hm)] at hw
    exact ⟨(d, s), rfl, trivial, hw⟩

end Go.Proofs.Ytlmbpfgiadbjaaa
