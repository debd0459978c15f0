/-
  What the small functions of package slate do, and the document's: contracts.
-/
import Derived.Test.YtlmbpfgiadbjaaaDk
namespace Go.Proofs.Ytlmbpfgiadbjaaa
open Go.J Go.RowKit
set_option linter.unusedVariables false
set_option linter.unusedSimpArgs false
set_option maxRecDepth 4000

/-- a number out of bytes, the highest first -/
def num (bs : List UInt8) : Nat := bs.foldl (fun n x => n * 256 + x.toNat) 0
theorem num_succ {bs : List UInt8} {i : Nat} (h : i < bs.length) : num (bs.take (i + 1)) = num (bs.take i) * 256 + bs[i].toNat := by
  rw [take_add_one h, num, List.foldl_append]; rfl
theorem num_lt (bs : List UInt8) : ∀ i, i ≤ bs.length → num (bs.take i) < 256 ^ i := by
  intro i
  induction i with
  | zero => intro _; simp [num]
  | succ i ih =>
    intro h
    rw [num_succ (by omega), Nat.pow_succ]
    have := ih (by omega)
    have := bs[i].toNat_lt
    omega
theorem or_byte (n x : Nat) (hx : x < 256) (h : n * 256 + x < 18446744073709551616) : (BitVec.ofInt 64 ((n * 256 : Nat) : Int) ||| BitVec.ofInt 64 ((x : Nat) : Int)).toNat = n * 256 + x := by
  rw [BitVec.ofInt_natCast, BitVec.ofInt_natCast, BitVec.toNat_or, BitVec.toNat_ofNat, BitVec.toNat_ofNat, Nat.mod_eq_of_lt (by omega), Nat.mod_eq_of_lt (by omega)]
  have h1 := Nat.shiftLeft_add_eq_or_of_lt (show x < 2 ^ 8 by omega) n
  rw [Nat.shiftLeft_eq] at h1
  exact h1.symm
theorem or_u64 (n x : Nat) (hx : x < 256) (h : n * 256 + x < 18446744073709551616) :
    Value.int .u64 (IntKind.u64.wrap ((BitVec.ofInt 64 (IntKind.u64.wrap ((n : Int) * 2 ^ 8)) ||| BitVec.ofInt 64 (IntKind.u64.wrap (x : Int))).toNat : Int)) = .int .u64 ((n * 256 + x : Nat) : Int) := by
  have e1 : IntKind.u64.wrap ((n : Int) * 2 ^ 8) = ((n * 256 : Nat) : Int) := by
    rw [wrap_u64m]; omega
  have e2 : IntKind.u64.wrap (x : Int) = ((x : Nat) : Int) := wrap_u64 (by omega) (by omega)
  rw [e1, e2, or_byte n x hx h, wrap_u64 (by omega) (by omega)]
theorem muladd_u64 (n x : Nat) (hx : x < 256) (h : n * 256 + x < 18446744073709551616) :
    Value.int .u64 (IntKind.u64.wrap (IntKind.u64.wrap ((n : Int) * 256) + IntKind.u64.wrap (x : Int))) = .int .u64 ((n * 256 + x : Nat) : Int) := by
  congr 1
  rw [wrap_u64m, wrap_u64m, wrap_u64m]; omega
theorem num_step {bs : List UInt8} {i : Nat} (h : i < bs.length) (h8 : i < 8) : num (bs.take i) * 256 + bs[i].toNat < 18446744073709551616 := by
  have h1 := num_lt bs i (by omega)
  have h2 : 256 ^ i ≤ 256 ^ 7 := Nat.pow_le_pow_right (by omega) (by omega)
  have h3 : (256 : Nat) ^ 7 = 72057594037927936 := by decide
  have := bs[i].toNat_lt
  omega
theorem num8_lt (bs : List UInt8) : num (bs.take 8) < 18446744073709551616 := by
  have h1 := num_lt (bs.take 8) (bs.take 8).length (Nat.le_refl _)
  rw [List.take_of_length_le (Nat.le_refl _)] at h1
  have h2 : 256 ^ (bs.take 8).length ≤ 256 ^ 8 := Nat.pow_le_pow_right (by omega) (by simp; omega)
  have h3 : (256 : Nat) ^ 8 = 18446744073709551616 := by decide
  omega
/-- a head's three numbers -/
def headP (bs : List UInt8) : Nat × Nat × Nat := if (bs.drop 24).all (· == 0) then (num (bs.take 8), num ((bs.drop 8).take 8), num ((bs.drop 16).take 8)) else (0, 0, 0)
theorem headP_lt (bs : List UInt8) : (headP bs).1 < 18446744073709551616 ∧ (headP bs).2.1 < 18446744073709551616 ∧ (headP bs).2.2 < 18446744073709551616 := by
  unfold headP; split
  · exact ⟨num8_lt _, num8_lt _, num8_lt _⟩
  · simp
def needN (n : Nat) : Nat := (n + 65) / 64

theorem number_spec (v : Value) (m : Nat) (bs : List UInt8) (w : World) (hr : Row w v m (bs.map u8)) (hl : bs.length = m) (h8 : 8 ≤ m) :
    Calls Try.prog 43 [v].toArray w fun r w' => r = .returned (.int .u64 ((num (bs.take 8) : Nat) : Int)) ∧ Below w.heap.size w w' := by
  obtain ⟨b, o, c, rfl, hc, hcl⟩ := Row.some hr (by simp; omega)
  refine calls_of_J (args := [.slice (some ⟨b, o, none⟩) m c]) (e := [(0, .slice (some ⟨b, o, none⟩) m c)]) Try.func43 rfl rfl ⟨rfl, trivial⟩ (St.start w) ?_
  refine JC.seq (fun K0 hK0 => ?_)
  refine JC.region ?_
  refine J.assign rfl rfl ?_
  refine J.nil ?_
  refine JX.thenN (hK0 _ _ ?_)
  refine JC.seq (fun K1 hK1 => ?_)
  refine JC.region ?_
  refine J.assign rfl rfl ?_
  refine J.nil ?_
  refine JX.thenN (hK1 _ _ ?_)
  refine JC.seq (fun K2 hK2 => ?_)
  refine JC.seq (fun K3 hK3 => ?_)
  refine JC.region ?_
  refine J.move rfl rfl ?_
  refine J.sliceS (i := 0) (j := 8) Ty.el28 Ty.s5 rfl rfl rfl rfl (by simp [bnd]) (by omega) (by omega) hc rfl ?_
  refine J.name 7 rfl (show _ = Value.slice (some ⟨b, o, none⟩) 8 c by simp [Addr.add]) ?_
  refine J.lenS rfl Ty.u28 rfl rfl ?_
  refine J.move rfl rfl ?_
  refine J.nil ?_
  refine JX.thenN (hK3 _ _ ?_)
  refine JC.block ?_
  refine JC.conseq (JC.cov (f := (fun i => [(7, .slice (some ⟨b, o, none⟩) 8 c), (8, .int .i64 8), (9, .int .i64 ((i : Nat) : Int)), (3, .int .u64 ((num (bs.take i) : Nat) : Int))]) 0) ⟨rfl, rfl, rfl, rfl, trivial⟩ (JC.loop (α := Nat) (fun i => [(7, .slice (some ⟨b, o, none⟩) 8 c), (8, .int .i64 8), (9, .int .i64 ((i : Nat) : Int)), (3, .int .u64 ((num (bs.take i) : Nat) : Int))]) (fun i w' => i ≤ 8 ∧ St w [] [] w') (fun i => 8 - i) 0 (fun i => ?_))) (fun w hw => ⟨Nat.zero_le _, hw⟩)
  refine JC.pr (fun hi => ?_)
  refine JC.seq (fun K4 hK4 => ?_)
  refine JC.region ?_
  refine J.bin rfl rfl rfl rfl ?_
  refine J.nil ?_
  refine JX.thenN (hK4 _ _ ?_)
  refine JC.seq (fun K5 hK5 => ?_)
  refine JC.cond rfl (fun h0 => ?_) (fun h0 => ?_)
  · skip
    have hlt : i < 8 := by simp at h0; omega
    refine JC.skip ?_
    refine JX.thenN (hK5 _ _ ?_)
    refine JC.seq (fun K6 hK6 => ?_)
    refine JC.block ?_
    refine JC.seq (fun K7 hK7 => ?_)
    refine JC.region ?_
    refine J.indexAddrS Ty.el28 Ty.s5 rfl rfl (by omega) (by omega) rfl ?_
    refine J.loadR (v := u8 (bs[i]'(by omega))) Ty.a5 rfl (hcl.at_u8 (by omega) (by simp)) (by simp) rfl ?_
    refine J.assign rfl rfl ?_
    refine J.nil ?_
    refine JX.thenN (hK7 _ _ ?_)
    refine JC.region ?_
    refine J.move rfl rfl ?_
    refine J.bin rfl rfl rfl rfl ?_
    refine J.move rfl rfl ?_
    refine J.convInt Ty.u5 Ty.u65 rfl rfl ?_
    refine J.bin rfl rfl rfl rfl ?_
    refine J.name 17 rfl (or_u64 _ _ (UInt8.toNat_lt _) (num_step (bs := bs) (i := i) (by omega) hlt)) ?_
    refine J.name 17 rfl (show _ = Value.int .u64 ((num (bs.take (i + 1)) : Nat) : Int) by rw [num_succ (by omega)]) ?_
    refine J.assign rfl rfl ?_
    refine J.nil ?_
    refine JX.blockN ?_
    refine JX.thenN (hK6 _ _ ?_)
    refine JC.region ?_
    (first | refine J.addN rfl rfl (by omega) (by omega) rfl ?_ | refine J.bin rfl rfl rfl rfl ?_)
    refine J.move rfl rfl ?_
    refine J.nil ?_
    refine JX.thenN ?_
    refine JX.again (i + 1) ?_ ?_ ?_
    · omega
    · exact ⟨rfl, rfl, rfl, rfl, trivial⟩
    · exact fun w1 hw => ⟨hlt, hw⟩
  · skip
    obtain rfl : i = 8 := by simp at h0; omega
    refine JC.exit ?_
    refine JX.thenE ?_
    refine JX.thenE ?_
    refine JX.blockE ?_
    refine JX.thenN (hK2 _ _ ?_)
    refine JC.seq (fun K8 hK8 => ?_)
    refine JC.region ?_
    refine J.move rfl rfl ?_
    refine J.assign rfl rfl ?_
    refine J.nil ?_
    refine JX.thenN (hK8 _ _ ?_)
    refine JC.ret ?_
    refine JX.ret1 rfl rfl (fun w hw => ?_)
    exact ⟨rfl, hw.below⟩

theorem rnumber_spec (v : Value) (m : Nat) (bs : List UInt8) (w : World) (hr : Row w v m (bs.map u8)) (hl : bs.length = m) (h8 : 8 ≤ m) :
    Calls Try.prog 44 [v].toArray w fun r w' => r = .returned (.int .u64 ((num (bs.take 8) : Nat) : Int)) ∧ Below w.heap.size w w' := by
  obtain ⟨b, o, c, rfl, hc, hcl⟩ := Row.some hr (by simp; omega)
  refine calls_of_J (args := [.slice (some ⟨b, o, none⟩) m c]) (e := [(0, .slice (some ⟨b, o, none⟩) m c)]) Try.func44 rfl rfl ⟨rfl, trivial⟩ (St.start w) ?_
  refine JC.seq (fun K0 hK0 => ?_)
  refine JC.region ?_
  refine J.assign rfl rfl ?_
  refine J.nil ?_
  refine JX.thenN (hK0 _ _ ?_)
  refine JC.seq (fun K1 hK1 => ?_)
  refine JC.region ?_
  refine J.assign rfl rfl ?_
  refine J.nil ?_
  refine JX.thenN (hK1 _ _ ?_)
  refine JC.seq (fun K2 hK2 => ?_)
  refine JC.seq (fun K3 hK3 => ?_)
  refine JC.region ?_
  refine J.assign rfl rfl ?_
  refine J.nil ?_
  refine JX.thenN (hK3 _ _ ?_)
  refine JC.block ?_
  refine JC.conseq (JC.cov (f := (fun i => [(0, .slice (some ⟨b, o, none⟩) m c), (4, .int .i64 ((i : Nat) : Int)), (3, .int .u64 ((num (bs.take i) : Nat) : Int))]) 0) ⟨rfl, rfl, rfl, trivial⟩ (JC.loop (α := Nat) (fun i => [(0, .slice (some ⟨b, o, none⟩) m c), (4, .int .i64 ((i : Nat) : Int)), (3, .int .u64 ((num (bs.take i) : Nat) : Int))]) (fun i w' => i ≤ 8 ∧ St w [] [] w') (fun i => 8 - i) 0 (fun i => ?_))) (fun w hw => ⟨Nat.zero_le _, hw⟩)
  refine JC.pr (fun hi => ?_)
  refine JC.seq (fun K4 hK4 => ?_)
  refine JC.seq (fun K5 hK5 => ?_)
  refine JC.region ?_
  refine J.move rfl rfl ?_
  refine J.bin rfl rfl rfl rfl ?_
  refine J.nil ?_
  refine JX.thenN (hK5 _ _ ?_)
  refine JC.cond rfl (fun h0 => ?_) (fun h0 => ?_)
  · skip
    have hlt : i < 8 := by simp at h0; omega
    refine JC.skip ?_
    refine JX.thenN (hK4 _ _ ?_)
    refine JC.seq (fun K6 hK6 => ?_)
    refine JC.block ?_
    refine JC.region ?_
    refine J.move rfl rfl ?_
    refine J.bin rfl rfl rfl rfl ?_
    refine J.move rfl rfl ?_
    refine J.move rfl rfl ?_
    refine J.indexAddrS Ty.el28 Ty.s5 rfl rfl (by omega) (by omega) rfl ?_
    refine J.loadR (v := u8 (bs[i]'(by omega))) Ty.a5 rfl (hcl.at_u8 (by omega) (by simp)) (by simp) rfl ?_
    refine J.convInt Ty.u5 Ty.u65 rfl rfl ?_
    refine J.bin rfl rfl rfl rfl ?_
    refine J.name 16 rfl (muladd_u64 _ _ (UInt8.toNat_lt _) (num_step (bs := bs) (i := i) (by omega) hlt)) ?_
    refine J.name 16 rfl (show _ = Value.int .u64 ((num (bs.take (i + 1)) : Nat) : Int) by rw [num_succ (by omega)]) ?_
    refine J.assign rfl rfl ?_
    refine J.nil ?_
    refine JX.blockN ?_
    refine JX.thenN (hK6 _ _ ?_)
    refine JC.region ?_
    refine J.move rfl rfl ?_
    (first | refine J.addN rfl rfl (by omega) (by omega) rfl ?_ | refine J.bin rfl rfl rfl rfl ?_)
    refine J.assign rfl rfl ?_
    refine J.nil ?_
    refine JX.thenN ?_
    refine JX.again (i + 1) ?_ ?_ ?_
    · omega
    · exact ⟨rfl, rfl, rfl, trivial⟩
    · exact fun w1 hw => ⟨hlt, hw⟩
  · skip
    obtain rfl : i = 8 := by simp at h0; omega
    refine JC.exit ?_
    refine JX.thenE ?_
    refine JX.thenE ?_
    refine JX.blockE ?_
    refine JX.thenN (hK2 _ _ ?_)
    refine JC.seq (fun K7 hK7 => ?_)
    refine JC.region ?_
    refine J.move rfl rfl ?_
    refine J.assign rfl rfl ?_
    refine J.nil ?_
    refine JX.thenN (hK7 _ _ ?_)
    refine JC.ret ?_
    refine JX.ret1 rfl rfl (fun w hw => ?_)
    exact ⟨rfl, hw.below⟩

theorem need_spec (n : Nat) (w : World) (hn : n ≤ 1125899906842624) :
    Calls Try.prog 39 [.int .i64 ((n : Nat) : Int)].toArray w fun r w' => r = .returned (.int .i64 ((needN n : Nat) : Int)) ∧ Below w.heap.size w w' := by
  refine calls_of_J (args := [.int .i64 ((n : Nat) : Int)]) (e := [(0, .int .i64 ((n : Nat) : Int))]) Try.func39 rfl rfl ⟨rfl, trivial⟩ (St.start w) ?_
  refine JC.seq (fun K0 hK0 => ?_)
  refine JC.region ?_
  refine J.assign rfl rfl ?_
  refine J.nil ?_
  refine JX.thenN (hK0 _ _ ?_)
  refine JC.seq (fun K1 hK1 => ?_)
  refine JC.region ?_
  refine J.move rfl rfl ?_
  (first | refine J.addN rfl rfl (by omega) (by omega) rfl ?_ | refine J.bin rfl rfl rfl rfl ?_)
  (first | refine J.addN rfl rfl (by omega) (by omega) rfl ?_ | refine J.bin rfl rfl rfl rfl ?_)
  (first | refine J.subN rfl rfl (by omega) (by omega) rfl ?_ | refine J.bin rfl rfl rfl rfl ?_)
  (first | refine J.quoN rfl rfl (by omega) (by omega) (by omega) rfl ?_ | refine J.bin rfl rfl rfl rfl ?_)
  refine J.assign rfl rfl ?_
  refine J.nil ?_
  refine JX.thenN (hK1 _ _ ?_)
  refine JC.ret ?_
  refine JX.ret1 rfl rfl (fun w hw => ?_)
  refine ⟨congrArg (fun x => Ending.returned (Value.int .i64 x)) ?_, hw.below⟩
  unfold needN; omega

theorem rsectors_spec (a : Option Addr) (n c : Nat) (w : World) (hn : n ≤ 1125899906842624) :
    Calls Try.prog 42 [.slice a n c].toArray w fun r w' => r = .returned (.int .i64 ((needN n : Nat) : Int)) ∧ Below w.heap.size w w' := by
  refine calls_of_J (args := [.slice a n c]) (e := [(0, .slice a n c)]) Try.func42 rfl rfl ⟨rfl, trivial⟩ (St.start w) ?_
  refine JC.seq (fun K0 hK0 => ?_)
  refine JC.region ?_
  refine J.assign rfl rfl ?_
  refine J.nil ?_
  refine JX.thenN (hK0 _ _ ?_)
  refine JC.seq (fun K1 hK1 => ?_)
  refine JC.region ?_
  refine J.move rfl rfl ?_
  refine J.lenS rfl Ty.u28 rfl rfl ?_
  (first | refine J.addN rfl rfl (by omega) (by omega) rfl ?_ | refine J.bin rfl rfl rfl rfl ?_)
  (first | refine J.addN rfl rfl (by omega) (by omega) rfl ?_ | refine J.bin rfl rfl rfl rfl ?_)
  (first | refine J.quoN rfl rfl (by omega) (by omega) (by omega) rfl ?_ | refine J.bin rfl rfl rfl rfl ?_)
  refine J.assign rfl rfl ?_
  refine J.nil ?_
  refine JX.thenN (hK1 _ _ ?_)
  refine JC.ret ?_
  refine JX.ret1 rfl rfl (fun w hw => ?_)
  refine ⟨congrArg (fun x => Ending.returned (Value.int .i64 x)) ?_, hw.below⟩
  unfold needN; omega


theorem headP_bad {bs : List UInt8} {i : Nat} (hl : bs.length = 64) (hi : i < 40) (h : bs.getD (24 + i) 0 ≠ 0) : headP bs = (0, 0, 0) := by
  unfold headP
  rw [if_neg]
  intro h1
  rw [List.all_eq_true] at h1
  have := h1 bs[24 + i] (by rw [List.mem_iff_getElem?]; exact ⟨i, by rw [List.getElem?_drop, List.getElem?_eq_getElem]⟩)
  rw [List.getD_eq_getElem?_getD, List.getElem?_eq_getElem (by omega)] at h
  simp at this h
  exact h this
theorem headP_ok {bs : List UInt8} (hl : bs.length = 64) (h : ∀ j, j < 40 → bs.getD (24 + j) 0 = 0) : headP bs = (num (bs.take 8), num ((bs.drop 8).take 8), num ((bs.drop 16).take 8)) := by
  unfold headP
  rw [if_pos]
  rw [List.all_eq_true]
  intro x hx
  obtain ⟨j, hj⟩ := List.mem_iff_getElem?.1 hx
  have hjl : j < 40 := by have := (List.getElem?_eq_some_iff.1 hj).1; simp at this; omega
  have := h j hjl
  rw [List.getElem?_drop] at hj
  rw [List.getD_eq_getElem?_getD, hj] at this
  simpa using this

theorem head_spec (v : Value) (bs : List UInt8) (w : World) (hr : Row w v 64 (bs.map u8)) (hl : bs.length = 64) :
    Calls Try.prog 38 [v].toArray w fun r w' => r = .returned (.tuple #[.int .u64 (((headP bs).1 : Nat) : Int), .int .u64 (((headP bs).2.1 : Nat) : Int), .int .u64 (((headP bs).2.2 : Nat) : Int)]) ∧ Below w.heap.size w w' := by
  have hr0 := hr
  obtain ⟨b, o, c, rfl, hc, hcl⟩ := Row.some hr0 (by simp; omega)
  refine calls_of_J (args := [.slice (some ⟨b, o, none⟩) 64 c]) (e := [(0, .slice (some ⟨b, o, none⟩) 64 c)]) Try.func38 rfl rfl ⟨rfl, trivial⟩ (St.start w) ?_
  refine JC.seq (fun K0 hK0 => ?_)
  refine JC.region ?_
  refine J.assign rfl rfl ?_
  refine J.assign rfl rfl ?_
  refine J.assign rfl rfl ?_
  refine J.nil ?_
  refine JX.thenN (hK0 _ _ ?_)
  refine JC.seq (fun K1 hK1 => ?_)
  refine JC.seq (fun K2 hK2 => ?_)
  refine JC.region ?_
  refine J.move rfl rfl ?_
  refine J.sliceS (i := 24) (j := 64) Ty.el28 Ty.s5 rfl rfl rfl (by simp [bnd]) rfl (by omega) (by omega) hc rfl ?_
  refine J.name 8 rfl (show _ = Value.slice (some ⟨b, o + 24, none⟩) 40 (c - 24) by rw [if_neg (by omega)]; rfl) ?_
  refine J.lenS rfl Ty.u28 rfl rfl ?_
  refine J.move rfl rfl ?_
  refine J.nil ?_
  refine JX.thenN (hK2 _ _ ?_)
  refine JC.block ?_
  refine JC.conseq (JC.cov (f := (fun i => [(0, .slice (some ⟨b, o, none⟩) 64 c), (8, .slice (some ⟨b, o + 24, none⟩) 40 (c - 24)), (9, .int .i64 40), (10, .int .i64 ((i : Nat) : Int))]) 0) ⟨rfl, rfl, rfl, rfl, trivial⟩ (JC.loop (α := Nat) (fun i => [(0, .slice (some ⟨b, o, none⟩) 64 c), (8, .slice (some ⟨b, o + 24, none⟩) 40 (c - 24)), (9, .int .i64 40), (10, .int .i64 ((i : Nat) : Int))]) (fun i w' => (i ≤ 40 ∧ ∀ j, j < i → bs.getD (24 + j) 0 = 0) ∧ St w [] [] w') (fun i => 40 - i) 0 (fun i => ?_))) (fun w hw => ⟨⟨Nat.zero_le _, fun j hj => by omega⟩, hw⟩)
  refine JC.pr (fun hi => ?_)
  obtain ⟨hi, hz⟩ := hi
  refine JC.seq (fun K3 hK3 => ?_)
  refine JC.region ?_
  refine J.bin rfl rfl rfl rfl ?_
  refine J.nil ?_
  refine JX.thenN (hK3 _ _ ?_)
  refine JC.seq (fun K4 hK4 => ?_)
  refine JC.cond rfl (fun h0 => ?_) (fun h0 => ?_)
  · skip
    have hlt : i < 40 := by simp at h0; omega
    refine JC.skip ?_
    refine JX.thenN (hK4 _ _ ?_)
    refine JC.seq (fun K5 hK5 => ?_)
    refine JC.block ?_
    refine JC.seq (fun K6 hK6 => ?_)
    refine JC.region ?_
    refine J.indexAddrS Ty.el28 Ty.s5 rfl rfl (by omega) (by omega) rfl ?_
    refine J.loadR (v := u8 (bs[24 + i]'(by omega))) Ty.a5 rfl (hcl.at_u8 (by omega) (by simp; omega)) (by simp) rfl ?_
    refine J.assign rfl rfl ?_
    refine J.nil ?_
    refine JX.thenN (hK6 _ _ ?_)
    refine JC.seq (fun K7 hK7 => ?_)
    refine JC.region ?_
    refine J.move rfl rfl ?_
    refine J.bin rfl rfl rfl rfl ?_
    refine J.nil ?_
    refine JX.thenN (hK7 _ _ ?_)
    refine JC.cond rfl (fun h1 => ?_) (fun h1 => ?_)
    · skip
      have hnz : bs.getD (24 + i) 0 ≠ 0 := by
        rw [List.getD_eq_getElem?_getD, List.getElem?_eq_getElem (by omega)]
        intro e
        simp at e h1
        rw [e] at h1
        exact h1 rfl
      have hbad := headP_bad hl hlt hnz
      refine JC.seq (fun K8 hK8 => ?_)
      refine JC.region ?_
      refine J.assign rfl rfl ?_
      refine J.assign rfl rfl ?_
      refine J.assign rfl rfl ?_
      refine J.nil ?_
      refine JX.thenN (hK8 _ _ ?_)
      refine JC.ret ?_
      refine JX.blockR ?_
      refine JX.thenR ?_
      refine JX.thenR ?_
      refine JX.blockR ?_
      refine JX.thenR ?_
      refine JX.ret3 rfl rfl rfl rfl (fun w hw => ?_)
      first
      | (rw [hbad]; exact ⟨rfl, hw.below⟩)
      | (rw [hok]; exact ⟨rfl, hw.below⟩)
    · skip
      have hzi : bs.getD (24 + i) 0 = 0 := by
        rw [List.getD_eq_getElem?_getD, List.getElem?_eq_getElem (by omega)]
        simp at h1 ⊢
        exact UInt8.toNat_inj.1 (by simpa using h1)
      refine JC.skip ?_
      refine JX.blockN ?_
      refine JX.thenN (hK5 _ _ ?_)
      refine JC.region ?_
      (first | refine J.addN rfl rfl (by omega) (by omega) rfl ?_ | refine J.bin rfl rfl rfl rfl ?_)
      refine J.move rfl rfl ?_
      refine J.nil ?_
      refine JX.thenN ?_
      refine JX.again (i + 1) ?_ ?_ ?_
      · omega
      · exact ⟨rfl, rfl, rfl, rfl, trivial⟩
      · exact fun w1 hw => ⟨⟨hlt, fun j hj => by
          by_cases e : j = i
          · subst e; exact hzi
          · exact hz j (by omega)⟩, hw⟩
  · skip
    obtain rfl : i = 40 := by simp at h0; omega
    have hok := headP_ok hl hz
    refine JC.exit ?_
    refine JX.thenE ?_
    refine JX.thenE ?_
    refine JX.blockE ?_
    refine JX.thenN (hK1 _ _ ?_)
    refine JC.seq (fun K9 hK9 => ?_)
    apply JC.drawL 8 [Eqv _, Eqv _, Eqv _, Eqv _, Eqv _, Eqv _, Eqv _, Eqv _] Ty.mixed rfl rfl rfl (by kernel_rfl) rfl rfl (fun w w' hw hb => hw.step hb) ⟨fun _ _ _ h _ => h, fun _ _ _ h _ => h, fun _ _ _ h _ => h, fun _ _ _ h _ => h, fun _ _ _ h _ => h, fun _ _ _ h _ => h, fun _ _ _ h _ => h, fun _ _ _ h _ => h, trivial⟩ ?hstep ?htail
    case hstep =>
      refine ⟨fun wi => ?_, fun wi => ?_, fun wi => ?_, fun wi => ?_, fun wi => ?_, fun wi => ?_, fun wi => ?_, fun wi => ?_, trivial⟩
      · skip
        refine Fin.nil ?_
        refine J.move rfl rfl ?_
        refine J.nil (JX.fin rfl (fun w hw => ⟨rfl, (by rw [hw.1]; exact Below.refl _ _)⟩))
      · skip
        refine Fin.cons (fun v7_0 => ?_)
        refine Fin.nil ?_
        refine J.prE (fun h => ?_); subst h
        refine J.callD Ty.bd43 rfl rfl (fun w' hw => number_spec _ 64 bs w' (hr.st (.inr (by simp)) hw) hl (by omega)) ?_
        refine J.nil (JX.fin rfl (fun w hw => ⟨rfl, hw⟩))
      · skip
        refine Fin.nil ?_
        refine J.move rfl rfl ?_
        refine J.nil (JX.fin rfl (fun w hw => ⟨rfl, (by rw [hw.1]; exact Below.refl _ _)⟩))
      · skip
        refine Fin.cons (fun v7_2 => ?_)
        refine Fin.nil ?_
        refine J.prE (fun h => ?_); subst h
        refine J.sliceS (i := 8) (j := 64) Ty.el28 Ty.s5 rfl rfl rfl (by simp [bnd]) rfl (by omega) (by omega) hc rfl ?_
        refine J.nil (JX.fin rfl (fun w hw => ⟨rfl, (by rw [hw.1]; exact Below.refl _ _)⟩))
      · skip
        refine Fin.cons (fun v7_3 => ?_)
        refine Fin.cons (fun v7_1 => ?_)
        refine Fin.nil ?_
        refine J.prE (fun h => ?_); subst h
        refine J.prE (fun h => ?_); subst h
        refine J.callD Ty.bd43 rfl rfl (fun w' hw => number_spec _ (64 - 8) (bs.drop 8) w' (by
          have h1 := (hr.st (.inr (by simp)) hw).slice (sz := 1) (i := 8) (j := 64) (by simp [hl]) (by omega) (by omega)
          rw [show ((bs.map u8).drop (8 * 1)).take ((64 - 8) * 1) = (bs.drop 8).map u8 from by rw [Nat.mul_one, Nat.mul_one, List.take_of_length_le (by simp; omega), List.map_drop]] at h1
          exact h1) (by simp [hl]) (by omega)) ?_
        refine J.nil (JX.fin rfl (fun w hw => ⟨rfl, hw⟩))
      · skip
        refine Fin.nil ?_
        refine J.move rfl rfl ?_
        refine J.nil (JX.fin rfl (fun w hw => ⟨rfl, (by rw [hw.1]; exact Below.refl _ _)⟩))
      · skip
        refine Fin.cons (fun v7_5 => ?_)
        refine Fin.nil ?_
        refine J.prE (fun h => ?_); subst h
        refine J.sliceS (i := 16) (j := 64) Ty.el28 Ty.s5 rfl rfl rfl (by simp [bnd]) rfl (by omega) (by omega) hc rfl ?_
        refine J.nil (JX.fin rfl (fun w hw => ⟨rfl, (by rw [hw.1]; exact Below.refl _ _)⟩))
      · skip
        refine Fin.cons (fun v7_6 => ?_)
        refine Fin.cons (fun v7_4 => ?_)
        refine Fin.nil ?_
        refine J.prE (fun h => ?_); subst h
        refine J.prE (fun h => ?_); subst h
        refine J.callD Ty.bd43 rfl rfl (fun w' hw => number_spec _ (64 - 16) (bs.drop 16) w' (by
          have h1 := (hr.st (.inr (by simp)) hw).slice (sz := 1) (i := 16) (j := 64) (by simp [hl]) (by omega) (by omega)
          rw [show ((bs.map u8).drop (16 * 1)).take ((64 - 16) * 1) = (bs.drop 16).map u8 from by rw [Nat.mul_one, Nat.mul_one, List.take_of_length_le (by simp; omega), List.map_drop]] at h1
          exact h1) (by simp [hl]) (by omega)) ?_
        refine J.nil (JX.fin rfl (fun w hw => ⟨rfl, hw⟩))
    case htail =>
      refine Fin.cons (fun v7_0 => ?_)
      refine Fin.cons (fun v7_1 => ?_)
      refine Fin.cons (fun v7_2 => ?_)
      refine Fin.cons (fun v7_3 => ?_)
      refine Fin.cons (fun v7_4 => ?_)
      refine Fin.cons (fun v7_5 => ?_)
      refine Fin.cons (fun v7_6 => ?_)
      refine Fin.cons (fun v7_7 => ?_)
      refine Fin.nil ?_
      refine J.prE (fun h => ?_); subst h
      refine J.prE (fun h => ?_); subst h
      refine J.prE (fun h => ?_); subst h
      refine J.prE (fun h => ?_); subst h
      refine J.prE (fun h => ?_); subst h
      refine J.prE (fun h => ?_); subst h
      refine J.prE (fun h => ?_); subst h
      refine J.prE (fun h => ?_); subst h
      refine J.assign rfl rfl ?_
      refine J.assign rfl rfl ?_
      refine J.assign rfl rfl ?_
      refine J.nil ?_
      refine JX.thenN (hK9 _ _ ?_)
      refine JC.ret ?_
      refine JX.ret3 rfl rfl rfl rfl (fun w hw => ?_)
      first
      | (rw [hbad]; exact ⟨rfl, hw.below⟩)
      | (rw [hok]; exact ⟨rfl, hw.below⟩)

end Go.Proofs.Ytlmbpfgiadbjaaa
