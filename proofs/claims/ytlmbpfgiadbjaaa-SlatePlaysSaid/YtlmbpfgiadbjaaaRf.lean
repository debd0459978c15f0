/-
  What the document's own disk (annuletref05) does: contracts. And the contracts of both disks' Write and Read in one piece each.
-/
import Derived.Test.YtlmbpfgiadbjaaaDk
namespace Go.Proofs.Ytlmbpfgiadbjaaa
open Go.J Go.RowKit
set_option linter.unusedVariables false
set_option linter.unusedSimpArgs false
set_option maxRecDepth 4000

abbrev rfO (v : Value) (p k : Int) : Obj := cb [v, .int .i64 p, .int .i64 k] 35
/-- what a write answers -/
def wE (n : Nat) (p i : Int) (m : Nat) : Int := if i < 0 ∨ (n : Int) ≤ i then 1 else if 64 < m then 4 else if p = 0 then 8 else 0
def wP (n : Nat) (p i : Int) (m : Nat) : Int := if wE n p i m = 0 then (if 0 < p then p - 1 else p) else p
def wK (n : Nat) (p i : Int) (m : Nat) (k : Int) : Int := if wE n p i m = 0 then k + 1 else k
def wB (n : Nat) (p i : Int) (B bs : List UInt8) : List UInt8 := if wE n p i bs.length = 0 then put B i.toNat bs else B
theorem wB_length {n : Nat} {p i : Int} {B bs : List UInt8} (hB : B.length = 64 * n) : (wB n p i B bs).length = 64 * n := by
  unfold wB
  split
  · rename_i h
    unfold wE at h
    split at h
    · simp at h
    · split at h
      · simp at h
      · exact put_length hB (by omega) (by omega)
  · exact hB
theorem write_all (d s n : Nat) (B bs : List UInt8) (p k i : Int) (a : Option Addr) (m c : Nat) (w : World) (hw0 : Own w [(d, dkO s n p k), (s, dkS B)]) (hB : B.length = 64 * n) (hk : 0 ≤ k) (hk2 : k < 4611686018427387904) (hbl : bs.length = m) (hbv : Row w (.slice a m c) m (bs.map u8)) (hoff : Off [d, s] (.slice a m c) (bs.map u8)) (hp : p < 9223372036854775808) :
    Calls Try.prog 17 [.pointer (some ⟨d, 0, none⟩), .int .i64 i, .slice a m c].toArray w fun r w' => r = .returned (.int .i64 (wE n p i m)) ∧ St w [d, s] [(d, dkO s n (wP n p i m) (wK n p i m k)), (s, dkS (wB n p i B bs))] w' := by
  by_cases h1 : i < 0
  · have e : wE n p i m = 1 := by simp [wE, h1]
    simp only [wP, wK, wB, hbl, e]
    exact (write_neg d s n p k w hw0 i _ h1).mono fun _ _ h => ⟨h.1, hw0.keep h.2⟩
  by_cases h2 : (n : Int) ≤ i
  · have e : wE n p i m = 1 := by simp [wE, h2]
    simp only [wP, wK, wB, hbl, e]
    exact (write_high d s n p k w hw0 i _ (by omega) h2).mono fun _ _ h => ⟨h.1, hw0.keep h.2⟩
  have hni : ¬ (i < 0 ∨ (n : Int) ≤ i) := by omega
  by_cases h3 : 64 < m
  · have e : wE n p i m = 4 := by simp only [wE, if_neg hni, if_pos h3]
    simp only [wP, wK, wB, hbl, e]
    exact (write_long d s n p k w hw0 i a m c (by omega) (by omega) h3).mono fun _ _ h => ⟨h.1, hw0.keep h.2⟩
  by_cases h4 : p = 0
  · subst h4
    have e : wE n 0 i m = 8 := by simp only [wE, if_neg hni, if_neg h3, if_true]
    simp only [wP, wK, wB, hbl, e]
    exact (write_down d s n k w hw0 i a m c (by omega) (by omega) (by omega)).mono fun _ _ h => ⟨h.1, hw0.keep h.2⟩
  have e : wE n p i m = 0 := by simp only [wE, if_neg hni, if_neg h3, if_neg h4]
  simp only [wP, wK, wB, hbl, e, if_true]
  by_cases h5 : 0 < p
  · rw [if_pos h5]
    exact write_power d s n B bs p k i a m c w hw0 hB (by omega) (by omega) hk hk2 (by omega) hbl hbv hoff h5 hp
  · rw [if_neg h5]
    exact write_endless d s n B bs p k i a m c w hw0 hB (by omega) (by omega) hk hk2 (by omega) hbl hbv hoff (by omega)
/-- the bytes of the document's write, j of them laid -/
def wst (B : List UInt8) (i : Nat) (bs : List UInt8) (j : Nat) : List UInt8 := B.take (64 * i) ++ (bs ++ List.replicate (64 - bs.length) 0).take j ++ B.drop (64 * i + j)
theorem wst_zero (B : List UInt8) (i : Nat) (bs : List UInt8) : wst B i bs 0 = B := by simp [wst]
theorem wst_all {B bs : List UInt8} {i : Nat} (h : bs.length ≤ 64) : wst B i bs 64 = put B i bs := by
  have e : (bs ++ List.replicate (64 - bs.length) (0 : UInt8)).take 64 = bs ++ List.replicate (64 - bs.length) 0 := List.take_of_length_le (by simp; omega)
  rw [wst, put, e]
theorem wst_get {B bs : List UInt8} {n i : Nat} (hB : B.length = 64 * n) (hi : i < n) (hb : bs.length ≤ 64) (j q : Nat) (hj : j ≤ 64) : (wst B i bs j)[q]? = if q < 64 * i then B[q]? else if q < 64 * i + j then (bs ++ List.replicate (64 - bs.length) 0)[q - 64 * i]? else B[q]? := by
  have l1 : (B.take (64 * i)).length = 64 * i := by simp; omega
  have l2 : ((bs ++ List.replicate (64 - bs.length) (0 : UInt8)).take j).length = j := by simp; omega
  unfold wst
  by_cases h1 : q < 64 * i
  · rw [if_pos h1, List.append_assoc, List.getElem?_append_left (by omega), List.getElem?_take_of_lt h1]
  · rw [if_neg h1]
    by_cases h2 : q < 64 * i + j
    · rw [if_pos h2, List.append_assoc, List.getElem?_append_right (by omega), List.getElem?_append_left (by omega), l1, List.getElem?_take_of_lt (by omega)]
    · rw [if_neg h2, List.getElem?_append_right (by simp only [List.length_append]; omega), List.length_append, l1, l2, List.getElem?_drop]
      congr 1; omega
theorem wst_length {B bs : List UInt8} {n i : Nat} (hB : B.length = 64 * n) (hi : i < n) (hb : bs.length ≤ 64) (j : Nat) (hj : j ≤ 64) : (wst B i bs j).length = 64 * n := by
  simp only [wst, List.length_append, List.length_take, List.length_drop, List.length_replicate]; omega
theorem wst_pad {B bs : List UInt8} {n i : Nat} (hB : B.length = 64 * n) (hi : i < n) (hb : bs.length ≤ 64) (j : Nat) (hj : j < 64) (hjm : bs.length ≤ j) : (wst B i bs j).set (64 * i + j) 0 = wst B i bs (j + 1) := by
  apply List.ext_getElem?
  intro q
  rw [List.getElem?_set, wst_get hB hi hb j q (by omega), wst_get hB hi hb (j + 1) q (by omega), wst_length hB hi hb j (by omega)]
  by_cases h : 64 * i + j = q
  · subst h
    rw [if_pos rfl, if_pos (by omega), if_neg (by omega), if_pos (by omega), List.getElem?_append_right (by omega)]
    rw [List.getElem?_replicate, if_pos (by omega)]
  · rw [if_neg h]
    by_cases h1 : q < 64 * i
    · rw [if_pos h1, if_pos h1]
    · rw [if_neg h1, if_neg h1]
      by_cases h2 : q < 64 * i + j
      · rw [if_pos h2, if_pos (by omega)]
      · rw [if_neg h2, if_neg (by omega)]
theorem wst_byte {B bs : List UInt8} {n i : Nat} (hB : B.length = 64 * n) (hi : i < n) (hb : bs.length ≤ 64) (j : Nat) (hj : j < 64) (hjm : j < bs.length) : ((wst B i bs j).set (64 * i + j) 0).set (64 * i + j) bs[j] = wst B i bs (j + 1) := by
  apply List.ext_getElem?
  intro q
  rw [List.set_set, List.getElem?_set, wst_get hB hi hb j q (by omega), wst_get hB hi hb (j + 1) q (by omega), wst_length hB hi hb j (by omega)]
  by_cases h : 64 * i + j = q
  · subst h
    rw [if_pos rfl, if_pos (by omega), if_neg (by omega), if_pos (by omega), List.getElem?_append_left (by omega)]
    rw [show 64 * i + j - 64 * i = j by omega, List.getElem?_eq_getElem hjm]
  · rw [if_neg h]
    by_cases h1 : q < 64 * i
    · rw [if_pos h1, if_pos h1]
    · rw [if_neg h1, if_neg h1]
      by_cases h2 : q < 64 * i + j
      · rw [if_pos h2, if_pos (by omega)]
      · rw [if_neg h2, if_neg (by omega)]
theorem set_u8 (l : List UInt8) (sp : List Value) (q : Nat) (x : UInt8) (h : q < l.length) : setMany (l.map u8 ++ sp) q [u8 x] = (l.set q x).map u8 ++ sp := by
  simp only [setMany]
  rw [List.set_append_left _ _ (by simpa using h), ← List.map_set]


theorem rwrite_neg (r n : Nat) (v : Value) (lp : List (Nat × Obj)) (B : List UInt8) (p k : Int) (w : World) (hw0 : Own w ((r, rfO v p k) :: lp)) (hv : Vec 5 1 v (64 * n) (B.map u8) lp) (hn : n ≤ 4096) (i : Int) (bv : Value) (hi : i < 0) :
    Calls Try.prog 18 [.pointer (some ⟨r, 0, none⟩), .int .i64 i, bv].toArray w fun ρ w' => ρ = .returned (.int .i64 1) ∧ Below w.heap.size w w' := by
  obtain ⟨a0, c0, rfl, hnc0⟩ := hv.form
  refine calls_of_J (args := [.pointer (some ⟨r, 0, none⟩), .int .i64 i, bv]) (e := [(0, .pointer (some ⟨r, 0, none⟩)), (1, .int .i64 i), (2, bv)]) Try.func18 rfl rfl ⟨rfl, rfl, rfl, trivial⟩ (hw0.st) ?_
  refine JC.seq (fun K0 hK0 => ?_)
  refine JC.region ?_
  refine J.assign rfl rfl ?_
  refine J.nil ?_
  refine JX.thenN (hK0 _ _ ?_)
  refine JC.seq (fun K1 hK1 => ?_)
  refine JC.seq (fun K2 hK2 => ?_)
  refine JC.region ?_
  refine J.move rfl rfl ?_
  refine J.bin rfl rfl rfl rfl ?_
  refine J.move rfl rfl ?_
  refine J.split 10 rfl (fun _ => ?_) (fun h => by first | (exfalso; simp at h; omega) | (simp at h))
  first
    | (refine J.skip rfl rfl rfl rfl rfl ?_)
    | (refine J.skipU rfl rfl rfl rfl ?_)
    | (refine J.unguard rfl rfl rfl ?_; refine J.move rfl rfl ?_)
  first
    | (refine J.skip rfl rfl rfl rfl rfl ?_)
    | (refine J.skipU rfl rfl rfl rfl ?_)
    | (refine J.unguard rfl rfl rfl ?_; refine J.move rfl rfl ?_)
  first
    | (refine J.skip rfl rfl rfl rfl rfl ?_)
    | (refine J.skipU rfl rfl rfl rfl ?_)
    | (refine J.unguard rfl rfl rfl ?_; refine J.nilCheck rfl rfl ?_)
  first
    | (refine J.skip rfl rfl rfl rfl rfl ?_)
    | (refine J.skipU rfl rfl rfl rfl ?_)
    | (refine J.unguard rfl rfl rfl ?_; refine J.fieldAddr Ty.fd35_0 rfl rfl ?_)
  first
    | (refine J.skip rfl rfl rfl rfl rfl ?_)
    | (refine J.skipU rfl rfl rfl rfl ?_)
    | (refine J.unguard rfl rfl rfl ?_; (first | refine J.loadO Ty.a28 rfl (.head _) rfl rfl ?_ | refine J.loadO Ty.a28 rfl (.tail _ (.head _)) rfl rfl ?_ | refine J.loadO Ty.a28 rfl (.tail _ (.tail _ (.head _))) rfl rfl ?_ | refine J.loadO Ty.a28 rfl (.tail _ (.tail _ (.tail _ (.head _)))) rfl rfl ?_ | refine J.loadO Ty.a28 rfl (.tail _ (.tail _ (.tail _ (.tail _ (.head _))))) rfl rfl ?_ | refine J.loadO Ty.a28 rfl (List.mem_append_right _ (.head _)) rfl rfl ?_ | refine J.loadO Ty.a28 rfl (List.mem_append_right _ (.tail _ (.head _))) rfl rfl ?_ | refine J.loadO Ty.a28 rfl (List.mem_append_right _ (.tail _ (.tail _ (.head _)))) rfl rfl ?_ | refine J.loadO Ty.a28 rfl (List.mem_append_right _ (.tail _ (.tail _ (.tail _ (.head _))))) rfl rfl ?_ | refine J.loadO Ty.a28 rfl (List.mem_append_right _ (.tail _ (.tail _ (.tail _ (.tail _ (.head _)))))) rfl rfl ?_))
  first
    | (refine J.skip rfl rfl rfl rfl rfl ?_)
    | (refine J.skipU rfl rfl rfl rfl ?_)
    | (refine J.unguard rfl rfl rfl ?_; refine J.lenS rfl Ty.u28 rfl rfl ?_)
  first
    | (refine J.skip rfl rfl rfl rfl rfl ?_)
    | (refine J.skipU rfl rfl rfl rfl ?_)
    | (refine J.unguard rfl rfl rfl ?_; (first | refine J.quoN rfl rfl (by omega) (by omega) (by omega) rfl ?_ | refine J.bin rfl rfl rfl rfl ?_))
  first
    | (refine J.skip rfl rfl rfl rfl rfl ?_)
    | (refine J.skipU rfl rfl rfl rfl ?_)
    | (refine J.unguard rfl rfl rfl ?_; refine J.bin rfl rfl rfl rfl ?_)
  (first | refine J.pickT rfl rfl rfl ?_ | refine J.pickF rfl rfl rfl ?_)
  refine J.nil ?_
  refine JX.thenN (hK2 _ _ ?_)
  first | refine JC.condT rfl ?_ | refine JC.cond rfl (fun _ => ?_) (fun h => by first | (exfalso; simp at h; omega) | (simp at h))
  refine JC.seq (fun K3 hK3 => ?_)
  refine JC.region ?_
  refine J.assign rfl rfl ?_
  refine J.nil ?_
  refine JX.thenN (hK3 _ _ ?_)
  refine JC.ret ?_
  refine JX.thenR ?_
  refine JX.ret1 rfl rfl (fun w hw => ?_)
  exact ⟨rfl, hw.same hw0 (fun p hp => hp)⟩

theorem rwrite_high (r n : Nat) (v : Value) (lp : List (Nat × Obj)) (B : List UInt8) (p k : Int) (w : World) (hw0 : Own w ((r, rfO v p k) :: lp)) (hv : Vec 5 1 v (64 * n) (B.map u8) lp) (hn : n ≤ 4096) (i : Int) (bv : Value) (hi : 0 ≤ i) (hi2 : (n : Int) ≤ i) :
    Calls Try.prog 18 [.pointer (some ⟨r, 0, none⟩), .int .i64 i, bv].toArray w fun ρ w' => ρ = .returned (.int .i64 1) ∧ Below w.heap.size w w' := by
  obtain ⟨a0, c0, rfl, hnc0⟩ := hv.form
  refine calls_of_J (args := [.pointer (some ⟨r, 0, none⟩), .int .i64 i, bv]) (e := [(0, .pointer (some ⟨r, 0, none⟩)), (1, .int .i64 i), (2, bv)]) Try.func18 rfl rfl ⟨rfl, rfl, rfl, trivial⟩ (hw0.st) ?_
  refine JC.seq (fun K0 hK0 => ?_)
  refine JC.region ?_
  refine J.assign rfl rfl ?_
  refine J.nil ?_
  refine JX.thenN (hK0 _ _ ?_)
  refine JC.seq (fun K1 hK1 => ?_)
  refine JC.seq (fun K2 hK2 => ?_)
  refine JC.region ?_
  refine J.move rfl rfl ?_
  refine J.bin rfl rfl rfl rfl ?_
  refine J.move rfl rfl ?_
  refine J.split 10 rfl (fun h => by first | (exfalso; simp at h; omega) | (simp at h)) (fun _ => ?_)
  first
    | (refine J.skip rfl rfl rfl rfl rfl ?_)
    | (refine J.skipU rfl rfl rfl rfl ?_)
    | (refine J.unguard rfl rfl rfl ?_; refine J.move rfl rfl ?_)
  first
    | (refine J.skip rfl rfl rfl rfl rfl ?_)
    | (refine J.skipU rfl rfl rfl rfl ?_)
    | (refine J.unguard rfl rfl rfl ?_; refine J.move rfl rfl ?_)
  first
    | (refine J.skip rfl rfl rfl rfl rfl ?_)
    | (refine J.skipU rfl rfl rfl rfl ?_)
    | (refine J.unguard rfl rfl rfl ?_; refine J.nilCheck rfl rfl ?_)
  first
    | (refine J.skip rfl rfl rfl rfl rfl ?_)
    | (refine J.skipU rfl rfl rfl rfl ?_)
    | (refine J.unguard rfl rfl rfl ?_; refine J.fieldAddr Ty.fd35_0 rfl rfl ?_)
  first
    | (refine J.skip rfl rfl rfl rfl rfl ?_)
    | (refine J.skipU rfl rfl rfl rfl ?_)
    | (refine J.unguard rfl rfl rfl ?_; (first | refine J.loadO Ty.a28 rfl (.head _) rfl rfl ?_ | refine J.loadO Ty.a28 rfl (.tail _ (.head _)) rfl rfl ?_ | refine J.loadO Ty.a28 rfl (.tail _ (.tail _ (.head _))) rfl rfl ?_ | refine J.loadO Ty.a28 rfl (.tail _ (.tail _ (.tail _ (.head _)))) rfl rfl ?_ | refine J.loadO Ty.a28 rfl (.tail _ (.tail _ (.tail _ (.tail _ (.head _))))) rfl rfl ?_ | refine J.loadO Ty.a28 rfl (List.mem_append_right _ (.head _)) rfl rfl ?_ | refine J.loadO Ty.a28 rfl (List.mem_append_right _ (.tail _ (.head _))) rfl rfl ?_ | refine J.loadO Ty.a28 rfl (List.mem_append_right _ (.tail _ (.tail _ (.head _)))) rfl rfl ?_ | refine J.loadO Ty.a28 rfl (List.mem_append_right _ (.tail _ (.tail _ (.tail _ (.head _))))) rfl rfl ?_ | refine J.loadO Ty.a28 rfl (List.mem_append_right _ (.tail _ (.tail _ (.tail _ (.tail _ (.head _)))))) rfl rfl ?_))
  first
    | (refine J.skip rfl rfl rfl rfl rfl ?_)
    | (refine J.skipU rfl rfl rfl rfl ?_)
    | (refine J.unguard rfl rfl rfl ?_; refine J.lenS rfl Ty.u28 rfl rfl ?_)
  refine J.unguard rfl rfl rfl ?_
  refine J.quoN rfl rfl (by omega) (by omega) (by omega) rfl ?_
  refine J.name 17 rfl (congrArg (Value.int .i64) (show ((64 * n : Nat) : Int) / 64 = (n : Int) by omega)) ?_
  first
    | (refine J.skip rfl rfl rfl rfl rfl ?_)
    | (refine J.skipU rfl rfl rfl rfl ?_)
    | (refine J.unguard rfl rfl rfl ?_; refine J.bin rfl rfl rfl rfl ?_)
  (first | refine J.pickT rfl rfl rfl ?_ | refine J.pickF rfl rfl rfl ?_)
  refine J.nil ?_
  refine JX.thenN (hK2 _ _ ?_)
  first | refine JC.condT rfl ?_ | refine JC.cond rfl (fun _ => ?_) (fun h => by first | (exfalso; simp at h; omega) | (simp at h))
  refine JC.seq (fun K3 hK3 => ?_)
  refine JC.region ?_
  refine J.assign rfl rfl ?_
  refine J.nil ?_
  refine JX.thenN (hK3 _ _ ?_)
  refine JC.ret ?_
  refine JX.thenR ?_
  refine JX.ret1 rfl rfl (fun w hw => ?_)
  exact ⟨rfl, hw.same hw0 (fun p hp => hp)⟩

theorem rwrite_long (r n : Nat) (v : Value) (lp : List (Nat × Obj)) (B : List UInt8) (p k : Int) (w : World) (hw0 : Own w ((r, rfO v p k) :: lp)) (hv : Vec 5 1 v (64 * n) (B.map u8) lp) (hn : n ≤ 4096) (i : Int) (a : Option Addr) (m c : Nat) (hi : 0 ≤ i) (hi2 : i < (n : Int)) (hm : 64 < m) :
    Calls Try.prog 18 [.pointer (some ⟨r, 0, none⟩), .int .i64 i, .slice a m c].toArray w fun ρ w' => ρ = .returned (.int .i64 4) ∧ Below w.heap.size w w' := by
  obtain ⟨a0, c0, rfl, hnc0⟩ := hv.form
  refine calls_of_J (args := [.pointer (some ⟨r, 0, none⟩), .int .i64 i, .slice a m c]) (e := [(0, .pointer (some ⟨r, 0, none⟩)), (1, .int .i64 i), (2, .slice a m c)]) Try.func18 rfl rfl ⟨rfl, rfl, rfl, trivial⟩ (hw0.st) ?_
  refine JC.seq (fun K0 hK0 => ?_)
  refine JC.region ?_
  refine J.assign rfl rfl ?_
  refine J.nil ?_
  refine JX.thenN (hK0 _ _ ?_)
  refine JC.seq (fun K1 hK1 => ?_)
  refine JC.seq (fun K2 hK2 => ?_)
  refine JC.region ?_
  refine J.move rfl rfl ?_
  refine J.bin rfl rfl rfl rfl ?_
  refine J.move rfl rfl ?_
  refine J.split 10 rfl (fun h => by first | (exfalso; simp at h; omega) | (simp at h)) (fun _ => ?_)
  first
    | (refine J.skip rfl rfl rfl rfl rfl ?_)
    | (refine J.skipU rfl rfl rfl rfl ?_)
    | (refine J.unguard rfl rfl rfl ?_; refine J.move rfl rfl ?_)
  first
    | (refine J.skip rfl rfl rfl rfl rfl ?_)
    | (refine J.skipU rfl rfl rfl rfl ?_)
    | (refine J.unguard rfl rfl rfl ?_; refine J.move rfl rfl ?_)
  first
    | (refine J.skip rfl rfl rfl rfl rfl ?_)
    | (refine J.skipU rfl rfl rfl rfl ?_)
    | (refine J.unguard rfl rfl rfl ?_; refine J.nilCheck rfl rfl ?_)
  first
    | (refine J.skip rfl rfl rfl rfl rfl ?_)
    | (refine J.skipU rfl rfl rfl rfl ?_)
    | (refine J.unguard rfl rfl rfl ?_; refine J.fieldAddr Ty.fd35_0 rfl rfl ?_)
  first
    | (refine J.skip rfl rfl rfl rfl rfl ?_)
    | (refine J.skipU rfl rfl rfl rfl ?_)
    | (refine J.unguard rfl rfl rfl ?_; (first | refine J.loadO Ty.a28 rfl (.head _) rfl rfl ?_ | refine J.loadO Ty.a28 rfl (.tail _ (.head _)) rfl rfl ?_ | refine J.loadO Ty.a28 rfl (.tail _ (.tail _ (.head _))) rfl rfl ?_ | refine J.loadO Ty.a28 rfl (.tail _ (.tail _ (.tail _ (.head _)))) rfl rfl ?_ | refine J.loadO Ty.a28 rfl (.tail _ (.tail _ (.tail _ (.tail _ (.head _))))) rfl rfl ?_ | refine J.loadO Ty.a28 rfl (List.mem_append_right _ (.head _)) rfl rfl ?_ | refine J.loadO Ty.a28 rfl (List.mem_append_right _ (.tail _ (.head _))) rfl rfl ?_ | refine J.loadO Ty.a28 rfl (List.mem_append_right _ (.tail _ (.tail _ (.head _)))) rfl rfl ?_ | refine J.loadO Ty.a28 rfl (List.mem_append_right _ (.tail _ (.tail _ (.tail _ (.head _))))) rfl rfl ?_ | refine J.loadO Ty.a28 rfl (List.mem_append_right _ (.tail _ (.tail _ (.tail _ (.tail _ (.head _)))))) rfl rfl ?_))
  first
    | (refine J.skip rfl rfl rfl rfl rfl ?_)
    | (refine J.skipU rfl rfl rfl rfl ?_)
    | (refine J.unguard rfl rfl rfl ?_; refine J.lenS rfl Ty.u28 rfl rfl ?_)
  refine J.unguard rfl rfl rfl ?_
  refine J.quoN rfl rfl (by omega) (by omega) (by omega) rfl ?_
  refine J.name 17 rfl (congrArg (Value.int .i64) (show ((64 * n : Nat) : Int) / 64 = (n : Int) by omega)) ?_
  first
    | (refine J.skip rfl rfl rfl rfl rfl ?_)
    | (refine J.skipU rfl rfl rfl rfl ?_)
    | (refine J.unguard rfl rfl rfl ?_; refine J.bin rfl rfl rfl rfl ?_)
  (first | refine J.pickT rfl rfl rfl ?_ | refine J.pickF rfl rfl rfl ?_)
  refine J.nil ?_
  refine JX.thenN (hK2 _ _ ?_)
  first | refine JC.condF rfl ?_ | refine JC.cond rfl (fun h => by first | (exfalso; simp at h; omega) | (simp at h)) (fun _ => ?_)
  refine JC.skip ?_
  refine JX.thenN (hK1 _ _ ?_)
  refine JC.seq (fun K3 hK3 => ?_)
  refine JC.seq (fun K4 hK4 => ?_)
  refine JC.region ?_
  refine J.move rfl rfl ?_
  refine J.lenS rfl Ty.u28 rfl rfl ?_
  refine J.bin rfl rfl rfl rfl ?_
  refine J.nil ?_
  refine JX.thenN (hK4 _ _ ?_)
  first | refine JC.condT rfl ?_ | refine JC.cond rfl (fun _ => ?_) (fun h => by first | (exfalso; simp at h; omega) | (simp at h))
  refine JC.seq (fun K5 hK5 => ?_)
  refine JC.region ?_
  refine J.assign rfl rfl ?_
  refine J.nil ?_
  refine JX.thenN (hK5 _ _ ?_)
  refine JC.ret ?_
  refine JX.thenR ?_
  refine JX.ret1 rfl rfl (fun w hw => ?_)
  exact ⟨rfl, hw.same hw0 (fun p hp => hp)⟩

theorem rwrite_down (r n : Nat) (v : Value) (lp : List (Nat × Obj)) (B : List UInt8) (k : Int) (w : World) (hw0 : Own w ((r, rfO v 0 k) :: lp)) (hv : Vec 5 1 v (64 * n) (B.map u8) lp) (hn : n ≤ 4096) (i : Int) (a : Option Addr) (m c : Nat) (hi : 0 ≤ i) (hi2 : i < (n : Int)) (hm : m ≤ 64) :
    Calls Try.prog 18 [.pointer (some ⟨r, 0, none⟩), .int .i64 i, .slice a m c].toArray w fun ρ w' => ρ = .returned (.int .i64 8) ∧ Below w.heap.size w w' := by
  obtain ⟨a0, c0, rfl, hnc0⟩ := hv.form
  refine calls_of_J (args := [.pointer (some ⟨r, 0, none⟩), .int .i64 i, .slice a m c]) (e := [(0, .pointer (some ⟨r, 0, none⟩)), (1, .int .i64 i), (2, .slice a m c)]) Try.func18 rfl rfl ⟨rfl, rfl, rfl, trivial⟩ (hw0.st) ?_
  refine JC.seq (fun K0 hK0 => ?_)
  refine JC.region ?_
  refine J.assign rfl rfl ?_
  refine J.nil ?_
  refine JX.thenN (hK0 _ _ ?_)
  refine JC.seq (fun K1 hK1 => ?_)
  refine JC.seq (fun K2 hK2 => ?_)
  refine JC.region ?_
  refine J.move rfl rfl ?_
  refine J.bin rfl rfl rfl rfl ?_
  refine J.move rfl rfl ?_
  refine J.split 10 rfl (fun h => by first | (exfalso; simp at h; omega) | (simp at h)) (fun _ => ?_)
  first
    | (refine J.skip rfl rfl rfl rfl rfl ?_)
    | (refine J.skipU rfl rfl rfl rfl ?_)
    | (refine J.unguard rfl rfl rfl ?_; refine J.move rfl rfl ?_)
  first
    | (refine J.skip rfl rfl rfl rfl rfl ?_)
    | (refine J.skipU rfl rfl rfl rfl ?_)
    | (refine J.unguard rfl rfl rfl ?_; refine J.move rfl rfl ?_)
  first
    | (refine J.skip rfl rfl rfl rfl rfl ?_)
    | (refine J.skipU rfl rfl rfl rfl ?_)
    | (refine J.unguard rfl rfl rfl ?_; refine J.nilCheck rfl rfl ?_)
  first
    | (refine J.skip rfl rfl rfl rfl rfl ?_)
    | (refine J.skipU rfl rfl rfl rfl ?_)
    | (refine J.unguard rfl rfl rfl ?_; refine J.fieldAddr Ty.fd35_0 rfl rfl ?_)
  first
    | (refine J.skip rfl rfl rfl rfl rfl ?_)
    | (refine J.skipU rfl rfl rfl rfl ?_)
    | (refine J.unguard rfl rfl rfl ?_; (first | refine J.loadO Ty.a28 rfl (.head _) rfl rfl ?_ | refine J.loadO Ty.a28 rfl (.tail _ (.head _)) rfl rfl ?_ | refine J.loadO Ty.a28 rfl (.tail _ (.tail _ (.head _))) rfl rfl ?_ | refine J.loadO Ty.a28 rfl (.tail _ (.tail _ (.tail _ (.head _)))) rfl rfl ?_ | refine J.loadO Ty.a28 rfl (.tail _ (.tail _ (.tail _ (.tail _ (.head _))))) rfl rfl ?_ | refine J.loadO Ty.a28 rfl (List.mem_append_right _ (.head _)) rfl rfl ?_ | refine J.loadO Ty.a28 rfl (List.mem_append_right _ (.tail _ (.head _))) rfl rfl ?_ | refine J.loadO Ty.a28 rfl (List.mem_append_right _ (.tail _ (.tail _ (.head _)))) rfl rfl ?_ | refine J.loadO Ty.a28 rfl (List.mem_append_right _ (.tail _ (.tail _ (.tail _ (.head _))))) rfl rfl ?_ | refine J.loadO Ty.a28 rfl (List.mem_append_right _ (.tail _ (.tail _ (.tail _ (.tail _ (.head _)))))) rfl rfl ?_))
  first
    | (refine J.skip rfl rfl rfl rfl rfl ?_)
    | (refine J.skipU rfl rfl rfl rfl ?_)
    | (refine J.unguard rfl rfl rfl ?_; refine J.lenS rfl Ty.u28 rfl rfl ?_)
  refine J.unguard rfl rfl rfl ?_
  refine J.quoN rfl rfl (by omega) (by omega) (by omega) rfl ?_
  refine J.name 17 rfl (congrArg (Value.int .i64) (show ((64 * n : Nat) : Int) / 64 = (n : Int) by omega)) ?_
  first
    | (refine J.skip rfl rfl rfl rfl rfl ?_)
    | (refine J.skipU rfl rfl rfl rfl ?_)
    | (refine J.unguard rfl rfl rfl ?_; refine J.bin rfl rfl rfl rfl ?_)
  (first | refine J.pickT rfl rfl rfl ?_ | refine J.pickF rfl rfl rfl ?_)
  refine J.nil ?_
  refine JX.thenN (hK2 _ _ ?_)
  first | refine JC.condF rfl ?_ | refine JC.cond rfl (fun h => by first | (exfalso; simp at h; omega) | (simp at h)) (fun _ => ?_)
  refine JC.skip ?_
  refine JX.thenN (hK1 _ _ ?_)
  refine JC.seq (fun K3 hK3 => ?_)
  refine JC.seq (fun K4 hK4 => ?_)
  refine JC.region ?_
  refine J.move rfl rfl ?_
  refine J.lenS rfl Ty.u28 rfl rfl ?_
  refine J.bin rfl rfl rfl rfl ?_
  refine J.nil ?_
  refine JX.thenN (hK4 _ _ ?_)
  first | refine JC.condF rfl ?_ | refine JC.cond rfl (fun h => by first | (exfalso; simp at h; omega) | (simp at h)) (fun _ => ?_)
  refine JC.skip ?_
  refine JX.thenN (hK3 _ _ ?_)
  refine JC.seq (fun K5 hK5 => ?_)
  refine JC.seq (fun K6 hK6 => ?_)
  refine JC.region ?_
  refine J.move rfl rfl ?_
  refine J.nilCheck rfl rfl ?_
  refine J.fieldAddr Ty.fd35_1 rfl rfl ?_
  (first | refine J.loadO Ty.a3 rfl (.head _) rfl rfl ?_ | refine J.loadO Ty.a3 rfl (.tail _ (.head _)) rfl rfl ?_ | refine J.loadO Ty.a3 rfl (.tail _ (.tail _ (.head _))) rfl rfl ?_ | refine J.loadO Ty.a3 rfl (.tail _ (.tail _ (.tail _ (.head _)))) rfl rfl ?_ | refine J.loadO Ty.a3 rfl (.tail _ (.tail _ (.tail _ (.tail _ (.head _))))) rfl rfl ?_ | refine J.loadO Ty.a3 rfl (List.mem_append_right _ (.head _)) rfl rfl ?_ | refine J.loadO Ty.a3 rfl (List.mem_append_right _ (.tail _ (.head _))) rfl rfl ?_ | refine J.loadO Ty.a3 rfl (List.mem_append_right _ (.tail _ (.tail _ (.head _)))) rfl rfl ?_ | refine J.loadO Ty.a3 rfl (List.mem_append_right _ (.tail _ (.tail _ (.tail _ (.head _))))) rfl rfl ?_ | refine J.loadO Ty.a3 rfl (List.mem_append_right _ (.tail _ (.tail _ (.tail _ (.tail _ (.head _)))))) rfl rfl ?_)
  refine J.bin rfl rfl rfl rfl ?_
  refine J.nil ?_
  refine JX.thenN (hK6 _ _ ?_)
  first | refine JC.condT rfl ?_ | refine JC.cond rfl (fun _ => ?_) (fun h => by first | (exfalso; simp at h; omega) | (simp at h))
  refine JC.seq (fun K7 hK7 => ?_)
  refine JC.region ?_
  refine J.assign rfl rfl ?_
  refine J.nil ?_
  refine JX.thenN (hK7 _ _ ?_)
  refine JC.ret ?_
  refine JX.thenR ?_
  refine JX.ret1 rfl rfl (fun w hw => ?_)
  exact ⟨rfl, hw.same hw0 (fun p hp => hp)⟩

theorem rwrite_endless (r n : Nat) (v : Value) (lp : List (Nat × Obj)) (B : List UInt8) (p k : Int) (w : World) (hw0 : Own w ((r, rfO v p k) :: lp)) (hv : Vec 5 1 v (64 * n) (B.map u8) lp) (hn : n ≤ 4096) (bs : List UInt8) (i : Int) (a : Option Addr) (m c : Nat) (hB : B.length = 64 * n) (hi : 0 ≤ i) (hi2 : i < (n : Int)) (hk : 0 ≤ k) (hk2 : k < 4611686018427387904) (hm : m ≤ 64) (hbl : bs.length = m) (hbv : Row w (.slice a m c) m (bs.map u8)) (hoff : Off (r :: lp.map (·.1)) (.slice a m c) (bs.map u8)) (hp : p < 0) :
    Calls Try.prog 18 [.pointer (some ⟨r, 0, none⟩), .int .i64 i, .slice a m c].toArray w fun ρ w' => ρ = .returned (.int .i64 0) ∧ ∃ lp', Vec 5 1 v (64 * n) ((put B i.toNat bs).map u8) lp' ∧ St w (r :: lp.map (·.1)) ((r, rfO v p (k + 1)) :: lp') w' := by
  have hbl64 : bs.length ≤ 64 := by omega
  have hi2n : i.toNat < n := by omega
  obtain ⟨hvl, hv⟩ := hv
  rcases hv with ⟨_, h0, _⟩ | ⟨q, c0, sp, rfl, rfl, hcap, hnc⟩
  · omega
  have hz : u8 0 = Value.int .u8 0 := rfl
  refine calls_of_J (args := [.pointer (some ⟨r, 0, none⟩), .int .i64 i, .slice a m c]) (e := [(0, .pointer (some ⟨r, 0, none⟩)), (1, .int .i64 i), (2, .slice a m c)]) Try.func18 rfl rfl ⟨rfl, rfl, rfl, trivial⟩ (hw0.st) ?_
  refine JC.seq (fun K0 hK0 => ?_)
  refine JC.region ?_
  refine J.assign rfl rfl ?_
  refine J.nil ?_
  refine JX.thenN (hK0 _ _ ?_)
  refine JC.seq (fun K1 hK1 => ?_)
  refine JC.seq (fun K2 hK2 => ?_)
  refine JC.region ?_
  refine J.move rfl rfl ?_
  refine J.bin rfl rfl rfl rfl ?_
  refine J.move rfl rfl ?_
  refine J.split 10 rfl (fun h => by first | (exfalso; simp at h; omega) | (simp at h)) (fun _ => ?_)
  first
    | (refine J.skip rfl rfl rfl rfl rfl ?_)
    | (refine J.skipU rfl rfl rfl rfl ?_)
    | (refine J.unguard rfl rfl rfl ?_; refine J.move rfl rfl ?_)
  first
    | (refine J.skip rfl rfl rfl rfl rfl ?_)
    | (refine J.skipU rfl rfl rfl rfl ?_)
    | (refine J.unguard rfl rfl rfl ?_; refine J.move rfl rfl ?_)
  first
    | (refine J.skip rfl rfl rfl rfl rfl ?_)
    | (refine J.skipU rfl rfl rfl rfl ?_)
    | (refine J.unguard rfl rfl rfl ?_; refine J.nilCheck rfl rfl ?_)
  first
    | (refine J.skip rfl rfl rfl rfl rfl ?_)
    | (refine J.skipU rfl rfl rfl rfl ?_)
    | (refine J.unguard rfl rfl rfl ?_; refine J.fieldAddr Ty.fd35_0 rfl rfl ?_)
  first
    | (refine J.skip rfl rfl rfl rfl rfl ?_)
    | (refine J.skipU rfl rfl rfl rfl ?_)
    | (refine J.unguard rfl rfl rfl ?_; (first | refine J.loadO Ty.a28 rfl (.head _) rfl rfl ?_ | refine J.loadO Ty.a28 rfl (.tail _ (.head _)) rfl rfl ?_ | refine J.loadO Ty.a28 rfl (.tail _ (.tail _ (.head _))) rfl rfl ?_ | refine J.loadO Ty.a28 rfl (.tail _ (.tail _ (.tail _ (.head _)))) rfl rfl ?_ | refine J.loadO Ty.a28 rfl (.tail _ (.tail _ (.tail _ (.tail _ (.head _))))) rfl rfl ?_ | refine J.loadO Ty.a28 rfl (List.mem_append_right _ (.head _)) rfl rfl ?_ | refine J.loadO Ty.a28 rfl (List.mem_append_right _ (.tail _ (.head _))) rfl rfl ?_ | refine J.loadO Ty.a28 rfl (List.mem_append_right _ (.tail _ (.tail _ (.head _)))) rfl rfl ?_ | refine J.loadO Ty.a28 rfl (List.mem_append_right _ (.tail _ (.tail _ (.tail _ (.head _))))) rfl rfl ?_ | refine J.loadO Ty.a28 rfl (List.mem_append_right _ (.tail _ (.tail _ (.tail _ (.tail _ (.head _)))))) rfl rfl ?_))
  first
    | (refine J.skip rfl rfl rfl rfl rfl ?_)
    | (refine J.skipU rfl rfl rfl rfl ?_)
    | (refine J.unguard rfl rfl rfl ?_; refine J.lenS rfl Ty.u28 rfl rfl ?_)
  refine J.unguard rfl rfl rfl ?_
  refine J.quoN rfl rfl (by omega) (by omega) (by omega) rfl ?_
  refine J.name 17 rfl (congrArg (Value.int .i64) (show ((64 * n : Nat) : Int) / 64 = (n : Int) by omega)) ?_
  first
    | (refine J.skip rfl rfl rfl rfl rfl ?_)
    | (refine J.skipU rfl rfl rfl rfl ?_)
    | (refine J.unguard rfl rfl rfl ?_; refine J.bin rfl rfl rfl rfl ?_)
  (first | refine J.pickT rfl rfl rfl ?_ | refine J.pickF rfl rfl rfl ?_)
  refine J.nil ?_
  refine JX.thenN (hK2 _ _ ?_)
  first | refine JC.condF rfl ?_ | refine JC.cond rfl (fun h => by first | (exfalso; simp at h; omega) | (simp at h)) (fun _ => ?_)
  refine JC.skip ?_
  refine JX.thenN (hK1 _ _ ?_)
  refine JC.seq (fun K3 hK3 => ?_)
  refine JC.seq (fun K4 hK4 => ?_)
  refine JC.region ?_
  refine J.move rfl rfl ?_
  refine J.lenS rfl Ty.u28 rfl rfl ?_
  refine J.bin rfl rfl rfl rfl ?_
  refine J.nil ?_
  refine JX.thenN (hK4 _ _ ?_)
  first | refine JC.condF rfl ?_ | refine JC.cond rfl (fun h => by first | (exfalso; simp at h; omega) | (simp at h)) (fun _ => ?_)
  refine JC.skip ?_
  refine JX.thenN (hK3 _ _ ?_)
  refine JC.seq (fun K5 hK5 => ?_)
  refine JC.seq (fun K6 hK6 => ?_)
  refine JC.region ?_
  refine J.move rfl rfl ?_
  refine J.nilCheck rfl rfl ?_
  refine J.fieldAddr Ty.fd35_1 rfl rfl ?_
  (first | refine J.loadO Ty.a3 rfl (.head _) rfl rfl ?_ | refine J.loadO Ty.a3 rfl (.tail _ (.head _)) rfl rfl ?_ | refine J.loadO Ty.a3 rfl (.tail _ (.tail _ (.head _))) rfl rfl ?_ | refine J.loadO Ty.a3 rfl (.tail _ (.tail _ (.tail _ (.head _)))) rfl rfl ?_ | refine J.loadO Ty.a3 rfl (.tail _ (.tail _ (.tail _ (.tail _ (.head _))))) rfl rfl ?_ | refine J.loadO Ty.a3 rfl (List.mem_append_right _ (.head _)) rfl rfl ?_ | refine J.loadO Ty.a3 rfl (List.mem_append_right _ (.tail _ (.head _))) rfl rfl ?_ | refine J.loadO Ty.a3 rfl (List.mem_append_right _ (.tail _ (.tail _ (.head _)))) rfl rfl ?_ | refine J.loadO Ty.a3 rfl (List.mem_append_right _ (.tail _ (.tail _ (.tail _ (.head _))))) rfl rfl ?_ | refine J.loadO Ty.a3 rfl (List.mem_append_right _ (.tail _ (.tail _ (.tail _ (.tail _ (.head _)))))) rfl rfl ?_)
  refine J.bin rfl rfl rfl rfl ?_
  refine J.nil ?_
  refine JX.thenN (hK6 _ _ ?_)
  first | refine JC.condF rfl ?_ | refine JC.cond rfl (fun h => by first | (exfalso; simp at h; omega) | (simp at h)) (fun _ => ?_)
  refine JC.skip ?_
  refine JX.thenN (hK5 _ _ ?_)
  refine JC.seq (fun K7 hK7 => ?_)
  refine JC.seq (fun K8 hK8 => ?_)
  refine JC.region ?_
  refine J.assign rfl rfl ?_
  refine J.nil ?_
  refine JX.thenN (hK8 _ _ ?_)
  refine JC.block ?_
  refine JC.conseq (JC.cov (f := (fun x => [(0, .pointer (some ⟨r, 0, none⟩)), (1, .int .i64 i), (2, .slice a m c), (7, .int .i64 x)]) (0 : Nat)) ⟨rfl, rfl, rfl, rfl, trivial⟩ (JC.loop (α := Nat) (fun x => [(0, .pointer (some ⟨r, 0, none⟩)), (1, .int .i64 i), (2, .slice a m c), (7, .int .i64 x)]) (fun x w' => x ≤ 64 ∧ St w [r, q] [(r, rfO (.slice (some ⟨q, 0, none⟩) (64 * n) c0) p k), (q, cb ((wst B i.toNat bs x).map u8 ++ sp) 5)] w') (fun x => 64 - x) (0 : Nat) (fun j => ?_))) (fun w hw => ⟨Nat.zero_le _, by rw [wst_zero]; exact hw⟩)
  refine JC.pr (fun hj64 => ?_)
  refine JC.seq (fun K9 hK9 => ?_)
  refine JC.seq (fun K10 hK10 => ?_)
  refine JC.region ?_
  refine J.move rfl rfl ?_
  refine J.bin rfl rfl rfl rfl ?_
  refine J.nil ?_
  refine JX.thenN (hK10 _ _ ?_)
  refine JC.cond rfl (fun h3 => ?_) (fun h3 => ?_)
  · skip
    have hlt : j < 64 := by simp at h3; omega
    refine JC.skip ?_
    refine JX.thenN (hK9 _ _ ?_)
    refine JC.seq (fun K11 hK11 => ?_)
    refine JC.block ?_
    refine JC.seq (fun K12 hK12 => ?_)
    refine JC.region ?_
    refine J.move rfl rfl ?_
    refine J.nilCheck rfl rfl ?_
    refine J.fieldAddr Ty.fd35_0 rfl rfl ?_
    (first | refine J.loadO Ty.a28 rfl (.head _) rfl rfl ?_ | refine J.loadO Ty.a28 rfl (.tail _ (.head _)) rfl rfl ?_ | refine J.loadO Ty.a28 rfl (.tail _ (.tail _ (.head _))) rfl rfl ?_ | refine J.loadO Ty.a28 rfl (.tail _ (.tail _ (.tail _ (.head _)))) rfl rfl ?_ | refine J.loadO Ty.a28 rfl (.tail _ (.tail _ (.tail _ (.tail _ (.head _))))) rfl rfl ?_ | refine J.loadO Ty.a28 rfl (List.mem_append_right _ (.head _)) rfl rfl ?_ | refine J.loadO Ty.a28 rfl (List.mem_append_right _ (.tail _ (.head _))) rfl rfl ?_ | refine J.loadO Ty.a28 rfl (List.mem_append_right _ (.tail _ (.tail _ (.head _)))) rfl rfl ?_ | refine J.loadO Ty.a28 rfl (List.mem_append_right _ (.tail _ (.tail _ (.tail _ (.head _))))) rfl rfl ?_ | refine J.loadO Ty.a28 rfl (List.mem_append_right _ (.tail _ (.tail _ (.tail _ (.tail _ (.head _)))))) rfl rfl ?_)
    refine J.move rfl rfl ?_
    (first | refine J.mulN rfl rfl (by omega) (by omega) rfl ?_ | refine J.bin rfl rfl rfl rfl ?_)
    refine J.move rfl rfl ?_
    (first | refine J.addN rfl rfl (by omega) (by omega) rfl ?_ | refine J.bin rfl rfl rfl rfl ?_)
    refine J.indexAddrS Ty.el28 Ty.s5 rfl rfl (by omega) (by omega) rfl ?_
    refine J.name 40 rfl (show Value.pointer (some ⟨q, 0 + (64 * i + (j : Int)).toNat * 1, none⟩) = .pointer (some ⟨q, 64 * i.toNat + j, none⟩) by congr 3; omega) ?_
    refine J.storeO (vs := [.int .u8 0]) Ty.s5 rfl rfl rfl rfl (by simp [Value.oneCell']) (.there .here) (by simp [wst_length hB hi2n hbl64 j (by omega)]; omega) ?_
    refine J.nil ?_
    refine JX.thenN (hK12 _ _ ?_)
    refine JC.seq (fun K13 hK13 => ?_)
    refine JC.region ?_
    refine J.move rfl rfl ?_
    refine J.move rfl rfl ?_
    refine J.lenS rfl Ty.u28 rfl rfl ?_
    refine J.bin rfl rfl rfl rfl ?_
    refine J.nil ?_
    refine JX.thenN (hK13 _ _ ?_)
    refine JC.cond rfl (fun h4 => ?_) (fun h4 => ?_)
    · skip
      have hjm : j < m := by simp at h4; omega
      obtain ⟨b, o, rfl, hcl⟩ : ∃ b o, a = some ⟨b, o, none⟩ ∧ Cells w b o (bs.map u8) := by
        obtain ⟨_, _, hv, _, hx⟩ := hbv
        simp only [Value.slice.injEq] at hv
        obtain ⟨rfl, _, rfl⟩ := hv
        rcases hx with hx | hx
        · have hx2 := congrArg List.length hx; rw [List.length_map, List.length_nil] at hx2; omega
        · exact hx
      have hbS : b ∉ [r, q] := by
        rcases hoff with hx | hx
        · have hx2 := congrArg List.length hx; rw [List.length_map, List.length_nil] at hx2; omega
        · exact hx b o _ _ rfl
      have hcj : Cells w b o (bs.map u8) := hcl
      apply JC.drawL 12 [Eqv _, Eqv _, Eqv _, Eqv _, Eqv _, Eqv _, Eqv _, Eqv _, Eqv _, Eqv _, Eqv _, Eqv _] Ty.mixed rfl rfl rfl (by kernel_rfl) rfl rfl (fun w w' hw hb => hw.step hb) ⟨fun _ _ _ h _ => h, fun _ _ _ h _ => h, fun _ _ _ h _ => h, fun _ _ _ h _ => h, fun _ _ _ h _ => h, fun _ _ _ h _ => h, fun _ _ _ h _ => h, fun _ _ _ h _ => h, fun _ _ _ h _ => h, fun _ _ _ h _ => h, fun _ _ _ h _ => h, fun _ _ _ h _ => h, trivial⟩ ?hstep ?htail
      case hstep =>
        refine ⟨fun wi => ?_, fun wi => ?_, fun wi => ?_, fun wi => ?_, fun wi => ?_, fun wi => ?_, fun wi => ?_, fun wi => ?_, fun wi => ?_, fun wi => ?_, fun wi => ?_, fun wi => ?_, trivial⟩
        · skip
          refine Fin.nil ?_
          refine J.move rfl rfl ?_
          refine J.nil (JX.fin rfl (fun w hw => ⟨rfl, (by rw [hw.1]; exact Below.refl _ _)⟩))
        · skip
          refine Fin.cons (fun v12_0 => ?_)
          refine Fin.nil ?_
          refine J.prE (fun h => ?_); subst h
          refine J.nilCheck rfl rfl ?_
          refine J.nil (JX.fin rfl (fun w hw => ⟨rfl, (by rw [hw.1]; exact Below.refl _ _)⟩))
        · skip
          refine Fin.cons (fun v12_1 => ?_)
          refine Fin.nil ?_
          refine J.prE (fun h => ?_); subst h
          refine J.fieldAddr Ty.fd35_0 rfl rfl ?_
          refine J.nil (JX.fin rfl (fun w hw => ⟨rfl, (by rw [hw.1]; exact Below.refl _ _)⟩))
        · skip
          refine Fin.cons (fun v12_2 => ?_)
          refine Fin.nil ?_
          refine J.prE (fun h => ?_); subst h
          (first | refine J.load1 Ty.a28 rfl (fun w hw => (cell_of (hw.2.own _ (.head _))).trans rfl) rfl ?_ | refine J.load1 Ty.a28 rfl (fun w hw => (cell_of (hw.2.own _ (.tail _ (.head _)))).trans rfl) rfl ?_ | refine J.load1 Ty.a28 rfl (fun w hw => (cell_of (hw.2.own _ (.tail _ (.tail _ (.head _))))).trans rfl) rfl ?_ | refine J.load1 Ty.a28 rfl (fun w hw => (cell_of (hw.2.own _ (.tail _ (.tail _ (.tail _ (.head _)))))).trans rfl) rfl ?_ | refine J.load1 Ty.a28 rfl (fun w hw => (cell_of (hw.2.own _ (.tail _ (.tail _ (.tail _ (.tail _ (.head _))))))).trans rfl) rfl ?_ | refine J.load1 Ty.a28 rfl (fun w hw => (cell_of (hw.2.own _ (List.mem_append_right _ (.head _)))).trans rfl) rfl ?_ | refine J.load1 Ty.a28 rfl (fun w hw => (cell_of (hw.2.own _ (List.mem_append_right _ (.tail _ (.head _))))).trans rfl) rfl ?_ | refine J.load1 Ty.a28 rfl (fun w hw => (cell_of (hw.2.own _ (List.mem_append_right _ (.tail _ (.tail _ (.head _)))))).trans rfl) rfl ?_ | refine J.load1 Ty.a28 rfl (fun w hw => (cell_of (hw.2.own _ (List.mem_append_right _ (.tail _ (.tail _ (.tail _ (.head _))))))).trans rfl) rfl ?_ | refine J.load1 Ty.a28 rfl (fun w hw => (cell_of (hw.2.own _ (List.mem_append_right _ (.tail _ (.tail _ (.tail _ (.tail _ (.head _)))))))).trans rfl) rfl ?_)
          refine J.nil (JX.fin rfl (fun w hw => ⟨rfl, (by rw [hw.1]; exact Below.refl _ _)⟩))
        · skip
          refine Fin.nil ?_
          refine J.move rfl rfl ?_
          refine J.nil (JX.fin rfl (fun w hw => ⟨rfl, (by rw [hw.1]; exact Below.refl _ _)⟩))
        · skip
          refine Fin.cons (fun v12_4 => ?_)
          refine Fin.nil ?_
          refine J.prE (fun h => ?_); subst h
          (first | refine J.mulN rfl rfl (by omega) (by omega) rfl ?_ | refine J.bin rfl rfl rfl rfl ?_)
          refine J.nil (JX.fin rfl (fun w hw => ⟨rfl, (by rw [hw.1]; exact Below.refl _ _)⟩))
        · skip
          refine Fin.nil ?_
          refine J.move rfl rfl ?_
          refine J.nil (JX.fin rfl (fun w hw => ⟨rfl, (by rw [hw.1]; exact Below.refl _ _)⟩))
        · skip
          refine Fin.cons (fun v12_5 => ?_)
          refine Fin.cons (fun v12_6 => ?_)
          refine Fin.nil ?_
          refine J.prE (fun h => ?_); subst h
          refine J.prE (fun h => ?_); subst h
          (first | refine J.addN rfl rfl (by omega) (by omega) rfl ?_ | refine J.bin rfl rfl rfl rfl ?_)
          refine J.nil (JX.fin rfl (fun w hw => ⟨rfl, (by rw [hw.1]; exact Below.refl _ _)⟩))
        · skip
          refine Fin.nil ?_
          refine J.move rfl rfl ?_
          refine J.nil (JX.fin rfl (fun w hw => ⟨rfl, (by rw [hw.1]; exact Below.refl _ _)⟩))
        · skip
          refine Fin.nil ?_
          refine J.move rfl rfl ?_
          refine J.nil (JX.fin rfl (fun w hw => ⟨rfl, (by rw [hw.1]; exact Below.refl _ _)⟩))
        · skip
          refine Fin.cons (fun v12_8 => ?_)
          refine Fin.cons (fun v12_9 => ?_)
          refine Fin.nil ?_
          refine J.prE (fun h => ?_); subst h
          refine J.prE (fun h => ?_); subst h
          refine J.indexAddrS Ty.el28 Ty.s5 rfl rfl (by omega) (by omega) rfl ?_
          refine J.nil (JX.fin rfl (fun w hw => ⟨rfl, (by rw [hw.1]; exact Below.refl _ _)⟩))
        · skip
          refine Fin.cons (fun v12_10 => ?_)
          refine Fin.nil ?_
          refine J.prE (fun h => ?_); subst h
          refine J.load1 (v := u8 (bs[j]'(by omega))) Ty.a5 rfl (fun w hw => ?_) rfl ?_
          · have h1 := hcj.blk (hw.2.keep b (hcj.lt (by intro hx; have hx2 := congrArg List.length hx; rw [List.length_map, List.length_nil] at hx2; omega)) hbS)
            have h2 := h1 j (by simp; omega)
            rw [show o + (j : Int).toNat * 1 = o + j by omega, h2]
            simp [List.getElem?_eq_getElem (show j < bs.length by omega)]
          refine J.nil (JX.fin rfl (fun w hw => ⟨rfl, (by rw [hw.1]; exact Below.refl _ _)⟩))
      case htail =>
        refine Fin.cons (fun v12_0 => ?_)
        refine Fin.cons (fun v12_1 => ?_)
        refine Fin.cons (fun v12_2 => ?_)
        refine Fin.cons (fun v12_3 => ?_)
        refine Fin.cons (fun v12_4 => ?_)
        refine Fin.cons (fun v12_5 => ?_)
        refine Fin.cons (fun v12_6 => ?_)
        refine Fin.cons (fun v12_7 => ?_)
        refine Fin.cons (fun v12_8 => ?_)
        refine Fin.cons (fun v12_9 => ?_)
        refine Fin.cons (fun v12_10 => ?_)
        refine Fin.cons (fun v12_11 => ?_)
        refine Fin.nil ?_
        refine J.prE (fun h => ?_); subst h
        refine J.prE (fun h => ?_); subst h
        refine J.prE (fun h => ?_); subst h
        refine J.prE (fun h => ?_); subst h
        refine J.prE (fun h => ?_); subst h
        refine J.prE (fun h => ?_); subst h
        refine J.prE (fun h => ?_); subst h
        refine J.prE (fun h => ?_); subst h
        refine J.prE (fun h => ?_); subst h
        refine J.prE (fun h => ?_); subst h
        refine J.prE (fun h => ?_); subst h
        refine J.prE (fun h => ?_); subst h
        refine J.indexAddrS Ty.el28 Ty.s5 rfl rfl (by omega) (by omega) rfl ?_
        refine J.name 57 rfl (show Value.pointer (some ⟨q, 0 + (64 * i + (j : Int)).toNat * 1, none⟩) = .pointer (some ⟨q, 64 * i.toNat + j, none⟩) by congr 3; omega) ?_
        refine J.storeO (vs := [u8 (bs[j]'(by omega))]) Ty.s5 rfl rfl rfl rfl (by simp [Value.oneCell']) (.there .here) (by simp [setMany_length, wst_length hB hi2n hbl64 j (by omega)]; omega) ?_
        refine J.nil ?_
        refine JX.blockN ?_
        refine JX.thenN (hK11 _ _ ?_)
        refine JC.region ?_
        refine J.move rfl rfl ?_
        (first | refine J.addN rfl rfl (by omega) (by omega) rfl ?_ | refine J.bin rfl rfl rfl rfl ?_)
        refine J.assign rfl rfl ?_
        refine J.nil ?_
        refine JX.thenN ?_
        refine JX.again (j + 1) ?_ ?_ ?_
        · omega
        · exact ⟨rfl, rfl, rfl, rfl, trivial⟩
        · exact fun w hw => ⟨hlt, by
            first
            | exact (by rw [← wst_byte hB hi2n hbl64 j hlt (by omega), ← set_u8 _ _ _ _ (by rw [List.length_set, wst_length hB hi2n hbl64 j (by omega)]; omega), ← set_u8 _ _ _ _ (by rw [wst_length hB hi2n hbl64 j (by omega)]; omega)]; exact hw)
            | exact (by rw [← wst_pad hB hi2n hbl64 j hlt (by omega), ← set_u8 _ _ _ _ (by rw [wst_length hB hi2n hbl64 j (by omega)]; omega)]; exact hw)⟩
    · skip
      have hjm : m ≤ j := by simp at h4; omega
      refine JC.skip ?_
      refine JX.blockN ?_
      refine JX.thenN (hK11 _ _ ?_)
      refine JC.region ?_
      refine J.move rfl rfl ?_
      (first | refine J.addN rfl rfl (by omega) (by omega) rfl ?_ | refine J.bin rfl rfl rfl rfl ?_)
      refine J.assign rfl rfl ?_
      refine J.nil ?_
      refine JX.thenN ?_
      refine JX.again (j + 1) ?_ ?_ ?_
      · omega
      · exact ⟨rfl, rfl, rfl, rfl, trivial⟩
      · exact fun w hw => ⟨hlt, by
          first
          | exact (by rw [← wst_byte hB hi2n hbl64 j hlt (by omega), ← set_u8 _ _ _ _ (by rw [List.length_set, wst_length hB hi2n hbl64 j (by omega)]; omega), ← set_u8 _ _ _ _ (by rw [wst_length hB hi2n hbl64 j (by omega)]; omega)]; exact hw)
          | exact (by rw [← wst_pad hB hi2n hbl64 j hlt (by omega), ← set_u8 _ _ _ _ (by rw [wst_length hB hi2n hbl64 j (by omega)]; omega)]; exact hw)⟩
  · skip
    have hge : j = 64 := by simp at h3; omega
    subst hge
    refine JC.exit ?_
    refine JX.thenE ?_
    refine JX.thenE ?_
    refine JX.blockE ?_
    refine JX.thenN (hK7 _ _ ?_)
    refine JC.seq (fun K14 hK14 => ?_)
    refine JC.seq (fun K15 hK15 => ?_)
    refine JC.region ?_
    refine J.move rfl rfl ?_
    refine J.nilCheck rfl rfl ?_
    refine J.fieldAddr Ty.fd35_1 rfl rfl ?_
    (first | refine J.loadO Ty.a3 rfl (.head _) rfl rfl ?_ | refine J.loadO Ty.a3 rfl (.tail _ (.head _)) rfl rfl ?_ | refine J.loadO Ty.a3 rfl (.tail _ (.tail _ (.head _))) rfl rfl ?_ | refine J.loadO Ty.a3 rfl (.tail _ (.tail _ (.tail _ (.head _)))) rfl rfl ?_ | refine J.loadO Ty.a3 rfl (.tail _ (.tail _ (.tail _ (.tail _ (.head _))))) rfl rfl ?_ | refine J.loadO Ty.a3 rfl (List.mem_append_right _ (.head _)) rfl rfl ?_ | refine J.loadO Ty.a3 rfl (List.mem_append_right _ (.tail _ (.head _))) rfl rfl ?_ | refine J.loadO Ty.a3 rfl (List.mem_append_right _ (.tail _ (.tail _ (.head _)))) rfl rfl ?_ | refine J.loadO Ty.a3 rfl (List.mem_append_right _ (.tail _ (.tail _ (.tail _ (.head _))))) rfl rfl ?_ | refine J.loadO Ty.a3 rfl (List.mem_append_right _ (.tail _ (.tail _ (.tail _ (.tail _ (.head _)))))) rfl rfl ?_)
    refine J.bin rfl rfl rfl rfl ?_
    refine J.nil ?_
    refine JX.thenN (hK15 _ _ ?_)
    first | refine JC.condF rfl ?_ | refine JC.cond rfl (fun h => by first | (exfalso; simp at h; omega) | (simp at h)) (fun _ => ?_)
    refine JC.skip ?_
    refine JX.thenN (hK14 _ _ ?_)
    refine JC.seq (fun K16 hK16 => ?_)
    refine JC.region ?_
    refine J.move rfl rfl ?_
    refine J.nilCheck rfl rfl ?_
    refine J.fieldAddr Ty.fd35_2 rfl rfl ?_
    (first | refine J.loadO Ty.a3 rfl (.head _) rfl rfl ?_ | refine J.loadO Ty.a3 rfl (.tail _ (.head _)) rfl rfl ?_ | refine J.loadO Ty.a3 rfl (.tail _ (.tail _ (.head _))) rfl rfl ?_ | refine J.loadO Ty.a3 rfl (.tail _ (.tail _ (.tail _ (.head _)))) rfl rfl ?_ | refine J.loadO Ty.a3 rfl (.tail _ (.tail _ (.tail _ (.tail _ (.head _))))) rfl rfl ?_ | refine J.loadO Ty.a3 rfl (List.mem_append_right _ (.head _)) rfl rfl ?_ | refine J.loadO Ty.a3 rfl (List.mem_append_right _ (.tail _ (.head _))) rfl rfl ?_ | refine J.loadO Ty.a3 rfl (List.mem_append_right _ (.tail _ (.tail _ (.head _)))) rfl rfl ?_ | refine J.loadO Ty.a3 rfl (List.mem_append_right _ (.tail _ (.tail _ (.tail _ (.head _))))) rfl rfl ?_ | refine J.loadO Ty.a3 rfl (List.mem_append_right _ (.tail _ (.tail _ (.tail _ (.tail _ (.head _)))))) rfl rfl ?_)
    (first | refine J.addN rfl rfl (by omega) (by omega) rfl ?_ | refine J.bin rfl rfl rfl rfl ?_)
    refine J.nilCheck rfl rfl ?_
    refine J.fieldAddr Ty.fd35_2 rfl rfl ?_
    (first | refine J.storeO Ty.s3 rfl rfl rfl rfl (by simp [Value.oneCell']) .here (by simp) ?_ | refine J.storeO Ty.s3 rfl rfl rfl rfl (by simp [Value.oneCell']) (.there .here) (by simp) ?_ | refine J.storeO Ty.s3 rfl rfl rfl rfl (by simp [Value.oneCell']) (.there (.there .here)) (by simp) ?_ | refine J.storeO Ty.s3 rfl rfl rfl rfl (by simp [Value.oneCell']) (.there (.there (.there .here))) (by simp) ?_)
    refine J.nil ?_
    refine JX.thenN (hK16 _ _ ?_)
    refine JC.seq (fun K17 hK17 => ?_)
    refine JC.region ?_
    refine J.assign rfl rfl ?_
    refine J.nil ?_
    refine JX.thenN (hK17 _ _ ?_)
    refine JC.ret ?_
    refine JX.ret1 rfl rfl (fun w hw => ?_)
    rw [wst_all (by omega)] at hw
    exact ⟨rfl, [(q, cb ((put B i.toNat bs).map u8 ++ sp) 5)], ⟨by rw [List.length_map, put_length hB hi2n hbl64]; omega, .inr ⟨q, c0, sp, rfl, rfl, by simp only [List.length_append, List.length_map, put_length hB hi2n hbl64, hB] at hcap ⊢; exact hcap, hnc⟩⟩, hw⟩

theorem rwrite_power (r n : Nat) (v : Value) (lp : List (Nat × Obj)) (B : List UInt8) (p k : Int) (w : World) (hw0 : Own w ((r, rfO v p k) :: lp)) (hv : Vec 5 1 v (64 * n) (B.map u8) lp) (hn : n ≤ 4096) (bs : List UInt8) (i : Int) (a : Option Addr) (m c : Nat) (hB : B.length = 64 * n) (hi : 0 ≤ i) (hi2 : i < (n : Int)) (hk : 0 ≤ k) (hk2 : k < 4611686018427387904) (hm : m ≤ 64) (hbl : bs.length = m) (hbv : Row w (.slice a m c) m (bs.map u8)) (hoff : Off (r :: lp.map (·.1)) (.slice a m c) (bs.map u8)) (hp : 0 < p) (hp2 : p < 9223372036854775808) :
    Calls Try.prog 18 [.pointer (some ⟨r, 0, none⟩), .int .i64 i, .slice a m c].toArray w fun ρ w' => ρ = .returned (.int .i64 0) ∧ ∃ lp', Vec 5 1 v (64 * n) ((put B i.toNat bs).map u8) lp' ∧ St w (r :: lp.map (·.1)) ((r, rfO v (p - 1) (k + 1)) :: lp') w' := by
  have hbl64 : bs.length ≤ 64 := by omega
  have hi2n : i.toNat < n := by omega
  obtain ⟨hvl, hv⟩ := hv
  rcases hv with ⟨_, h0, _⟩ | ⟨q, c0, sp, rfl, rfl, hcap, hnc⟩
  · omega
  have hz : u8 0 = Value.int .u8 0 := rfl
  refine calls_of_J (args := [.pointer (some ⟨r, 0, none⟩), .int .i64 i, .slice a m c]) (e := [(0, .pointer (some ⟨r, 0, none⟩)), (1, .int .i64 i), (2, .slice a m c)]) Try.func18 rfl rfl ⟨rfl, rfl, rfl, trivial⟩ (hw0.st) ?_
  refine JC.seq (fun K0 hK0 => ?_)
  refine JC.region ?_
  refine J.assign rfl rfl ?_
  refine J.nil ?_
  refine JX.thenN (hK0 _ _ ?_)
  refine JC.seq (fun K1 hK1 => ?_)
  refine JC.seq (fun K2 hK2 => ?_)
  refine JC.region ?_
  refine J.move rfl rfl ?_
  refine J.bin rfl rfl rfl rfl ?_
  refine J.move rfl rfl ?_
  refine J.split 10 rfl (fun h => by first | (exfalso; simp at h; omega) | (simp at h)) (fun _ => ?_)
  first
    | (refine J.skip rfl rfl rfl rfl rfl ?_)
    | (refine J.skipU rfl rfl rfl rfl ?_)
    | (refine J.unguard rfl rfl rfl ?_; refine J.move rfl rfl ?_)
  first
    | (refine J.skip rfl rfl rfl rfl rfl ?_)
    | (refine J.skipU rfl rfl rfl rfl ?_)
    | (refine J.unguard rfl rfl rfl ?_; refine J.move rfl rfl ?_)
  first
    | (refine J.skip rfl rfl rfl rfl rfl ?_)
    | (refine J.skipU rfl rfl rfl rfl ?_)
    | (refine J.unguard rfl rfl rfl ?_; refine J.nilCheck rfl rfl ?_)
  first
    | (refine J.skip rfl rfl rfl rfl rfl ?_)
    | (refine J.skipU rfl rfl rfl rfl ?_)
    | (refine J.unguard rfl rfl rfl ?_; refine J.fieldAddr Ty.fd35_0 rfl rfl ?_)
  first
    | (refine J.skip rfl rfl rfl rfl rfl ?_)
    | (refine J.skipU rfl rfl rfl rfl ?_)
    | (refine J.unguard rfl rfl rfl ?_; (first | refine J.loadO Ty.a28 rfl (.head _) rfl rfl ?_ | refine J.loadO Ty.a28 rfl (.tail _ (.head _)) rfl rfl ?_ | refine J.loadO Ty.a28 rfl (.tail _ (.tail _ (.head _))) rfl rfl ?_ | refine J.loadO Ty.a28 rfl (.tail _ (.tail _ (.tail _ (.head _)))) rfl rfl ?_ | refine J.loadO Ty.a28 rfl (.tail _ (.tail _ (.tail _ (.tail _ (.head _))))) rfl rfl ?_ | refine J.loadO Ty.a28 rfl (List.mem_append_right _ (.head _)) rfl rfl ?_ | refine J.loadO Ty.a28 rfl (List.mem_append_right _ (.tail _ (.head _))) rfl rfl ?_ | refine J.loadO Ty.a28 rfl (List.mem_append_right _ (.tail _ (.tail _ (.head _)))) rfl rfl ?_ | refine J.loadO Ty.a28 rfl (List.mem_append_right _ (.tail _ (.tail _ (.tail _ (.head _))))) rfl rfl ?_ | refine J.loadO Ty.a28 rfl (List.mem_append_right _ (.tail _ (.tail _ (.tail _ (.tail _ (.head _)))))) rfl rfl ?_))
  first
    | (refine J.skip rfl rfl rfl rfl rfl ?_)
    | (refine J.skipU rfl rfl rfl rfl ?_)
    | (refine J.unguard rfl rfl rfl ?_; refine J.lenS rfl Ty.u28 rfl rfl ?_)
  refine J.unguard rfl rfl rfl ?_
  refine J.quoN rfl rfl (by omega) (by omega) (by omega) rfl ?_
  refine J.name 17 rfl (congrArg (Value.int .i64) (show ((64 * n : Nat) : Int) / 64 = (n : Int) by omega)) ?_
  first
    | (refine J.skip rfl rfl rfl rfl rfl ?_)
    | (refine J.skipU rfl rfl rfl rfl ?_)
    | (refine J.unguard rfl rfl rfl ?_; refine J.bin rfl rfl rfl rfl ?_)
  (first | refine J.pickT rfl rfl rfl ?_ | refine J.pickF rfl rfl rfl ?_)
  refine J.nil ?_
  refine JX.thenN (hK2 _ _ ?_)
  first | refine JC.condF rfl ?_ | refine JC.cond rfl (fun h => by first | (exfalso; simp at h; omega) | (simp at h)) (fun _ => ?_)
  refine JC.skip ?_
  refine JX.thenN (hK1 _ _ ?_)
  refine JC.seq (fun K3 hK3 => ?_)
  refine JC.seq (fun K4 hK4 => ?_)
  refine JC.region ?_
  refine J.move rfl rfl ?_
  refine J.lenS rfl Ty.u28 rfl rfl ?_
  refine J.bin rfl rfl rfl rfl ?_
  refine J.nil ?_
  refine JX.thenN (hK4 _ _ ?_)
  first | refine JC.condF rfl ?_ | refine JC.cond rfl (fun h => by first | (exfalso; simp at h; omega) | (simp at h)) (fun _ => ?_)
  refine JC.skip ?_
  refine JX.thenN (hK3 _ _ ?_)
  refine JC.seq (fun K5 hK5 => ?_)
  refine JC.seq (fun K6 hK6 => ?_)
  refine JC.region ?_
  refine J.move rfl rfl ?_
  refine J.nilCheck rfl rfl ?_
  refine J.fieldAddr Ty.fd35_1 rfl rfl ?_
  (first | refine J.loadO Ty.a3 rfl (.head _) rfl rfl ?_ | refine J.loadO Ty.a3 rfl (.tail _ (.head _)) rfl rfl ?_ | refine J.loadO Ty.a3 rfl (.tail _ (.tail _ (.head _))) rfl rfl ?_ | refine J.loadO Ty.a3 rfl (.tail _ (.tail _ (.tail _ (.head _)))) rfl rfl ?_ | refine J.loadO Ty.a3 rfl (.tail _ (.tail _ (.tail _ (.tail _ (.head _))))) rfl rfl ?_ | refine J.loadO Ty.a3 rfl (List.mem_append_right _ (.head _)) rfl rfl ?_ | refine J.loadO Ty.a3 rfl (List.mem_append_right _ (.tail _ (.head _))) rfl rfl ?_ | refine J.loadO Ty.a3 rfl (List.mem_append_right _ (.tail _ (.tail _ (.head _)))) rfl rfl ?_ | refine J.loadO Ty.a3 rfl (List.mem_append_right _ (.tail _ (.tail _ (.tail _ (.head _))))) rfl rfl ?_ | refine J.loadO Ty.a3 rfl (List.mem_append_right _ (.tail _ (.tail _ (.tail _ (.tail _ (.head _)))))) rfl rfl ?_)
  refine J.bin rfl rfl rfl rfl ?_
  refine J.nil ?_
  refine JX.thenN (hK6 _ _ ?_)
  first | refine JC.condF rfl ?_ | refine JC.cond rfl (fun h => by first | (exfalso; simp at h; omega) | (simp at h)) (fun _ => ?_)
  refine JC.skip ?_
  refine JX.thenN (hK5 _ _ ?_)
  refine JC.seq (fun K7 hK7 => ?_)
  refine JC.seq (fun K8 hK8 => ?_)
  refine JC.region ?_
  refine J.assign rfl rfl ?_
  refine J.nil ?_
  refine JX.thenN (hK8 _ _ ?_)
  refine JC.block ?_
  refine JC.conseq (JC.cov (f := (fun x => [(0, .pointer (some ⟨r, 0, none⟩)), (1, .int .i64 i), (2, .slice a m c), (7, .int .i64 x)]) (0 : Nat)) ⟨rfl, rfl, rfl, rfl, trivial⟩ (JC.loop (α := Nat) (fun x => [(0, .pointer (some ⟨r, 0, none⟩)), (1, .int .i64 i), (2, .slice a m c), (7, .int .i64 x)]) (fun x w' => x ≤ 64 ∧ St w [r, q] [(r, rfO (.slice (some ⟨q, 0, none⟩) (64 * n) c0) p k), (q, cb ((wst B i.toNat bs x).map u8 ++ sp) 5)] w') (fun x => 64 - x) (0 : Nat) (fun j => ?_))) (fun w hw => ⟨Nat.zero_le _, by rw [wst_zero]; exact hw⟩)
  refine JC.pr (fun hj64 => ?_)
  refine JC.seq (fun K9 hK9 => ?_)
  refine JC.seq (fun K10 hK10 => ?_)
  refine JC.region ?_
  refine J.move rfl rfl ?_
  refine J.bin rfl rfl rfl rfl ?_
  refine J.nil ?_
  refine JX.thenN (hK10 _ _ ?_)
  refine JC.cond rfl (fun h3 => ?_) (fun h3 => ?_)
  · skip
    have hlt : j < 64 := by simp at h3; omega
    refine JC.skip ?_
    refine JX.thenN (hK9 _ _ ?_)
    refine JC.seq (fun K11 hK11 => ?_)
    refine JC.block ?_
    refine JC.seq (fun K12 hK12 => ?_)
    refine JC.region ?_
    refine J.move rfl rfl ?_
    refine J.nilCheck rfl rfl ?_
    refine J.fieldAddr Ty.fd35_0 rfl rfl ?_
    (first | refine J.loadO Ty.a28 rfl (.head _) rfl rfl ?_ | refine J.loadO Ty.a28 rfl (.tail _ (.head _)) rfl rfl ?_ | refine J.loadO Ty.a28 rfl (.tail _ (.tail _ (.head _))) rfl rfl ?_ | refine J.loadO Ty.a28 rfl (.tail _ (.tail _ (.tail _ (.head _)))) rfl rfl ?_ | refine J.loadO Ty.a28 rfl (.tail _ (.tail _ (.tail _ (.tail _ (.head _))))) rfl rfl ?_ | refine J.loadO Ty.a28 rfl (List.mem_append_right _ (.head _)) rfl rfl ?_ | refine J.loadO Ty.a28 rfl (List.mem_append_right _ (.tail _ (.head _))) rfl rfl ?_ | refine J.loadO Ty.a28 rfl (List.mem_append_right _ (.tail _ (.tail _ (.head _)))) rfl rfl ?_ | refine J.loadO Ty.a28 rfl (List.mem_append_right _ (.tail _ (.tail _ (.tail _ (.head _))))) rfl rfl ?_ | refine J.loadO Ty.a28 rfl (List.mem_append_right _ (.tail _ (.tail _ (.tail _ (.tail _ (.head _)))))) rfl rfl ?_)
    refine J.move rfl rfl ?_
    (first | refine J.mulN rfl rfl (by omega) (by omega) rfl ?_ | refine J.bin rfl rfl rfl rfl ?_)
    refine J.move rfl rfl ?_
    (first | refine J.addN rfl rfl (by omega) (by omega) rfl ?_ | refine J.bin rfl rfl rfl rfl ?_)
    refine J.indexAddrS Ty.el28 Ty.s5 rfl rfl (by omega) (by omega) rfl ?_
    refine J.name 40 rfl (show Value.pointer (some ⟨q, 0 + (64 * i + (j : Int)).toNat * 1, none⟩) = .pointer (some ⟨q, 64 * i.toNat + j, none⟩) by congr 3; omega) ?_
    refine J.storeO (vs := [.int .u8 0]) Ty.s5 rfl rfl rfl rfl (by simp [Value.oneCell']) (.there .here) (by simp [wst_length hB hi2n hbl64 j (by omega)]; omega) ?_
    refine J.nil ?_
    refine JX.thenN (hK12 _ _ ?_)
    refine JC.seq (fun K13 hK13 => ?_)
    refine JC.region ?_
    refine J.move rfl rfl ?_
    refine J.move rfl rfl ?_
    refine J.lenS rfl Ty.u28 rfl rfl ?_
    refine J.bin rfl rfl rfl rfl ?_
    refine J.nil ?_
    refine JX.thenN (hK13 _ _ ?_)
    refine JC.cond rfl (fun h4 => ?_) (fun h4 => ?_)
    · skip
      have hjm : j < m := by simp at h4; omega
      obtain ⟨b, o, rfl, hcl⟩ : ∃ b o, a = some ⟨b, o, none⟩ ∧ Cells w b o (bs.map u8) := by
        obtain ⟨_, _, hv, _, hx⟩ := hbv
        simp only [Value.slice.injEq] at hv
        obtain ⟨rfl, _, rfl⟩ := hv
        rcases hx with hx | hx
        · have hx2 := congrArg List.length hx; rw [List.length_map, List.length_nil] at hx2; omega
        · exact hx
      have hbS : b ∉ [r, q] := by
        rcases hoff with hx | hx
        · have hx2 := congrArg List.length hx; rw [List.length_map, List.length_nil] at hx2; omega
        · exact hx b o _ _ rfl
      have hcj : Cells w b o (bs.map u8) := hcl
      apply JC.drawL 12 [Eqv _, Eqv _, Eqv _, Eqv _, Eqv _, Eqv _, Eqv _, Eqv _, Eqv _, Eqv _, Eqv _, Eqv _] Ty.mixed rfl rfl rfl (by kernel_rfl) rfl rfl (fun w w' hw hb => hw.step hb) ⟨fun _ _ _ h _ => h, fun _ _ _ h _ => h, fun _ _ _ h _ => h, fun _ _ _ h _ => h, fun _ _ _ h _ => h, fun _ _ _ h _ => h, fun _ _ _ h _ => h, fun _ _ _ h _ => h, fun _ _ _ h _ => h, fun _ _ _ h _ => h, fun _ _ _ h _ => h, fun _ _ _ h _ => h, trivial⟩ ?hstep ?htail
      case hstep =>
        refine ⟨fun wi => ?_, fun wi => ?_, fun wi => ?_, fun wi => ?_, fun wi => ?_, fun wi => ?_, fun wi => ?_, fun wi => ?_, fun wi => ?_, fun wi => ?_, fun wi => ?_, fun wi => ?_, trivial⟩
        · skip
          refine Fin.nil ?_
          refine J.move rfl rfl ?_
          refine J.nil (JX.fin rfl (fun w hw => ⟨rfl, (by rw [hw.1]; exact Below.refl _ _)⟩))
        · skip
          refine Fin.cons (fun v12_0 => ?_)
          refine Fin.nil ?_
          refine J.prE (fun h => ?_); subst h
          refine J.nilCheck rfl rfl ?_
          refine J.nil (JX.fin rfl (fun w hw => ⟨rfl, (by rw [hw.1]; exact Below.refl _ _)⟩))
        · skip
          refine Fin.cons (fun v12_1 => ?_)
          refine Fin.nil ?_
          refine J.prE (fun h => ?_); subst h
          refine J.fieldAddr Ty.fd35_0 rfl rfl ?_
          refine J.nil (JX.fin rfl (fun w hw => ⟨rfl, (by rw [hw.1]; exact Below.refl _ _)⟩))
        · skip
          refine Fin.cons (fun v12_2 => ?_)
          refine Fin.nil ?_
          refine J.prE (fun h => ?_); subst h
          (first | refine J.load1 Ty.a28 rfl (fun w hw => (cell_of (hw.2.own _ (.head _))).trans rfl) rfl ?_ | refine J.load1 Ty.a28 rfl (fun w hw => (cell_of (hw.2.own _ (.tail _ (.head _)))).trans rfl) rfl ?_ | refine J.load1 Ty.a28 rfl (fun w hw => (cell_of (hw.2.own _ (.tail _ (.tail _ (.head _))))).trans rfl) rfl ?_ | refine J.load1 Ty.a28 rfl (fun w hw => (cell_of (hw.2.own _ (.tail _ (.tail _ (.tail _ (.head _)))))).trans rfl) rfl ?_ | refine J.load1 Ty.a28 rfl (fun w hw => (cell_of (hw.2.own _ (.tail _ (.tail _ (.tail _ (.tail _ (.head _))))))).trans rfl) rfl ?_ | refine J.load1 Ty.a28 rfl (fun w hw => (cell_of (hw.2.own _ (List.mem_append_right _ (.head _)))).trans rfl) rfl ?_ | refine J.load1 Ty.a28 rfl (fun w hw => (cell_of (hw.2.own _ (List.mem_append_right _ (.tail _ (.head _))))).trans rfl) rfl ?_ | refine J.load1 Ty.a28 rfl (fun w hw => (cell_of (hw.2.own _ (List.mem_append_right _ (.tail _ (.tail _ (.head _)))))).trans rfl) rfl ?_ | refine J.load1 Ty.a28 rfl (fun w hw => (cell_of (hw.2.own _ (List.mem_append_right _ (.tail _ (.tail _ (.tail _ (.head _))))))).trans rfl) rfl ?_ | refine J.load1 Ty.a28 rfl (fun w hw => (cell_of (hw.2.own _ (List.mem_append_right _ (.tail _ (.tail _ (.tail _ (.tail _ (.head _)))))))).trans rfl) rfl ?_)
          refine J.nil (JX.fin rfl (fun w hw => ⟨rfl, (by rw [hw.1]; exact Below.refl _ _)⟩))
        · skip
          refine Fin.nil ?_
          refine J.move rfl rfl ?_
          refine J.nil (JX.fin rfl (fun w hw => ⟨rfl, (by rw [hw.1]; exact Below.refl _ _)⟩))
        · skip
          refine Fin.cons (fun v12_4 => ?_)
          refine Fin.nil ?_
          refine J.prE (fun h => ?_); subst h
          (first | refine J.mulN rfl rfl (by omega) (by omega) rfl ?_ | refine J.bin rfl rfl rfl rfl ?_)
          refine J.nil (JX.fin rfl (fun w hw => ⟨rfl, (by rw [hw.1]; exact Below.refl _ _)⟩))
        · skip
          refine Fin.nil ?_
          refine J.move rfl rfl ?_
          refine J.nil (JX.fin rfl (fun w hw => ⟨rfl, (by rw [hw.1]; exact Below.refl _ _)⟩))
        · skip
          refine Fin.cons (fun v12_5 => ?_)
          refine Fin.cons (fun v12_6 => ?_)
          refine Fin.nil ?_
          refine J.prE (fun h => ?_); subst h
          refine J.prE (fun h => ?_); subst h
          (first | refine J.addN rfl rfl (by omega) (by omega) rfl ?_ | refine J.bin rfl rfl rfl rfl ?_)
          refine J.nil (JX.fin rfl (fun w hw => ⟨rfl, (by rw [hw.1]; exact Below.refl _ _)⟩))
        · skip
          refine Fin.nil ?_
          refine J.move rfl rfl ?_
          refine J.nil (JX.fin rfl (fun w hw => ⟨rfl, (by rw [hw.1]; exact Below.refl _ _)⟩))
        · skip
          refine Fin.nil ?_
          refine J.move rfl rfl ?_
          refine J.nil (JX.fin rfl (fun w hw => ⟨rfl, (by rw [hw.1]; exact Below.refl _ _)⟩))
        · skip
          refine Fin.cons (fun v12_8 => ?_)
          refine Fin.cons (fun v12_9 => ?_)
          refine Fin.nil ?_
          refine J.prE (fun h => ?_); subst h
          refine J.prE (fun h => ?_); subst h
          refine J.indexAddrS Ty.el28 Ty.s5 rfl rfl (by omega) (by omega) rfl ?_
          refine J.nil (JX.fin rfl (fun w hw => ⟨rfl, (by rw [hw.1]; exact Below.refl _ _)⟩))
        · skip
          refine Fin.cons (fun v12_10 => ?_)
          refine Fin.nil ?_
          refine J.prE (fun h => ?_); subst h
          refine J.load1 (v := u8 (bs[j]'(by omega))) Ty.a5 rfl (fun w hw => ?_) rfl ?_
          · have h1 := hcj.blk (hw.2.keep b (hcj.lt (by intro hx; have hx2 := congrArg List.length hx; rw [List.length_map, List.length_nil] at hx2; omega)) hbS)
            have h2 := h1 j (by simp; omega)
            rw [show o + (j : Int).toNat * 1 = o + j by omega, h2]
            simp [List.getElem?_eq_getElem (show j < bs.length by omega)]
          refine J.nil (JX.fin rfl (fun w hw => ⟨rfl, (by rw [hw.1]; exact Below.refl _ _)⟩))
      case htail =>
        refine Fin.cons (fun v12_0 => ?_)
        refine Fin.cons (fun v12_1 => ?_)
        refine Fin.cons (fun v12_2 => ?_)
        refine Fin.cons (fun v12_3 => ?_)
        refine Fin.cons (fun v12_4 => ?_)
        refine Fin.cons (fun v12_5 => ?_)
        refine Fin.cons (fun v12_6 => ?_)
        refine Fin.cons (fun v12_7 => ?_)
        refine Fin.cons (fun v12_8 => ?_)
        refine Fin.cons (fun v12_9 => ?_)
        refine Fin.cons (fun v12_10 => ?_)
        refine Fin.cons (fun v12_11 => ?_)
        refine Fin.nil ?_
        refine J.prE (fun h => ?_); subst h
        refine J.prE (fun h => ?_); subst h
        refine J.prE (fun h => ?_); subst h
        refine J.prE (fun h => ?_); subst h
        refine J.prE (fun h => ?_); subst h
        refine J.prE (fun h => ?_); subst h
        refine J.prE (fun h => ?_); subst h
        refine J.prE (fun h => ?_); subst h
        refine J.prE (fun h => ?_); subst h
        refine J.prE (fun h => ?_); subst h
        refine J.prE (fun h => ?_); subst h
        refine J.prE (fun h => ?_); subst h
        refine J.indexAddrS Ty.el28 Ty.s5 rfl rfl (by omega) (by omega) rfl ?_
        refine J.name 57 rfl (show Value.pointer (some ⟨q, 0 + (64 * i + (j : Int)).toNat * 1, none⟩) = .pointer (some ⟨q, 64 * i.toNat + j, none⟩) by congr 3; omega) ?_
        refine J.storeO (vs := [u8 (bs[j]'(by omega))]) Ty.s5 rfl rfl rfl rfl (by simp [Value.oneCell']) (.there .here) (by simp [setMany_length, wst_length hB hi2n hbl64 j (by omega)]; omega) ?_
        refine J.nil ?_
        refine JX.blockN ?_
        refine JX.thenN (hK11 _ _ ?_)
        refine JC.region ?_
        refine J.move rfl rfl ?_
        (first | refine J.addN rfl rfl (by omega) (by omega) rfl ?_ | refine J.bin rfl rfl rfl rfl ?_)
        refine J.assign rfl rfl ?_
        refine J.nil ?_
        refine JX.thenN ?_
        refine JX.again (j + 1) ?_ ?_ ?_
        · omega
        · exact ⟨rfl, rfl, rfl, rfl, trivial⟩
        · exact fun w hw => ⟨hlt, by
            first
            | exact (by rw [← wst_byte hB hi2n hbl64 j hlt (by omega), ← set_u8 _ _ _ _ (by rw [List.length_set, wst_length hB hi2n hbl64 j (by omega)]; omega), ← set_u8 _ _ _ _ (by rw [wst_length hB hi2n hbl64 j (by omega)]; omega)]; exact hw)
            | exact (by rw [← wst_pad hB hi2n hbl64 j hlt (by omega), ← set_u8 _ _ _ _ (by rw [wst_length hB hi2n hbl64 j (by omega)]; omega)]; exact hw)⟩
    · skip
      have hjm : m ≤ j := by simp at h4; omega
      refine JC.skip ?_
      refine JX.blockN ?_
      refine JX.thenN (hK11 _ _ ?_)
      refine JC.region ?_
      refine J.move rfl rfl ?_
      (first | refine J.addN rfl rfl (by omega) (by omega) rfl ?_ | refine J.bin rfl rfl rfl rfl ?_)
      refine J.assign rfl rfl ?_
      refine J.nil ?_
      refine JX.thenN ?_
      refine JX.again (j + 1) ?_ ?_ ?_
      · omega
      · exact ⟨rfl, rfl, rfl, rfl, trivial⟩
      · exact fun w hw => ⟨hlt, by
          first
          | exact (by rw [← wst_byte hB hi2n hbl64 j hlt (by omega), ← set_u8 _ _ _ _ (by rw [List.length_set, wst_length hB hi2n hbl64 j (by omega)]; omega), ← set_u8 _ _ _ _ (by rw [wst_length hB hi2n hbl64 j (by omega)]; omega)]; exact hw)
          | exact (by rw [← wst_pad hB hi2n hbl64 j hlt (by omega), ← set_u8 _ _ _ _ (by rw [wst_length hB hi2n hbl64 j (by omega)]; omega)]; exact hw)⟩
  · skip
    have hge : j = 64 := by simp at h3; omega
    subst hge
    refine JC.exit ?_
    refine JX.thenE ?_
    refine JX.thenE ?_
    refine JX.blockE ?_
    refine JX.thenN (hK7 _ _ ?_)
    refine JC.seq (fun K14 hK14 => ?_)
    refine JC.seq (fun K15 hK15 => ?_)
    refine JC.region ?_
    refine J.move rfl rfl ?_
    refine J.nilCheck rfl rfl ?_
    refine J.fieldAddr Ty.fd35_1 rfl rfl ?_
    (first | refine J.loadO Ty.a3 rfl (.head _) rfl rfl ?_ | refine J.loadO Ty.a3 rfl (.tail _ (.head _)) rfl rfl ?_ | refine J.loadO Ty.a3 rfl (.tail _ (.tail _ (.head _))) rfl rfl ?_ | refine J.loadO Ty.a3 rfl (.tail _ (.tail _ (.tail _ (.head _)))) rfl rfl ?_ | refine J.loadO Ty.a3 rfl (.tail _ (.tail _ (.tail _ (.tail _ (.head _))))) rfl rfl ?_ | refine J.loadO Ty.a3 rfl (List.mem_append_right _ (.head _)) rfl rfl ?_ | refine J.loadO Ty.a3 rfl (List.mem_append_right _ (.tail _ (.head _))) rfl rfl ?_ | refine J.loadO Ty.a3 rfl (List.mem_append_right _ (.tail _ (.tail _ (.head _)))) rfl rfl ?_ | refine J.loadO Ty.a3 rfl (List.mem_append_right _ (.tail _ (.tail _ (.tail _ (.head _))))) rfl rfl ?_ | refine J.loadO Ty.a3 rfl (List.mem_append_right _ (.tail _ (.tail _ (.tail _ (.tail _ (.head _)))))) rfl rfl ?_)
    refine J.bin rfl rfl rfl rfl ?_
    refine J.nil ?_
    refine JX.thenN (hK15 _ _ ?_)
    first | refine JC.condT rfl ?_ | refine JC.cond rfl (fun _ => ?_) (fun h => by first | (exfalso; simp at h; omega) | (simp at h))
    refine JC.region ?_
    refine J.move rfl rfl ?_
    refine J.nilCheck rfl rfl ?_
    refine J.fieldAddr Ty.fd35_1 rfl rfl ?_
    (first | refine J.loadO Ty.a3 rfl (.head _) rfl rfl ?_ | refine J.loadO Ty.a3 rfl (.tail _ (.head _)) rfl rfl ?_ | refine J.loadO Ty.a3 rfl (.tail _ (.tail _ (.head _))) rfl rfl ?_ | refine J.loadO Ty.a3 rfl (.tail _ (.tail _ (.tail _ (.head _)))) rfl rfl ?_ | refine J.loadO Ty.a3 rfl (.tail _ (.tail _ (.tail _ (.tail _ (.head _))))) rfl rfl ?_ | refine J.loadO Ty.a3 rfl (List.mem_append_right _ (.head _)) rfl rfl ?_ | refine J.loadO Ty.a3 rfl (List.mem_append_right _ (.tail _ (.head _))) rfl rfl ?_ | refine J.loadO Ty.a3 rfl (List.mem_append_right _ (.tail _ (.tail _ (.head _)))) rfl rfl ?_ | refine J.loadO Ty.a3 rfl (List.mem_append_right _ (.tail _ (.tail _ (.tail _ (.head _))))) rfl rfl ?_ | refine J.loadO Ty.a3 rfl (List.mem_append_right _ (.tail _ (.tail _ (.tail _ (.tail _ (.head _)))))) rfl rfl ?_)
    (first | refine J.subN rfl rfl (by omega) (by omega) rfl ?_ | refine J.bin rfl rfl rfl rfl ?_)
    refine J.nilCheck rfl rfl ?_
    refine J.fieldAddr Ty.fd35_1 rfl rfl ?_
    (first | refine J.storeO Ty.s3 rfl rfl rfl rfl (by simp [Value.oneCell']) .here (by simp) ?_ | refine J.storeO Ty.s3 rfl rfl rfl rfl (by simp [Value.oneCell']) (.there .here) (by simp) ?_ | refine J.storeO Ty.s3 rfl rfl rfl rfl (by simp [Value.oneCell']) (.there (.there .here)) (by simp) ?_ | refine J.storeO Ty.s3 rfl rfl rfl rfl (by simp [Value.oneCell']) (.there (.there (.there .here))) (by simp) ?_)
    refine J.nil ?_
    refine JX.thenN (hK14 _ _ ?_)
    refine JC.seq (fun K16 hK16 => ?_)
    refine JC.region ?_
    refine J.move rfl rfl ?_
    refine J.nilCheck rfl rfl ?_
    refine J.fieldAddr Ty.fd35_2 rfl rfl ?_
    (first | refine J.loadO Ty.a3 rfl (.head _) rfl rfl ?_ | refine J.loadO Ty.a3 rfl (.tail _ (.head _)) rfl rfl ?_ | refine J.loadO Ty.a3 rfl (.tail _ (.tail _ (.head _))) rfl rfl ?_ | refine J.loadO Ty.a3 rfl (.tail _ (.tail _ (.tail _ (.head _)))) rfl rfl ?_ | refine J.loadO Ty.a3 rfl (.tail _ (.tail _ (.tail _ (.tail _ (.head _))))) rfl rfl ?_ | refine J.loadO Ty.a3 rfl (List.mem_append_right _ (.head _)) rfl rfl ?_ | refine J.loadO Ty.a3 rfl (List.mem_append_right _ (.tail _ (.head _))) rfl rfl ?_ | refine J.loadO Ty.a3 rfl (List.mem_append_right _ (.tail _ (.tail _ (.head _)))) rfl rfl ?_ | refine J.loadO Ty.a3 rfl (List.mem_append_right _ (.tail _ (.tail _ (.tail _ (.head _))))) rfl rfl ?_ | refine J.loadO Ty.a3 rfl (List.mem_append_right _ (.tail _ (.tail _ (.tail _ (.tail _ (.head _)))))) rfl rfl ?_)
    (first | refine J.addN rfl rfl (by omega) (by omega) rfl ?_ | refine J.bin rfl rfl rfl rfl ?_)
    refine J.nilCheck rfl rfl ?_
    refine J.fieldAddr Ty.fd35_2 rfl rfl ?_
    (first | refine J.storeO Ty.s3 rfl rfl rfl rfl (by simp [Value.oneCell']) .here (by simp) ?_ | refine J.storeO Ty.s3 rfl rfl rfl rfl (by simp [Value.oneCell']) (.there .here) (by simp) ?_ | refine J.storeO Ty.s3 rfl rfl rfl rfl (by simp [Value.oneCell']) (.there (.there .here)) (by simp) ?_ | refine J.storeO Ty.s3 rfl rfl rfl rfl (by simp [Value.oneCell']) (.there (.there (.there .here))) (by simp) ?_)
    refine J.nil ?_
    refine JX.thenN (hK16 _ _ ?_)
    refine JC.seq (fun K17 hK17 => ?_)
    refine JC.region ?_
    refine J.assign rfl rfl ?_
    refine J.nil ?_
    refine JX.thenN (hK17 _ _ ?_)
    refine JC.ret ?_
    refine JX.ret1 rfl rfl (fun w hw => ?_)
    rw [wst_all (by omega)] at hw
    exact ⟨rfl, [(q, cb ((put B i.toNat bs).map u8 ++ sp) 5)], ⟨by rw [List.length_map, put_length hB hi2n hbl64]; omega, .inr ⟨q, c0, sp, rfl, rfl, by simp only [List.length_append, List.length_map, put_length hB hi2n hbl64, hB] at hcap ⊢; exact hcap, hnc⟩⟩, hw⟩

end Go.Proofs.Ytlmbpfgiadbjaaa
