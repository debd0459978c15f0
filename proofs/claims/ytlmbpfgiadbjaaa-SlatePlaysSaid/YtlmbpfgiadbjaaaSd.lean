/-
  The document's log is opened.
-/
import Derived.Test.YtlmbpfgiadbjaaaSc
import Derived.Test.YtlmbpfgiadbjaaaRf
namespace Go.Proofs.Ytlmbpfgiadbjaaa
open Go.J Go.RowKit
set_option linter.unusedVariables false
set_option linter.unusedSimpArgs false
set_option maxRecDepth 4000
abbrev rlO (r : Nat) (q : LogP) (down : Bool) : Obj := cb [.pointer (some ⟨r, 0, none⟩), .int .u64 ((q.gen : Nat) : Int), .int .i64 ((q.used : Nat) : Int), .int .i64 ((q.cnt : Nat) : Int), .bool down] 67
structure OpSt2 where
  k : Nat
  at_ : Nat
  out : List (List UInt8)
  vs : List Value
  v9 : Value
  lv : List (Nat × Obj)
  lps : List (Nat × Obj)
  ar : Option Addr
  cr : Nat
abbrev restP (B : List UInt8) (top at_ : Nat) : List UInt8 := (B.drop (64 * at_)).take (64 * (top - at_))
theorem rest_get {B : List UInt8} {top at_ n j : Nat} (hB : B.length = 64 * n) (h1 : at_ ≤ top) (h2 : top ≤ n) (hj : j < 64 * (top - at_)) : ((restP B top at_).map u8)[j]? = some (u8 (B.getD (64 * at_ + j) 0)) := by
  rw [List.getElem?_map, List.getElem?_take_of_lt hj, List.getElem?_drop, List.getD_eq_getElem?_getD, List.getElem?_eq_getElem (by omega)]; rfl
theorem rest_length {B : List UInt8} {top at_ n : Nat} (hB : B.length = 64 * n) (h1 : at_ ≤ top) (h2 : top ≤ n) : (restP B top at_).length = 64 * (top - at_) := by simp; omega
theorem rest_rec {B : List UInt8} {top at_ sz : Nat} (h : sz + 2 ≤ 64 * (top - at_)) : ((restP B top at_).drop 2).take sz = (B.drop (64 * at_ + 2)).take sz := by
  rw [List.drop_take, List.take_take, List.drop_drop, show min sz (64 * (top - at_) - 2) = sz by omega]
theorem rest_more {B : List UInt8} {top at_ m : Nat} : ((restP B top at_).drop (64 * m)) = restP B top (at_ + m) := by
  rw [List.drop_take, List.drop_drop]
  congr 1
  · omega
  · congr 1; omega

theorem size_lt (B : List UInt8) (at_ : Nat) : sizeAt B at_ < 65536 := by
  unfold sizeAt
  have := UInt8.toNat_lt (B.getD (64 * at_) 0)
  have := UInt8.toNat_lt (B.getD (64 * at_ + 1) 0)
  omega

theorem ropen_spec (r n : Nat) (v : Value) (lp : List (Nat × Obj)) (B : List UInt8) (p k : Int) (w : World) (hw0 : Own w ((r, rfO v p k) :: lp)) (hv : Vec 5 1 v (64 * n) (B.map u8) lp) (hB : B.length = 64 * n) (hn : n ≤ 4096) :
    Calls Try.prog 35 [.pointer (some ⟨r, 0, none⟩)].toArray w fun ρ w' => match openP B n with
      | (e, none) => ρ = .returned (.tuple #[.pointer none, .slice none 0 0, .int .i64 e]) ∧ Below w.heap.size w w'
      | (_, some q) => ∃ (b : Nat) (v : Value) (vs : List Value) (lv lps : List (Nat × Obj)), ρ = .returned (.tuple #[.pointer (some ⟨b, 0, none⟩), v, .int .i64 0]) ∧ Vec 28 1 v q.recs.length vs lv ∧ Recs 5 vs q.recs lps ∧ St w [] ((b, rlO r q false) :: (lv ++ lps)) w' := by
  obtain ⟨a0, c0, rfl, hnc0⟩ := hv.form
  have hrow : Row w (.slice a0 (64 * n) c0) (64 * n) (B.map u8) := hv.row (l := [(r, rfO (.slice a0 (64 * n) c0) p k)]) (hw0.st.perm (by (refine perm_cnt (fun _ => ?_)); simp only [cntB_append, cntB_cons, cntB_nil, Nat.add_zero, Nat.zero_add]; try ac_rfl))
  refine calls_of_J (args := [.pointer (some ⟨r, 0, none⟩)]) (e := [(0, .pointer (some ⟨r, 0, none⟩))]) Try.func35 rfl rfl ⟨rfl, trivial⟩ (St.start w) ?_
  refine JC.seq (fun K0 hK0 => ?_)
  refine JC.region ?_
  refine J.assign rfl rfl ?_
  refine J.assign rfl rfl ?_
  refine J.assign rfl rfl ?_
  refine J.nil ?_
  refine JX.thenN (hK0 _ _ ?_)
  refine JC.seq (fun K1 hK1 => ?_)
  refine JC.region ?_
  refine J.move rfl rfl ?_
  refine J.nilCheck rfl rfl ?_
  refine J.fieldAddr Ty.fd35_0 rfl rfl ?_
  refine J.loadR Ty.a28 rfl (hw0.cell (.head _) rfl) (by simp) rfl ?_
  refine J.lenS rfl Ty.u28 rfl rfl ?_
  refine J.quoN rfl rfl (by omega) (by omega) (by omega) rfl ?_
  refine J.name 19 rfl (congrArg (Value.int .i64) (show ((64 * n : Nat) : Int) / 64 = (n : Int) by omega)) ?_
  refine J.assign rfl rfl ?_
  refine J.nil ?_
  refine JX.thenN (hK1 _ _ ?_)
  refine JC.seq (fun K2 hK2 => ?_)
  refine JC.seq (fun K3 hK3 => ?_)
  refine JC.region ?_
  refine J.move rfl rfl ?_
  refine J.bin rfl rfl rfl rfl ?_
  refine J.nil ?_
  refine JX.thenN (hK3 _ _ ?_)
  refine JC.cond rfl (fun h0 => ?_) (fun h0 => ?_)
  · skip
    have hopen := openP_small (B := B) (show n < 3 by simp at h0; omega)
    refine JC.seq (fun K4 hK4 => ?_)
    refine JC.region ?_
    refine J.assign rfl rfl ?_
    refine J.assign rfl rfl ?_
    refine J.assign rfl rfl ?_
    refine J.nil ?_
    refine JX.thenN (hK4 _ _ ?_)
    refine JC.ret ?_
    refine JX.thenR ?_
    refine JX.ret3 rfl rfl rfl rfl (fun w1 hw => ?_)
    rw [hopen]
    first
    | exact ⟨rfl, hw.below⟩
    | exact ⟨b108, v9, vs, lv, lps, rfl, hol ▸ hvo, hro, hw⟩
  · skip
    have hn3 : ¬ n < 3 := by simp at h0; omega
    obtain ⟨⟨gen, used, cnt_⟩, hbest⟩ : ∃ x, bestP B 2 = x := ⟨_, rfl⟩
    have hgl : gen < 18446744073709551616 := by
      have h1 := bestP_lt B 2
      rw [hbest] at h1
      exact h1
    refine JC.skip ?_
    refine JX.thenN (hK2 _ _ ?_)
    refine JC.seq (fun K5 hK5 => ?_)
    refine JC.region ?_
    refine J.move rfl rfl ?_
    refine J.nilCheck rfl rfl ?_
    refine J.fieldAddr Ty.fd35_0 rfl rfl ?_
    refine J.loadR Ty.a28 rfl (hw0.cell (.head _) rfl) (by simp) rfl ?_
    refine J.callB (v := .tuple #[.int .u64 ((gen : Nat) : Int), .int .u64 ((used : Nat) : Int), .int .u64 ((cnt_ : Nat) : Int)]) (fun w1 w2 hw hb => hw.step hb) Ty.bd41 rfl rfl (fun w1 hw => by
      have h1 := rhead_spec _ (64 * n) B w1 (hrow.st (.inr (by simp)) hw) hB (by omega)
      rw [hbest] at h1
      exact h1) ?_
    refine J.move rfl rfl ?_
    refine J.extract rfl rfl rfl ?_
    refine J.extract rfl rfl rfl ?_
    refine J.extract rfl rfl rfl ?_
    refine J.assign rfl rfl ?_
    refine J.assign rfl rfl ?_
    refine J.assign rfl rfl ?_
    refine J.nil ?_
    refine JX.thenN (hK5 _ _ ?_)
    refine JC.seq (fun K6 hK6 => ?_)
    refine JC.seq (fun K7 hK7 => ?_)
    refine JC.region ?_
    rcases head_cases n (gen, used, cnt_) with hc | ⟨hc0, hc⟩ | ⟨hc0, hc1, hc⟩ | ⟨hc0, hc1, hc2⟩
    · skip
      try simp only at hc
      try simp only at hc0
      try simp only at hc1
      try simp only at hc2
      have hopen := openP_bad (B := B) hn3 (by rw [hbest]; exact .inl hc)
      refine J.move rfl rfl ?_
      refine J.bin rfl rfl rfl rfl ?_
      refine J.bin rfl rfl rfl rfl ?_
      refine J.name 33 rfl (congrArg Value.bool ((shr63 gen hgl).trans (decide_eq_true hc))) ?_
      refine J.move rfl rfl ?_
      first
        | (refine J.skip rfl rfl rfl rfl rfl ?_)
        | (refine J.skipU rfl rfl rfl rfl ?_)
        | (refine J.unguard rfl rfl rfl ?_; refine J.move rfl rfl ?_)
      first
        | (refine J.skip rfl rfl rfl rfl rfl ?_)
        | (refine J.skipU rfl rfl rfl rfl ?_)
        | (refine J.unguard rfl rfl rfl ?_; refine J.move rfl rfl ?_)
      first
        | (refine J.skip rfl rfl rfl rfl rfl ?_)
        | (refine J.skipU rfl rfl rfl rfl ?_)
        | (refine J.unguard rfl rfl rfl ?_; (first | refine J.subN rfl rfl (by omega) (by omega) rfl ?_ | refine J.bin rfl rfl rfl rfl ?_))
      first
        | (refine J.skip rfl rfl rfl rfl rfl ?_)
        | (refine J.skipU rfl rfl rfl rfl ?_)
        | (refine J.unguard rfl rfl rfl ?_; refine J.convInt Ty.u3 Ty.u65 rfl rfl ?_)
      first
        | (refine J.skip rfl rfl rfl rfl rfl ?_)
        | (refine J.skipU rfl rfl rfl rfl ?_)
        | (refine J.unguard rfl rfl rfl ?_; refine J.bin rfl rfl rfl rfl ?_)
      (first | refine J.pickT rfl rfl rfl ?_ | refine J.pickF rfl rfl rfl ?_)
      refine J.move rfl rfl ?_
      first
        | (refine J.skip rfl rfl rfl rfl rfl ?_)
        | (refine J.skipU rfl rfl rfl rfl ?_)
        | (refine J.unguard rfl rfl rfl ?_; refine J.move rfl rfl ?_)
      first
        | (refine J.skip rfl rfl rfl rfl rfl ?_)
        | (refine J.skipU rfl rfl rfl rfl ?_)
        | (refine J.unguard rfl rfl rfl ?_; refine J.move rfl rfl ?_)
      first
        | (refine J.skip rfl rfl rfl rfl rfl ?_)
        | (refine J.skipU rfl rfl rfl rfl ?_)
        | (refine J.unguard rfl rfl rfl ?_; refine J.bin rfl rfl rfl rfl ?_)
      (first | refine J.pickT rfl rfl rfl ?_ | refine J.pickF rfl rfl rfl ?_)
      refine J.nil ?_
      refine JX.thenN (hK7 _ _ ?_)
      first | refine JC.condT rfl ?_ | refine JC.cond rfl (fun _ => ?_) (fun h => by first | (exfalso; simp at h; omega) | (simp at h))
      refine JC.seq (fun K8 hK8 => ?_)
      refine JC.region ?_
      refine J.assign rfl rfl ?_
      refine J.assign rfl rfl ?_
      refine J.assign rfl rfl ?_
      refine J.nil ?_
      refine JX.thenN (hK8 _ _ ?_)
      refine JC.ret ?_
      refine JX.thenR ?_
      refine JX.ret3 rfl rfl rfl rfl (fun w1 hw => ?_)
      rw [hopen]
      first
      | exact ⟨rfl, hw.below⟩
      | exact ⟨b108, v9, vs, lv, lps, rfl, hol ▸ hvo, hro, hw⟩
    · skip
      try simp only at hc
      try simp only at hc0
      try simp only at hc1
      try simp only at hc2
      have hopen := openP_bad (B := B) hn3 (by rw [hbest]; exact .inr (.inl hc))
      refine J.move rfl rfl ?_
      refine J.bin rfl rfl rfl rfl ?_
      refine J.bin rfl rfl rfl rfl ?_
      refine J.name 33 rfl (congrArg Value.bool ((shr63 gen hgl).trans (decide_eq_false hc0))) ?_
      refine J.move rfl rfl ?_
      first
        | (refine J.skip rfl rfl rfl rfl rfl ?_)
        | (refine J.skipU rfl rfl rfl rfl ?_)
        | (refine J.unguard rfl rfl rfl ?_; refine J.move rfl rfl ?_)
      first
        | (refine J.skip rfl rfl rfl rfl rfl ?_)
        | (refine J.skipU rfl rfl rfl rfl ?_)
        | (refine J.unguard rfl rfl rfl ?_; refine J.move rfl rfl ?_)
      first
        | (refine J.skip rfl rfl rfl rfl rfl ?_)
        | (refine J.skipU rfl rfl rfl rfl ?_)
        | (refine J.unguard rfl rfl rfl ?_; (first | refine J.subN rfl rfl (by omega) (by omega) rfl ?_ | refine J.bin rfl rfl rfl rfl ?_))
      refine J.unguard rfl rfl rfl ?_
      refine J.convInt Ty.u3 Ty.u65 rfl rfl ?_
      refine J.name 38 rfl (congrArg (Value.int .u64) (show _ = ((n - 2 : Nat) : Int) by rw [wrap_u64 (by omega) (by omega)]; omega)) ?_
      refine J.unguard rfl rfl rfl ?_
      refine J.bin rfl rfl rfl rfl ?_
      refine J.name 39 rfl (show Value.bool _ = .bool true by simp <;> omega) ?_
      (first | refine J.pickT rfl rfl rfl ?_ | refine J.pickF rfl rfl rfl ?_)
      refine J.move rfl rfl ?_
      first
        | (refine J.skip rfl rfl rfl rfl rfl ?_)
        | (refine J.skipU rfl rfl rfl rfl ?_)
        | (refine J.unguard rfl rfl rfl ?_; refine J.move rfl rfl ?_)
      first
        | (refine J.skip rfl rfl rfl rfl rfl ?_)
        | (refine J.skipU rfl rfl rfl rfl ?_)
        | (refine J.unguard rfl rfl rfl ?_; refine J.move rfl rfl ?_)
      first
        | (refine J.skip rfl rfl rfl rfl rfl ?_)
        | (refine J.skipU rfl rfl rfl rfl ?_)
        | (refine J.unguard rfl rfl rfl ?_; refine J.bin rfl rfl rfl rfl ?_)
      (first | refine J.pickT rfl rfl rfl ?_ | refine J.pickF rfl rfl rfl ?_)
      refine J.nil ?_
      refine JX.thenN (hK7 _ _ ?_)
      first | refine JC.condT rfl ?_ | refine JC.cond rfl (fun _ => ?_) (fun h => by first | (exfalso; simp at h; omega) | (simp at h))
      refine JC.seq (fun K9 hK9 => ?_)
      refine JC.region ?_
      refine J.assign rfl rfl ?_
      refine J.assign rfl rfl ?_
      refine J.assign rfl rfl ?_
      refine J.nil ?_
      refine JX.thenN (hK9 _ _ ?_)
      refine JC.ret ?_
      refine JX.thenR ?_
      refine JX.ret3 rfl rfl rfl rfl (fun w1 hw => ?_)
      rw [hopen]
      first
      | exact ⟨rfl, hw.below⟩
      | exact ⟨b108, v9, vs, lv, lps, rfl, hol ▸ hvo, hro, hw⟩
    · skip
      try simp only at hc
      try simp only at hc0
      try simp only at hc1
      try simp only at hc2
      have hopen := openP_bad (B := B) hn3 (by rw [hbest]; exact .inr (.inr hc))
      refine J.move rfl rfl ?_
      refine J.bin rfl rfl rfl rfl ?_
      refine J.bin rfl rfl rfl rfl ?_
      refine J.name 33 rfl (congrArg Value.bool ((shr63 gen hgl).trans (decide_eq_false hc0))) ?_
      refine J.move rfl rfl ?_
      first
        | (refine J.skip rfl rfl rfl rfl rfl ?_)
        | (refine J.skipU rfl rfl rfl rfl ?_)
        | (refine J.unguard rfl rfl rfl ?_; refine J.move rfl rfl ?_)
      first
        | (refine J.skip rfl rfl rfl rfl rfl ?_)
        | (refine J.skipU rfl rfl rfl rfl ?_)
        | (refine J.unguard rfl rfl rfl ?_; refine J.move rfl rfl ?_)
      first
        | (refine J.skip rfl rfl rfl rfl rfl ?_)
        | (refine J.skipU rfl rfl rfl rfl ?_)
        | (refine J.unguard rfl rfl rfl ?_; (first | refine J.subN rfl rfl (by omega) (by omega) rfl ?_ | refine J.bin rfl rfl rfl rfl ?_))
      refine J.unguard rfl rfl rfl ?_
      refine J.convInt Ty.u3 Ty.u65 rfl rfl ?_
      refine J.name 38 rfl (congrArg (Value.int .u64) (show _ = ((n - 2 : Nat) : Int) by rw [wrap_u64 (by omega) (by omega)]; omega)) ?_
      refine J.unguard rfl rfl rfl ?_
      refine J.bin rfl rfl rfl rfl ?_
      refine J.name 39 rfl (show Value.bool _ = .bool false by simp <;> omega) ?_
      (first | refine J.pickT rfl rfl rfl ?_ | refine J.pickF rfl rfl rfl ?_)
      refine J.move rfl rfl ?_
      first
        | (refine J.skip rfl rfl rfl rfl rfl ?_)
        | (refine J.skipU rfl rfl rfl rfl ?_)
        | (refine J.unguard rfl rfl rfl ?_; refine J.move rfl rfl ?_)
      first
        | (refine J.skip rfl rfl rfl rfl rfl ?_)
        | (refine J.skipU rfl rfl rfl rfl ?_)
        | (refine J.unguard rfl rfl rfl ?_; refine J.move rfl rfl ?_)
      refine J.unguard rfl rfl rfl ?_
      refine J.bin rfl rfl rfl rfl ?_
      refine J.name 44 rfl (show Value.bool _ = .bool true by simp <;> omega) ?_
      (first | refine J.pickT rfl rfl rfl ?_ | refine J.pickF rfl rfl rfl ?_)
      refine J.nil ?_
      refine JX.thenN (hK7 _ _ ?_)
      first | refine JC.condT rfl ?_ | refine JC.cond rfl (fun _ => ?_) (fun h => by first | (exfalso; simp at h; omega) | (simp at h))
      refine JC.seq (fun K10 hK10 => ?_)
      refine JC.region ?_
      refine J.assign rfl rfl ?_
      refine J.assign rfl rfl ?_
      refine J.assign rfl rfl ?_
      refine J.nil ?_
      refine JX.thenN (hK10 _ _ ?_)
      refine JC.ret ?_
      refine JX.thenR ?_
      refine JX.ret3 rfl rfl rfl rfl (fun w1 hw => ?_)
      rw [hopen]
      first
      | exact ⟨rfl, hw.below⟩
      | exact ⟨b108, v9, vs, lv, lps, rfl, hol ▸ hvo, hro, hw⟩
    · skip
      try simp only at hc
      try simp only at hc0
      try simp only at hc1
      try simp only at hc2
      have hgood : ¬ badHead n (gen, used, cnt_) := by unfold badHead; simp only; omega
      have hul : used ≤ 4096 := by omega
      refine J.move rfl rfl ?_
      refine J.bin rfl rfl rfl rfl ?_
      refine J.bin rfl rfl rfl rfl ?_
      refine J.name 33 rfl (congrArg Value.bool ((shr63 gen hgl).trans (decide_eq_false hc0))) ?_
      refine J.move rfl rfl ?_
      first
        | (refine J.skip rfl rfl rfl rfl rfl ?_)
        | (refine J.skipU rfl rfl rfl rfl ?_)
        | (refine J.unguard rfl rfl rfl ?_; refine J.move rfl rfl ?_)
      first
        | (refine J.skip rfl rfl rfl rfl rfl ?_)
        | (refine J.skipU rfl rfl rfl rfl ?_)
        | (refine J.unguard rfl rfl rfl ?_; refine J.move rfl rfl ?_)
      first
        | (refine J.skip rfl rfl rfl rfl rfl ?_)
        | (refine J.skipU rfl rfl rfl rfl ?_)
        | (refine J.unguard rfl rfl rfl ?_; (first | refine J.subN rfl rfl (by omega) (by omega) rfl ?_ | refine J.bin rfl rfl rfl rfl ?_))
      refine J.unguard rfl rfl rfl ?_
      refine J.convInt Ty.u3 Ty.u65 rfl rfl ?_
      refine J.name 38 rfl (congrArg (Value.int .u64) (show _ = ((n - 2 : Nat) : Int) by rw [wrap_u64 (by omega) (by omega)]; omega)) ?_
      refine J.unguard rfl rfl rfl ?_
      refine J.bin rfl rfl rfl rfl ?_
      refine J.name 39 rfl (show Value.bool _ = .bool false by simp <;> omega) ?_
      (first | refine J.pickT rfl rfl rfl ?_ | refine J.pickF rfl rfl rfl ?_)
      refine J.move rfl rfl ?_
      first
        | (refine J.skip rfl rfl rfl rfl rfl ?_)
        | (refine J.skipU rfl rfl rfl rfl ?_)
        | (refine J.unguard rfl rfl rfl ?_; refine J.move rfl rfl ?_)
      first
        | (refine J.skip rfl rfl rfl rfl rfl ?_)
        | (refine J.skipU rfl rfl rfl rfl ?_)
        | (refine J.unguard rfl rfl rfl ?_; refine J.move rfl rfl ?_)
      refine J.unguard rfl rfl rfl ?_
      refine J.bin rfl rfl rfl rfl ?_
      refine J.name 44 rfl (show Value.bool _ = .bool false by simp <;> omega) ?_
      (first | refine J.pickT rfl rfl rfl ?_ | refine J.pickF rfl rfl rfl ?_)
      refine J.nil ?_
      refine JX.thenN (hK7 _ _ ?_)
      first | refine JC.condF rfl ?_ | refine JC.cond rfl (fun h => by first | (exfalso; simp at h; omega) | (simp at h)) (fun _ => ?_)
      refine JC.skip ?_
      refine JX.thenN (hK6 _ _ ?_)
      refine JC.seq (fun K11 hK11 => ?_)
      refine JC.region ?_
      refine J.assign rfl rfl ?_
      refine J.nil ?_
      refine JX.thenN (hK11 _ _ ?_)
      refine JC.seq (fun K12 hK12 => ?_)
      refine JC.region ?_
      refine J.move rfl rfl ?_
      refine J.nilCheck rfl rfl ?_
      refine J.fieldAddr Ty.fd35_0 rfl rfl ?_
      refine J.loadR Ty.a28 rfl (hw0.cell (.head _) rfl) (by simp) rfl ?_
      refine J.move rfl rfl ?_
      refine J.convInt Ty.u65 Ty.u3 rfl rfl ?_
      refine J.name 51 rfl (congrArg (Value.int .i64) (show _ = ((used : Nat) : Int) from wrap_i64 (by omega) (by omega))) ?_
      (first | refine J.mulN rfl rfl (by omega) (by omega) rfl ?_ | refine J.bin rfl rfl rfl rfl ?_)
      refine J.addN rfl rfl (by omega) (by omega) rfl ?_
      refine J.name 53 rfl (show Value.int .i64 _ = .int .i64 ((128 + 64 * used : Nat) : Int) by congr 1) ?_
      refine J.sliceS (i := 128) (j := 128 + 64 * used) Ty.el28 Ty.s5 rfl rfl rfl (by simp [bnd]) rfl (by omega) (by omega) (by omega) rfl ?_
      have hrest0 : Row w (.slice (if c0 = 128 then a0 else a0.map (·.add (128 * 1))) (64 * (2 + used - 2)) (c0 - 128)) (64 * (2 + used - 2)) ((restP B (2 + used) 2).map u8) := by
        have h1 := hrow.slice (sz := 1) (i := 128) (j := 128 + 64 * used) (by simp [hB]) (by omega) (by omega)
        rw [Nat.mul_one, ← List.map_drop, ← List.map_take, show (128 + 64 * used - 128) * 1 = 64 * (2 + used - 2) by omega, show 128 + 64 * used - 128 = 64 * (2 + used - 2) by omega] at h1
        exact h1
      rw [show 128 + 64 * used - 128 = 64 * (2 + used - 2) by omega]
      refine J.assign rfl rfl ?_
      refine J.nil ?_
      refine JX.thenN (hK12 _ _ ?_)
      refine JC.seq (fun K13 hK13 => ?_)
      refine JC.seq (fun K14 hK14 => ?_)
      refine JC.region ?_
      refine J.assign rfl rfl ?_
      refine J.nil ?_
      refine JX.thenN (hK14 _ _ ?_)
      refine JC.block ?_
      refine JC.conseq (JC.cov (f := (fun st => [(0, .pointer (some ⟨r, 0, none⟩)), (5, .int .i64 ((n : Nat) : Int)), (6, .int .u64 ((gen : Nat) : Int)), (7, .int .u64 ((used : Nat) : Int)), (8, .int .u64 ((cnt_ : Nat) : Int)), (9, st.v9), (10, .slice st.ar (64 * (2 + used - st.at_)) st.cr), (11, .int .u64 ((st.k : Nat) : Int))]) (⟨0, 2, [], [], .slice none 0 0, [], [], if c0 = 128 then a0 else a0.map (·.add (128 * 1)), c0 - 128⟩ : OpSt2)) ⟨rfl, rfl, rfl, rfl, rfl, rfl, rfl, rfl, trivial⟩ (JC.loop (α := OpSt2) (fun st => [(0, .pointer (some ⟨r, 0, none⟩)), (5, .int .i64 ((n : Nat) : Int)), (6, .int .u64 ((gen : Nat) : Int)), (7, .int .u64 ((used : Nat) : Int)), (8, .int .u64 ((cnt_ : Nat) : Int)), (9, st.v9), (10, .slice st.ar (64 * (2 + used - st.at_)) st.cr), (11, .int .u64 ((st.k : Nat) : Int))]) (fun st w' => (st.k ≤ cnt_ ∧ 2 ≤ st.at_ ∧ st.at_ ≤ 2 + used ∧ st.out.length = st.k ∧ Vec 28 1 st.v9 st.k st.vs st.lv ∧ Recs 5 st.vs st.out st.lps ∧ parseS B (2 + used) cnt_ 2 = (parseS B (2 + used) (cnt_ - st.k) st.at_).map (st.out ++ ·) ∧ Row w (.slice st.ar (64 * (2 + used - st.at_)) st.cr) (64 * (2 + used - st.at_)) ((restP B (2 + used) st.at_).map u8)) ∧ St w [] (st.lv ++ st.lps) w') (fun st => cnt_ - st.k) (⟨0, 2, [], [], .slice none 0 0, [], [], if c0 = 128 then a0 else a0.map (·.add (128 * 1)), c0 - 128⟩ : OpSt2) (fun st => ?_))) (fun w hw => ⟨⟨Nat.zero_le _, Nat.le_refl _, by show 2 ≤ 2 + used; omega, rfl, Vec.nil _ _, .nil, by simp, hrest0⟩, hw⟩)
      obtain ⟨k1, at_, out, vs, v9, lv, lps, ar, cr⟩ := st
      refine JC.pr (fun hx => ?_)
      obtain ⟨hk, hat, hat2, hol, hvo, hro, hpar, hrest⟩ := hx
      simp only at hk hat hat2 hol hvo hro hpar hrest ⊢
      refine JC.seq (fun K15 hK15 => ?_)
      refine JC.seq (fun K16 hK16 => ?_)
      refine JC.region ?_
      refine J.move rfl rfl ?_
      refine J.move rfl rfl ?_
      refine J.bin rfl rfl rfl rfl ?_
      refine J.nil ?_
      refine JX.thenN (hK16 _ _ ?_)
      refine JC.cond rfl (fun h2 => ?_) (fun h2 => ?_)
      · skip
        have hlt : k1 < cnt_ := by simp at h2; omega
        have hsuc : cnt_ - k1 = (cnt_ - (k1 + 1)) + 1 := by omega
        refine JC.skip ?_
        refine JX.thenN (hK15 _ _ ?_)
        refine JC.seq (fun K17 hK17 => ?_)
        refine JC.block ?_
        refine JC.seq (fun K18 hK18 => ?_)
        refine JC.seq (fun K19 hK19 => ?_)
        refine JC.region ?_
        refine J.move rfl rfl ?_
        refine J.lenS rfl Ty.u28 rfl rfl ?_
        refine J.bin rfl rfl rfl rfl ?_
        refine J.nil ?_
        refine JX.thenN (hK19 _ _ ?_)
        refine JC.cond rfl (fun h3 => ?_) (fun h3 => ?_)
        · skip
          have hopen := openP_none (B := B) hn3 hbest (by rw [hpar, hsuc, parseS, if_pos (by simp at h3; omega)]; rfl)
          refine JC.seq (fun K20 hK20 => ?_)
          refine JC.region ?_
          refine J.assign rfl rfl ?_
          refine J.assign rfl rfl ?_
          refine J.assign rfl rfl ?_
          refine J.nil ?_
          refine JX.thenN (hK20 _ _ ?_)
          refine JC.ret ?_
          refine JX.thenR ?_
          refine JX.blockR ?_
          refine JX.thenR ?_
          refine JX.thenR ?_
          refine JX.blockR ?_
          refine JX.thenR ?_
          refine JX.ret3 rfl rfl rfl rfl (fun w1 hw => ?_)
          rw [hopen]
          first
          | exact ⟨rfl, hw.below⟩
          | exact ⟨b108, v9, vs, lv, lps, rfl, hol ▸ hvo, hro, hw⟩
        · skip
          have hlt5 : at_ < 2 + used := by simp at h3; omega
          have hrel := rest_length (top := 2 + used) (at_ := at_) hB (by omega) (by omega)
          obtain ⟨qb, qo, c', hqe, hcr, hcl⟩ := Row.some hrest (by rw [List.length_map, hrel]; omega)
          simp only [Value.slice.injEq, true_and] at hqe
          obtain ⟨rfl, rfl⟩ := hqe
          refine JC.skip ?_
          refine JX.thenN (hK18 _ _ ?_)
          refine JC.seq (fun K21 hK21 => ?_)
          apply JC.drawL 10 [Eqv _, Eqv _, Eqv _, Eqv _, Eqv _, Eqv _, Eqv _, Eqv _, Eqv _, Eqv _] Ty.mixed rfl rfl rfl (by kernel_rfl) rfl rfl (fun w w' hw hb => hw.step hb) ⟨fun _ _ _ h _ => h, fun _ _ _ h _ => h, fun _ _ _ h _ => h, fun _ _ _ h _ => h, fun _ _ _ h _ => h, fun _ _ _ h _ => h, fun _ _ _ h _ => h, fun _ _ _ h _ => h, fun _ _ _ h _ => h, fun _ _ _ h _ => h, trivial⟩ ?hstep ?htail
          case hstep =>
            refine ⟨fun wi => ?_, fun wi => ?_, fun wi => ?_, fun wi => ?_, fun wi => ?_, fun wi => ?_, fun wi => ?_, fun wi => ?_, fun wi => ?_, fun wi => ?_, trivial⟩
            · skip
              refine Fin.nil ?_
              refine J.move rfl rfl ?_
              refine J.nil (JX.fin rfl (fun w hw => ⟨rfl, (by rw [hw.1]; exact Below.refl _ _)⟩))
            · skip
              refine Fin.cons (fun v14_0 => ?_)
              refine Fin.nil ?_
              refine J.prE (fun h => ?_); subst h
              refine J.indexAddrS Ty.el28 Ty.s5 rfl rfl (by omega) (by omega) rfl ?_
              refine J.nil (JX.fin rfl (fun w hw => ⟨rfl, (by rw [hw.1]; exact Below.refl _ _)⟩))
            · skip
              refine Fin.cons (fun v14_1 => ?_)
              refine Fin.nil ?_
              refine J.prE (fun h => ?_); subst h
              refine J.load1 (v := u8 (B.getD (64 * at_) 0)) Ty.a5 rfl (fun w1 hw => (hcl.st (by rw [List.length_map, hrel]; omega) hw.2).get (rest_get hB (by omega) (by omega) (j := 0) (by omega)) (by simp)) rfl ?_
              refine J.nil (JX.fin rfl (fun w hw => ⟨rfl, (by rw [hw.1]; exact Below.refl _ _)⟩))
            · skip
              refine Fin.cons (fun v14_2 => ?_)
              refine Fin.nil ?_
              refine J.prE (fun h => ?_); subst h
              refine J.convInt Ty.u5 Ty.u3 rfl rfl ?_
              refine J.name 66 rfl (congrArg (Value.int .i64) (show _ = (((B.getD (64 * at_) 0).toNat : Nat) : Int) from wrap_i64 (by omega) (by have := UInt8.toNat_lt (B.getD (64 * at_) 0); omega))) ?_
              refine J.nil (JX.fin rfl (fun w hw => ⟨rfl, (by rw [hw.1]; exact Below.refl _ _)⟩))
            · skip
              refine Fin.cons (fun v14_3 => ?_)
              refine Fin.nil ?_
              refine J.prE (fun h => ?_); subst h
              refine J.mulN rfl rfl (by omega) (by have := UInt8.toNat_lt (B.getD (64 * at_) 0); omega) rfl ?_
              refine J.nil (JX.fin rfl (fun w hw => ⟨rfl, (by rw [hw.1]; exact Below.refl _ _)⟩))
            · skip
              refine Fin.nil ?_
              refine J.move rfl rfl ?_
              refine J.nil (JX.fin rfl (fun w hw => ⟨rfl, (by rw [hw.1]; exact Below.refl _ _)⟩))
            · skip
              refine Fin.cons (fun v14_5 => ?_)
              refine Fin.nil ?_
              refine J.prE (fun h => ?_); subst h
              refine J.indexAddrS Ty.el28 Ty.s5 rfl rfl (by omega) (by omega) rfl ?_
              refine J.nil (JX.fin rfl (fun w hw => ⟨rfl, (by rw [hw.1]; exact Below.refl _ _)⟩))
            · skip
              refine Fin.cons (fun v14_6 => ?_)
              refine Fin.nil ?_
              refine J.prE (fun h => ?_); subst h
              refine J.load1 (v := u8 (B.getD (64 * at_ + 1) 0)) Ty.a5 rfl (fun w1 hw => (hcl.st (by rw [List.length_map, hrel]; omega) hw.2).get (rest_get hB (by omega) (by omega) (j := 1) (by omega)) (by simp)) rfl ?_
              refine J.nil (JX.fin rfl (fun w hw => ⟨rfl, (by rw [hw.1]; exact Below.refl _ _)⟩))
            · skip
              refine Fin.cons (fun v14_7 => ?_)
              refine Fin.nil ?_
              refine J.prE (fun h => ?_); subst h
              refine J.convInt Ty.u5 Ty.u3 rfl rfl ?_
              refine J.name 71 rfl (congrArg (Value.int .i64) (show _ = (((B.getD (64 * at_ + 1) 0).toNat : Nat) : Int) from wrap_i64 (by omega) (by have := UInt8.toNat_lt (B.getD (64 * at_ + 1) 0); omega))) ?_
              refine J.nil (JX.fin rfl (fun w hw => ⟨rfl, (by rw [hw.1]; exact Below.refl _ _)⟩))
            · skip
              refine Fin.cons (fun v14_4 => ?_)
              refine Fin.cons (fun v14_8 => ?_)
              refine Fin.nil ?_
              refine J.prE (fun h => ?_); subst h
              refine J.prE (fun h => ?_); subst h
              refine J.addN rfl rfl (by omega) (by have := UInt8.toNat_lt (B.getD (64 * at_) 0); have := UInt8.toNat_lt (B.getD (64 * at_ + 1) 0); omega) rfl ?_
              refine J.name 72 rfl (show _ = Value.int .i64 ((sizeAt B at_ : Nat) : Int) by unfold sizeAt; congr 1) ?_
              refine J.nil (JX.fin rfl (fun w hw => ⟨rfl, (by rw [hw.1]; exact Below.refl _ _)⟩))
          case htail =>
            refine Fin.cons (fun v14_0 => ?_)
            refine Fin.cons (fun v14_1 => ?_)
            refine Fin.cons (fun v14_2 => ?_)
            refine Fin.cons (fun v14_3 => ?_)
            refine Fin.cons (fun v14_4 => ?_)
            refine Fin.cons (fun v14_5 => ?_)
            refine Fin.cons (fun v14_6 => ?_)
            refine Fin.cons (fun v14_7 => ?_)
            refine Fin.cons (fun v14_8 => ?_)
            refine Fin.cons (fun v14_9 => ?_)
            refine Fin.nil ?_
            refine J.prE (fun h => ?_); subst h
            refine J.prE (fun h => ?_); subst h
            refine J.prE (fun h => ?_); subst h
            refine J.prE (fun h => ?_); subst h
            refine J.prE (fun h => ?_); subst h
            refine J.prE (fun h => ?_); subst h
            refine J.prE (fun h => ?_); subst h
            refine J.prE (fun h => ?_); subst h
            refine J.prE (fun h => ?_); subst h
            refine J.prE (fun h => ?_); subst h
            refine J.assign rfl rfl ?_
            refine J.nil ?_
            refine JX.thenN (hK21 _ _ ?_)
            refine JC.seq (fun K22 hK22 => ?_)
            refine JC.region ?_
            have hszb := size_lt B at_
            refine J.move rfl rfl ?_
            (first | refine J.addN rfl rfl (by omega) (by omega) rfl ?_ | refine J.bin rfl rfl rfl rfl ?_)
            (first | refine J.addN rfl rfl (by omega) (by omega) rfl ?_ | refine J.bin rfl rfl rfl rfl ?_)
            (first | refine J.quoN rfl rfl (by omega) (by omega) (by omega) rfl ?_ | refine J.bin rfl rfl rfl rfl ?_)
            refine J.mulN rfl rfl (by omega) (by omega) rfl ?_
            refine J.name 77 rfl (congrArg (Value.int .i64) (show _ = ((64 * needN (sizeAt B at_) : Nat) : Int) by unfold needN; omega)) ?_
            refine J.assign rfl rfl ?_
            refine J.nil ?_
            refine JX.thenN (hK22 _ _ ?_)
            refine JC.seq (fun K23 hK23 => ?_)
            refine JC.seq (fun K24 hK24 => ?_)
            refine JC.region ?_
            rcases size_cases (sizeAt B at_) (2 + used) at_ with hc | ⟨hz1, hc⟩ | ⟨hz1, hz2⟩
            · skip
              have hopen := openP_none (B := B) hn3 hbest (by rw [hpar, hsuc, parseS, if_neg (by omega), if_pos (.inl hc)]; rfl)
              refine J.move rfl rfl ?_
              refine J.bin rfl rfl rfl rfl ?_
              refine J.name 79 rfl (show Value.bool _ = .bool true by simp <;> omega) ?_
              refine J.move rfl rfl ?_
              first
                | (refine J.skip rfl rfl rfl rfl rfl ?_)
                | (refine J.skipU rfl rfl rfl rfl ?_)
                | (refine J.unguard rfl rfl rfl ?_; refine J.move rfl rfl ?_)
              first
                | (refine J.skip rfl rfl rfl rfl rfl ?_)
                | (refine J.skipU rfl rfl rfl rfl ?_)
                | (refine J.unguard rfl rfl rfl ?_; refine J.move rfl rfl ?_)
              first
                | (refine J.skip rfl rfl rfl rfl rfl ?_)
                | (refine J.skipU rfl rfl rfl rfl ?_)
                | (refine J.unguard rfl rfl rfl ?_; refine J.lenS rfl Ty.u28 rfl rfl ?_)
              first
                | (refine J.skip rfl rfl rfl rfl rfl ?_)
                | (refine J.skipU rfl rfl rfl rfl ?_)
                | (refine J.unguard rfl rfl rfl ?_; refine J.bin rfl rfl rfl rfl ?_)
              (first | refine J.pickT rfl rfl rfl ?_ | refine J.pickF rfl rfl rfl ?_)
              refine J.nil ?_
              refine JX.thenN (hK24 _ _ ?_)
              first | refine JC.condT rfl ?_ | refine JC.cond rfl (fun _ => ?_) (fun h => by first | (exfalso; simp at h; omega) | (simp at h))
              refine JC.seq (fun K25 hK25 => ?_)
              refine JC.region ?_
              refine J.assign rfl rfl ?_
              refine J.assign rfl rfl ?_
              refine J.assign rfl rfl ?_
              refine J.nil ?_
              refine JX.thenN (hK25 _ _ ?_)
              refine JC.ret ?_
              refine JX.thenR ?_
              refine JX.blockR ?_
              refine JX.thenR ?_
              refine JX.thenR ?_
              refine JX.blockR ?_
              refine JX.thenR ?_
              refine JX.ret3 rfl rfl rfl rfl (fun w1 hw => ?_)
              rw [hopen]
              first
              | exact ⟨rfl, hw.below⟩
              | exact ⟨b108, v9, vs, lv, lps, rfl, hol ▸ hvo, hro, hw⟩
            · skip
              have hopen := openP_none (B := B) hn3 hbest (by rw [hpar, hsuc, parseS, if_neg (by omega), if_pos (.inr hc)]; rfl)
              refine J.move rfl rfl ?_
              refine J.bin rfl rfl rfl rfl ?_
              refine J.name 79 rfl (show Value.bool _ = .bool false by simp <;> omega) ?_
              refine J.move rfl rfl ?_
              first
                | (refine J.skip rfl rfl rfl rfl rfl ?_)
                | (refine J.skipU rfl rfl rfl rfl ?_)
                | (refine J.unguard rfl rfl rfl ?_; refine J.move rfl rfl ?_)
              first
                | (refine J.skip rfl rfl rfl rfl rfl ?_)
                | (refine J.skipU rfl rfl rfl rfl ?_)
                | (refine J.unguard rfl rfl rfl ?_; refine J.move rfl rfl ?_)
              first
                | (refine J.skip rfl rfl rfl rfl rfl ?_)
                | (refine J.skipU rfl rfl rfl rfl ?_)
                | (refine J.unguard rfl rfl rfl ?_; refine J.lenS rfl Ty.u28 rfl rfl ?_)
              refine J.unguard rfl rfl rfl ?_
              refine J.bin rfl rfl rfl rfl ?_
              refine J.name 84 rfl (show Value.bool _ = .bool true by simp <;> omega) ?_
              (first | refine J.pickT rfl rfl rfl ?_ | refine J.pickF rfl rfl rfl ?_)
              refine J.nil ?_
              refine JX.thenN (hK24 _ _ ?_)
              first | refine JC.condT rfl ?_ | refine JC.cond rfl (fun _ => ?_) (fun h => by first | (exfalso; simp at h; omega) | (simp at h))
              refine JC.seq (fun K26 hK26 => ?_)
              refine JC.region ?_
              refine J.assign rfl rfl ?_
              refine J.assign rfl rfl ?_
              refine J.assign rfl rfl ?_
              refine J.nil ?_
              refine JX.thenN (hK26 _ _ ?_)
              refine JC.ret ?_
              refine JX.thenR ?_
              refine JX.blockR ?_
              refine JX.thenR ?_
              refine JX.thenR ?_
              refine JX.blockR ?_
              refine JX.thenR ?_
              refine JX.ret3 rfl rfl rfl rfl (fun w1 hw => ?_)
              rw [hopen]
              first
              | exact ⟨rfl, hw.below⟩
              | exact ⟨b108, v9, vs, lv, lps, rfl, hol ▸ hvo, hro, hw⟩
            · skip
              have hnb := @need_bounds (sizeAt B at_)
              have hrl : ((B.drop (64 * at_ + 2)).take (sizeAt B at_)).length = sizeAt B at_ := by simp; omega
              refine J.move rfl rfl ?_
              refine J.bin rfl rfl rfl rfl ?_
              refine J.name 79 rfl (show Value.bool _ = .bool false by simp <;> omega) ?_
              refine J.move rfl rfl ?_
              first
                | (refine J.skip rfl rfl rfl rfl rfl ?_)
                | (refine J.skipU rfl rfl rfl rfl ?_)
                | (refine J.unguard rfl rfl rfl ?_; refine J.move rfl rfl ?_)
              first
                | (refine J.skip rfl rfl rfl rfl rfl ?_)
                | (refine J.skipU rfl rfl rfl rfl ?_)
                | (refine J.unguard rfl rfl rfl ?_; refine J.move rfl rfl ?_)
              first
                | (refine J.skip rfl rfl rfl rfl rfl ?_)
                | (refine J.skipU rfl rfl rfl rfl ?_)
                | (refine J.unguard rfl rfl rfl ?_; refine J.lenS rfl Ty.u28 rfl rfl ?_)
              refine J.unguard rfl rfl rfl ?_
              refine J.bin rfl rfl rfl rfl ?_
              refine J.name 84 rfl (show Value.bool _ = .bool false by simp <;> omega) ?_
              (first | refine J.pickT rfl rfl rfl ?_ | refine J.pickF rfl rfl rfl ?_)
              refine J.nil ?_
              refine JX.thenN (hK24 _ _ ?_)
              first | refine JC.condF rfl ?_ | refine JC.cond rfl (fun h => by first | (exfalso; simp at h; omega) | (simp at h)) (fun _ => ?_)
              refine JC.skip ?_
              refine JX.thenN (hK23 _ _ ?_)
              refine JC.seq (fun K27 hK27 => ?_)
              refine JC.region ?_
              refine J.move rfl rfl ?_
              refine J.buildSl Ty.el28 Ty.s5 Ty.z5 rfl rfl rfl rfl rfl rfl rfl (fun b87 => ?_)
              refine J.move rfl rfl ?_
              refine J.move rfl rfl ?_
              refine J.addN rfl rfl (by omega) (by omega) rfl ?_
              refine J.name 90 rfl (show Value.int .i64 _ = .int .i64 ((2 + sizeAt B at_ : Nat) : Int) by congr 1) ?_
              refine J.sliceS (i := 2) (j := 2 + sizeAt B at_) Ty.el28 Ty.s5 rfl rfl rfl (by simp [bnd]) rfl (by omega) (by omega) (by omega) rfl ?_
              refine J.append (lp := [(b87, cb [] 5)]) (xs := []) (ys := ((B.drop (64 * at_ + 2)).take (sizeAt B at_)).map u8) (k := 0) (m := 2 + sizeAt B at_ - 2) Ty.el28 Ty.s5 Ty.b5 Ty.z5 rfl (.inl ⟨5, Ty.u28⟩) rfl rfl ⟨rfl, .inr ⟨b87, 0, [], rfl, rfl, rfl, Nat.le_refl _⟩⟩ (fun w1 hw => .inl ?_) (by rw [List.length_map, hrl]; omega) (one_u8 _) (by omega) (by omega) rfl (fun v92 lp92 hv92 => ?_)
              · have h1 := (hrest.st (.inr (by simp)) hw).slice (sz := 1) (i := 2) (j := 2 + sizeAt B at_) (by rw [List.length_map, hrel, Nat.mul_one]) (by omega) (by omega)
                rw [Nat.mul_one, Nat.mul_one, ← List.map_drop, ← List.map_take, show 2 + sizeAt B at_ - 2 = sizeAt B at_ by omega, rest_rec (by omega)] at h1
                rw [show 2 + sizeAt B at_ - 2 = sizeAt B at_ by omega]
                exact h1
              rw [List.nil_append, show 0 + (2 + sizeAt B at_ - 2) = sizeAt B at_ by omega] at hv92
              obtain ⟨a92, c92, rfl, hc92⟩ := hv92.form
              refine J.buildSl Ty.el47 Ty.s28 Ty.z28 rfl rfl rfl rfl rfl rfl rfl (fun b93 => ?_)
              refine J.perm ((b93, cb [.slice a92 (sizeAt B at_) c92] 28) :: (lp92 ++ (lv ++ lps))) (.refl _) ?_
              refine J.perm (lv ++ ([(b93, cb [.slice a92 (sizeAt B at_) c92] 28)] ++ (lp92 ++ lps))) (by (refine perm_cnt (fun _ => ?_)); simp only [cntB_append, cntB_cons, cntB_nil, Nat.add_zero, Nat.zero_add]; try ac_rfl) ?_
              refine J.append (lp := lv) (ys := [.slice a92 (sizeAt B at_) c92]) (m := 1) Ty.el47 Ty.s28 Ty.b28 Ty.z28 rfl (.inl ⟨28, Ty.u47⟩) rfl rfl hvo (fun w1 hw => .inl (Row.own (cs := [.slice a92 (sizeAt B at_) c92]) (tb := 28) (fr := (0, 0)) hw (List.mem_append_right _ (.head _)) rfl (Nat.le_refl _))) rfl (by simp [Value.oneCell']) (by omega) (by omega) rfl (fun v94 lv94 hv94 => ?_)
              have hpar2 : parseS B (2 + used) cnt_ 2 = (parseS B (2 + used) (cnt_ - (k1 + 1)) (at_ + needN (sizeAt B at_))).map (fun x => (out ++ [(B.drop (64 * at_ + 2)).take (sizeAt B at_)]) ++ x) := by
                rw [hpar, hsuc, parseS, if_neg (by omega), if_neg (by omega), Option.map_map]
                congr 1
                funext x
                simp
              refine J.assign rfl rfl ?_
              refine J.nil ?_
              refine JX.thenN (hK27 _ _ ?_)
              refine JC.region ?_
              refine J.move rfl rfl ?_
              refine J.move rfl rfl ?_
              refine J.sliceS (i := 64 * needN (sizeAt B at_)) (j := 64 * (2 + used - at_)) Ty.el28 Ty.s5 rfl rfl rfl (by simp only [bnd]; rw [if_pos (by omega)]; congr 1 <;> omega) rfl (by omega) hrest.cap hrest.cap rfl ?_
              have hrest2 := hrest.slice (sz := 1) (i := 64 * needN (sizeAt B at_)) (j := 64 * (2 + used - at_)) (by rw [List.length_map, hrel, Nat.mul_one]) (by omega) (Nat.le_refl _)
              rw [Nat.mul_one, Nat.mul_one, ← List.map_drop, rest_more, show 64 * (2 + used - at_) - 64 * needN (sizeAt B at_) = 64 * (2 + used - (at_ + needN (sizeAt B at_))) by omega, List.take_of_length_le (by rw [List.length_map, rest_length hB (by omega) (by omega)]; omega)] at hrest2
              rw [show 64 * (2 + used - at_) - 64 * needN (sizeAt B at_) = 64 * (2 + used - (at_ + needN (sizeAt B at_))) by omega, Nat.mul_one]
              refine J.assign rfl rfl ?_
              refine J.nil ?_
              refine JX.blockN ?_
              refine JX.thenN (hK17 _ _ ?_)
              refine JC.region ?_
              refine J.move rfl rfl ?_
              refine J.bin rfl rfl rfl rfl ?_
              refine J.name 59 rfl (congrArg (Value.int .u64) (show _ = ((k1 + 1 : Nat) : Int) from wrap_u64 (by omega) (by omega))) ?_
              refine J.assign rfl rfl ?_
              refine J.nil ?_
              refine JX.thenN ?_
              refine JX.again (⟨k1 + 1, at_ + needN (sizeAt B at_), out ++ [(B.drop (64 * at_ + 2)).take (sizeAt B at_)], vs ++ [.slice a92 (sizeAt B at_) c92], v94, lv94, lps ++ lp92, if cr = 64 * needN (sizeAt B at_) then some ⟨qb, qo, none⟩ else (some ⟨qb, qo, none⟩ : Option Addr).map (·.add (64 * needN (sizeAt B at_))), cr - 64 * needN (sizeAt B at_)⟩ : OpSt2) ?_ ?_ ?_
              · simp only; omega
              · exact ⟨rfl, rfl, rfl, rfl, rfl, rfl, rfl, rfl, trivial⟩
              · exact fun w1 hw => ⟨⟨hlt, by simp only; omega, by simp only; omega, by simp [hol], hv94, .snoc hro (by rw [hrl]; exact hv92), hpar2, hrest2⟩, St.drop (St.perm (l' := [(b93, cb [.slice a92 (sizeAt B at_) c92] 28)] ++ (lv94 ++ (lps ++ lp92))) hw (by (refine perm_cnt (fun _ => ?_)); simp only [cntB_append, cntB_cons, cntB_nil, Nat.add_zero, Nat.zero_add]; try ac_rfl)) (List.sublist_append_right _ _)⟩
      · skip
        obtain rfl : cnt_ = k1 := by simp at h2; omega
        rw [Nat.sub_self] at hpar
        refine JC.exit ?_
        refine JX.thenE ?_
        refine JX.thenE ?_
        refine JX.blockE ?_
        refine JX.thenN (hK13 _ _ ?_)
        refine JC.seq (fun K28 hK28 => ?_)
        refine JC.seq (fun K29 hK29 => ?_)
        refine JC.region ?_
        refine J.move rfl rfl ?_
        refine J.lenS rfl Ty.u28 rfl rfl ?_
        refine J.bin rfl rfl rfl rfl ?_
        refine J.nil ?_
        refine JX.thenN (hK29 _ _ ?_)
        refine JC.cond rfl (fun h5 => ?_) (fun h5 => ?_)
        · skip
          have hopen := openP_none (B := B) hn3 hbest (by rw [hpar, parseS, if_neg (by simp at h5; omega)]; rfl)
          refine JC.seq (fun K30 hK30 => ?_)
          refine JC.region ?_
          refine J.assign rfl rfl ?_
          refine J.assign rfl rfl ?_
          refine J.assign rfl rfl ?_
          refine J.nil ?_
          refine JX.thenN (hK30 _ _ ?_)
          refine JC.ret ?_
          refine JX.thenR ?_
          refine JX.ret3 rfl rfl rfl rfl (fun w1 hw => ?_)
          rw [hopen]
          first
          | exact ⟨rfl, hw.below⟩
          | exact ⟨b108, v9, vs, lv, lps, rfl, hol ▸ hvo, hro, hw⟩
        · skip
          have hopen := openP_some (B := B) hn3 hbest hgood (rs := out) (by rw [hpar, parseS, if_pos (by simp at h5; omega)]; simp)
          refine JC.skip ?_
          refine JX.thenN (hK28 _ _ ?_)
          refine JC.seq (fun K31 hK31 => ?_)
          refine JC.region ?_
          refine J.move rfl rfl ?_
          refine J.move rfl rfl ?_
          refine J.move rfl rfl ?_
          refine J.convInt Ty.u65 Ty.u3 rfl rfl ?_
          refine J.name 104 rfl (congrArg (Value.int .i64) (show _ = ((used : Nat) : Int) from wrap_i64 (by omega) (by omega))) ?_
          refine J.move rfl rfl ?_
          refine J.convInt Ty.u65 Ty.u3 rfl rfl ?_
          refine J.name 106 rfl (congrArg (Value.int .i64) (show _ = ((cnt_ : Nat) : Int) from wrap_i64 (by omega) (by omega))) ?_
          refine J.buildS Ty.pl67 Ty.z67 rfl rfl rfl ?_
          refine J.box rfl rfl rfl (fun b108 => ?_)
          refine J.move rfl rfl ?_
          refine J.assign rfl rfl ?_
          refine J.assign rfl rfl ?_
          refine J.assign rfl rfl ?_
          refine J.nil ?_
          refine JX.thenN (hK31 _ _ ?_)
          refine JC.ret ?_
          refine JX.ret3 rfl rfl rfl rfl (fun w1 hw => ?_)
          rw [hopen]
          first
          | exact ⟨rfl, hw.below⟩
          | exact ⟨b108, v9, vs, lv, lps, rfl, hol ▸ hvo, hro, hw⟩

end Go.Proofs.Ytlmbpfgiadbjaaa
