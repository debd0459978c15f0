/-
  VaultOpens: texts that its proof needs, part 2.
-/
import Derived.Test.YtoaenmlhehcjfaaZVaultOpensa
/-
 Are two lists of bytes one: the document's function; and a log is opened.
-/
namespace Go.Proofs.Ytoaenmlhehcjfaa
open Go.J Go.RowKit
set_option linter.unusedVariables false
set_option linter.unusedSimpArgs false
set_option maxRecDepth 4000
def sizeAt (B : List UInt8) (at_ : Nat) : Nat := (B.getD (64 * at_) 0).toNat * 256 + (B.getD (64 * at_ + 1) 0).toNat
/-- the records that lie in the sectors up to top -/
def parseS (B : List UInt8) (top : Nat) : Nat → Nat → Option (List (List UInt8))
 | 0, at_ => if at_ = top then some [] else none
 | n + 1, at_ => if top ≤ at_ then none else if 1024 < sizeAt B at_ ∨ top - at_ < needN (sizeAt B at_) then none
   else (parseS B top n (at_ + needN (sizeAt B at_))).map (((B.drop (64 * at_ + 2)).take (sizeAt B at_)) :: ·)
structure LogP where
 gen : Nat
 used : Nat
 cnt : Nat
 recs : List (List UInt8)
def badHead (n : Nat) (h : Nat × Nat × Nat) : Prop := 9223372036854775808 ≤ h.1 ∨ n - 2 < h.2.1 ∨ h.2.1 < h.2.2
instance (n : Nat) (h : Nat × Nat × Nat) : Decidable (badHead n h) := by unfold badHead; infer_instance
/-- what opening a log answers -/
def openP (B : List UInt8) (n : Nat) : Int × Option LogP :=
 if n < 3 then (1, none) else
 if badHead n (bestP B 2) then (2, none) else
 match parseS B (2 + (bestP B 2).2.1) (bestP B 2).2.2 2 with
 | none => (2, none)
 | some rs => (0, some ⟨(bestP B 2).1, (bestP B 2).2.1, (bestP B 2).2.2, rs⟩)
abbrev lgO (d : Nat) (q : LogP) (down : Bool) : Obj := cb [.pointer (some ⟨d, 0, none⟩), .int .u64 ((q.gen : Nat) : Int), .int .i64 ((q.used : Nat) : Int), .int .i64 ((q.cnt : Nat) : Int), .bool down] 124
theorem best_two (B : List UInt8) (h : Nat × Nat × Nat) (hh : (if (headP (sec B 0)).1 < (headP (sec B 1)).1 then headP (sec B 1) else headP (sec B 0)) = h) : bestP B 2 = if h.1 = 0 then (0, 0, 0) else h := by
 subst hh
 simp only [bestP]
 by_cases h0 : (headP (sec B 0)).1 = 0
 ·simp only [h0]
  by_cases h1 : (headP (sec B 1)).1 = 0
  ·simp [h1, h0]
  ·simp [h1, show 0 < (headP (sec B 1)).1 by omega]
 ·simp only [show 0 < (headP (sec B 0)).1 by omega, if_true]
  by_cases h1 : (headP (sec B 0)).1 < (headP (sec B 1)).1
  ·simp only [h1, if_true]; rw [if_neg (by omega)]
  ·simp only [h1, if_false]; rw [if_neg h0]
theorem shr63 (g : Nat) (hg : g < 18446744073709551616) : (decide (Int.fdiv ((g : Nat) : Int) (2 ^ (min (63 : Int).toNat IntKind.u64.bits)) > 0)) = decide (9223372036854775808 ≤ g) := by
 have e : ((2 : Int) ^ (min (63 : Int).toNat IntKind.u64.bits)) = 9223372036854775808 := by decide
 rw [e, Int.fdiv_eq_ediv_of_nonneg _ (by omega)]
 by_cases h : 9223372036854775808 ≤ g
 ·rw [decide_eq_true h, decide_eq_true (by omega)]
 ·rw [decide_eq_false h, decide_eq_false (by omega)]
theorem head_cases (n : Nat) (h : Nat × Nat × Nat) : 9223372036854775808 ≤ h.1 ∨ (¬ 9223372036854775808 ≤ h.1 ∧ n - 2 < h.2.1) ∨ (¬ 9223372036854775808 ≤ h.1 ∧ h.2.1 ≤ n - 2 ∧ h.2.1 < h.2.2) ∨ (¬ 9223372036854775808 ≤ h.1 ∧ h.2.1 ≤ n - 2 ∧ h.2.2 ≤ h.2.1) := by omega
theorem openP_small {B : List UInt8} {n : Nat} (h : n < 3) : openP B n = (1, none) := by rw [openP, if_pos h]
theorem openP_bad {B : List UInt8} {n : Nat} (h : ¬ n < 3) (hb : badHead n (bestP B 2)) : openP B n = (2, none) := by rw [openP, if_neg h, if_pos hb]
theorem openP_none {B : List UInt8} {n : Nat} (h : ¬ n < 3) {b : Nat × Nat × Nat} (hh : bestP B 2 = b) (hp : parseS B (2 + b.2.1) b.2.2 2 = none) : openP B n = (2, none) := by
 rw [openP, if_neg h]
 split
 ·rfl
 ·rw [hh, hp]
theorem openP_some {B : List UInt8} {n : Nat} (h : ¬ n < 3) {b : Nat × Nat × Nat} (hh : bestP B 2 = b) (hb : ¬ badHead n b) {rs : List (List UInt8)} (hp : parseS B (2 + b.2.1) b.2.2 2 = some rs) : openP B n = (0, some ⟨b.1, b.2.1, b.2.2, rs⟩) := by
 rw [openP, if_neg h, hh, if_neg hb, hp]
theorem or_i64 (a x : Nat) (ha : a < 256) (hx : x < 256) :
  Value.int .i64 (IntKind.i64.wrap ((BitVec.ofInt 64 ((a * 256 : Nat) : Int) ||| BitVec.ofInt 64 ((x : Nat) : Int)).toNat : Int)) = .int .i64 ((a * 256 + x : Nat) : Int) := by
 rw [or_byte a x hx (by omega), wrap_i64 (by omega) (by omega)]
theorem sec_getD {B : List UInt8} {at_ j : Nat} (hj : j < 64) (h : 64 * at_ + 64 ≤ B.length) : (sec B at_)[j]'(by rw [sec_len64 h]; exact hj) = B.getD (64 * at_ + j) 0 := by
 have e : (sec B at_)[j]? = B[64 * at_ + j]? := by rw [sec, List.getElem?_take_of_lt hj, List.getElem?_drop]
 rw [List.getD_eq_getElem?_getD, ← e, List.getElem?_eq_getElem (by rw [sec_len64 h]; exact hj)]; rfl
theorem size_cases (sz top at_ : Nat) : 1024 < sz ∨ (sz ≤ 1024 ∧ top - at_ < needN sz) ∨ (sz ≤ 1024 ∧ needN sz ≤ top - at_) := by omega
theorem need_bounds {sz : Nat} : 1 ≤ needN sz ∧ sz + 2 ≤ 64 * needN sz ∧ 64 * needN sz ≤ sz + 65 := by unfold needN; omega
theorem sec_more {B : List UInt8} {at_ i : Nat} : (B.drop (64 * at_)).take (64 * i) ++ sec B (at_ + i) = (B.drop (64 * at_)).take (64 * (i + 1)) := by
 rw [sec, show 64 * (i + 1) = 64 * i + 64 by omega, List.take_add, List.drop_drop, show 64 * at_ + 64 * i = 64 * (at_ + i) by omega]
theorem rec_of {B : List UInt8} {at_ m sz : Nat} (h : sz + 2 ≤ 64 * m) : (((B.drop (64 * at_)).take (64 * m)).drop 2).take sz = (B.drop (64 * at_ + 2)).take sz := by
 rw [List.drop_take, List.take_take, List.drop_drop, show min sz (64 * m - 2) = sz by omega]


structure OpSt where
 k : Nat
 at_ : Nat
 out : List (List UInt8)
 vs : List Value
 v15 : Value
 lv : List (Nat × Obj)
 lps : List (Nat × Obj)

theorem bestP_lt (B : List UInt8) : ∀ k, (bestP B k).1 < 18446744073709551616 := by
 intro k
 induction k with
 | zero => simp [bestP]
 | succ k ih => unfold bestP; split; exact (headP_lt _).1; exact ih

theorem open_spec (d s n : Nat) (B : List UInt8) (p k : Int) (w : World) (hw0 : Own w [(d, dkO s n p k), (s, dkS B)]) (hB : B.length = 64 * n) (hn : n ≤ 4096) :
  Calls Try.prog 44 [.pointer (some ⟨d, 0, none⟩)].toArray w fun r w' => match openP B n with
   | (e, none) => r = .returned (.tuple #[.pointer none, .slice none 0 0, .int .i64 e]) ∧ Bel w w'
   | (_, some q) => ∃ (b : Nat) (v : Value) (vs : List Value) (lv lps : List (Nat × Obj)), r = .returned (.tuple #[.pointer (some ⟨b, 0, none⟩), v, .int .i64 0]) ∧ Vec 26 1 v q.recs.length vs lv ∧ Recs 5 vs q.recs lps ∧ St w [] ((b, lgO d q false) :: (lv ++ lps)) w' := by
 refine calls_of_J (args := [.pointer (some ⟨d, 0, none⟩)]) (e := [(0, .pointer (some ⟨d, 0, none⟩))]) Try.func44 rfl rfl ⟨rfl, trivial⟩ (St.start w) ?_; refine JC.seq (fun K0 hK0 => ?_); refine JC.region ?_; refine J.assign rfl rfl ?_; refine J.assign rfl rfl ?_; refine J.assign rfl rfl ?_; refine J.nil ?_; refine JX.thenN (hK0 _ _ ?_); refine JC.seq (fun K1 hK1 => ?_); refine JC.seq (fun K2 hK2 => ?_); refine JC.region ?_; refine J.move rfl rfl ?_; refine J.callB (fun w1 w2 hw hb => hw.step hb) Ty.bd60 rfl rfl (fun w1 hw => size_spec d s n p k w1 (hw0.at hw)) ?_; refine J.bin rfl rfl rfl rfl ?_; refine J.nil ?_; refine JX.thenN (hK2 _ _ ?_); refine JC.cond rfl (fun h0 => ?_) (fun h0 => ?_)
 ·have hopen := openP_small (B := B) (show n < 3 by simp at h0; omega)
  refine JC.seq (fun K3 hK3 => ?_); refine JC.region ?_; refine J.assign rfl rfl ?_; refine J.assign rfl rfl ?_; refine J.assign rfl rfl ?_; refine J.nil ?_; refine JX.thenN (hK3 _ _ ?_); refine JC.ret ?_; refine JX.thenR ?_; refine JX.ret3 rfl rfl rfl rfl (fun w1 hw => ?_)
  rw [hopen]
  first
  | exact ⟨rfl, hw.below⟩
  | exact ⟨b151, v15, vs, lv, lps, rfl, hol ▸ hvo, hro, hw⟩
 ·have hn3 : ¬ n < 3 := by simp at h0; omega
  obtain ⟨h, hh⟩ : ∃ h, (if (headP (sec B 0)).1 < (headP (sec B 1)).1 then headP (sec B 1) else headP (sec B 0)) = h := ⟨_, rfl⟩
  obtain ⟨⟨gen, used, cnt_⟩, hbest⟩ : ∃ x, bestP B 2 = x := ⟨_, rfl⟩
  have hgl : gen < 18446744073709551616 := by
   have h1 := bestP_lt B 2
   rw [hbest] at h1
   exact h1
  refine JC.skip ?_; refine JX.thenN (hK1 _ _ ?_); refine JC.seq (fun K4 hK4 => ?_); refine JC.region ?_; refine J.move rfl rfl ?_; refine J.perm ([] ++ ([])) zp ?_; refine J.callS (l1 := []) Ty.bd61 rfl rfl (fun w1 hw => (read_spec d s n B p k 0 w1 (hw0.at hw) hB (by omega) (by omega)).mono fun _ w2 ⟨x, h1, h2, h3⟩ => ⟨x, h1, h2, St.free (hw0.at hw) h3⟩) (fun x hva => ?_)
  obtain ⟨va, lpa⟩ := x
  simp only at hva ⊢
  refine J.move rfl rfl ?_; refine J.extract rfl rfl rfl ?_; refine J.extract rfl rfl rfl ?_; refine J.assign rfl rfl ?_; refine J.assign rfl rfl ?_; refine J.nil ?_; refine JX.thenN (hK4 _ _ ?_); refine JC.seq (fun K5 hK5 => ?_); refine JC.region ?_; refine J.move rfl rfl ?_; refine J.perm ([] ++ (lpa ++ [])) zp ?_; refine J.callS (l1 := []) Ty.bd61 rfl rfl (fun w1 hw => (read_spec d s n B p k 1 w1 (hw0.at hw) hB (by omega) (by omega)).mono fun _ w2 ⟨x, h1, h2, h3⟩ => ⟨x, h1, h2, St.free (hw0.at hw) h3⟩) (fun x hvb => ?_)
  obtain ⟨vb, lpb⟩ := x
  simp only at hvb ⊢
  refine J.move rfl rfl ?_; refine J.extract rfl rfl rfl ?_; refine J.extract rfl rfl rfl ?_; refine J.assign rfl rfl ?_; refine J.assign rfl rfl ?_; refine J.nil ?_; refine JX.thenN (hK5 _ _ ?_); refine JC.seq (fun K6 hK6 => ?_); refine JC.region ?_; refine J.move rfl rfl ?_; refine J.callB (fun w1 w2 hw hb => hw.step hb) Ty.bd62 rfl rfl (fun w1 hw => head_spec _ (sec B 0) w1 (hva.row (l := lpb) (hw.perm zp)) (sec_len64 (by omega))) ?_; refine J.move rfl rfl ?_; refine J.extract rfl rfl rfl ?_; refine J.extract rfl rfl rfl ?_; refine J.extract rfl rfl rfl ?_; refine J.assign rfl rfl ?_; refine J.assign rfl rfl ?_; refine J.assign rfl rfl ?_; refine J.nil ?_; refine JX.thenN (hK6 _ _ ?_); refine JC.seqCut (α := Unit) (fun _ => [(0, .pointer (some ⟨d, 0, none⟩)), (9, .int .u64 ((h.1 : Nat) : Int)), (10, .int .u64 ((h.2.1 : Nat) : Int)), (11, .int .u64 ((h.2.2 : Nat) : Int))]) (fun _ w' => St w [] [] w') (fun _ => ?_) (fun K7 hK7 => ?_)
  ·refine JC.seqCut (α := Unit) (fun _ => [(0, .pointer (some ⟨d, 0, none⟩)), (9, .int .u64 ((gen : Nat) : Int)), (10, .int .u64 ((used : Nat) : Int)), (11, .int .u64 ((cnt_ : Nat) : Int))]) (fun _ w' => St w [] [] w') (fun _ => ?_) (fun K8 hK8 => ?_)
   ·refine JC.seq (fun K9 hK9 => ?_); refine JC.seq (fun K10 hK10 => ?_); refine JC.region ?_
    rcases head_cases n (gen, used, cnt_) with hc | ⟨hc0, hc⟩ | ⟨hc0, hc1, hc⟩ | ⟨hc0, hc1, hc2⟩
    ·try simp only at hc
     try simp only at hc0
     try simp only at hc1
     try simp only at hc2
     have hopen := openP_bad (B := B) hn3 (by rw [hbest]; exact .inl hc)
     refine J.move rfl rfl ?_; refine J.bin rfl rfl rfl rfl ?_; refine J.bin rfl rfl rfl rfl ?_; refine J.name 58 rfl (congrArg Value.bool ((shr63 gen hgl).trans (decide_eq_true hc))) ?_; refine J.move rfl rfl ?_
     first | refine J.skip rfl rfl rfl rfl rfl ?_ | refine J.skipU rfl rfl rfl rfl ?_ | (refine J.unguard rfl rfl rfl ?_; refine J.move rfl rfl ?_)
     first | refine J.skip rfl rfl rfl rfl rfl ?_ | refine J.skipU rfl rfl rfl rfl ?_ | (refine J.unguard rfl rfl rfl ?_; refine J.move rfl rfl ?_)
     first | refine J.skip rfl rfl rfl rfl rfl ?_ | refine J.skipU rfl rfl rfl rfl ?_ | (refine J.unguard rfl rfl rfl ?_; refine J.callB (fun w1 w2 hw hb => hw.step hb) Ty.bd60 rfl rfl (fun w1 hw => size_spec d s n p k w1 (hw0.at hw)) ?_)
     first | refine J.skip rfl rfl rfl rfl rfl ?_ | refine J.skipU rfl rfl rfl rfl ?_ | (refine J.unguard rfl rfl rfl ?_; (first | refine J.subN rfl rfl (by omega) (by omega) rfl ?_ | refine J.bin rfl rfl rfl rfl ?_))
     first | refine J.skip rfl rfl rfl rfl rfl ?_ | refine J.skipU rfl rfl rfl rfl ?_ | (refine J.unguard rfl rfl rfl ?_; refine J.convInt Ty.u3 Ty.u81 rfl rfl ?_)
     first | refine J.skip rfl rfl rfl rfl rfl ?_ | refine J.skipU rfl rfl rfl rfl ?_ | (refine J.unguard rfl rfl rfl ?_; refine J.bin rfl rfl rfl rfl ?_)
     (first | refine J.pickT rfl rfl rfl ?_ | refine J.pickF rfl rfl rfl ?_)
     refine J.move rfl rfl ?_
     first | refine J.skip rfl rfl rfl rfl rfl ?_ | refine J.skipU rfl rfl rfl rfl ?_ | (refine J.unguard rfl rfl rfl ?_; refine J.move rfl rfl ?_)
     first | refine J.skip rfl rfl rfl rfl rfl ?_ | refine J.skipU rfl rfl rfl rfl ?_ | (refine J.unguard rfl rfl rfl ?_; refine J.move rfl rfl ?_)
     first | refine J.skip rfl rfl rfl rfl rfl ?_ | refine J.skipU rfl rfl rfl rfl ?_ | (refine J.unguard rfl rfl rfl ?_; refine J.bin rfl rfl rfl rfl ?_)
     (first | refine J.pickT rfl rfl rfl ?_ | refine J.pickF rfl rfl rfl ?_)
     refine J.nil ?_; refine JX.thenN (hK10 _ _ ?_)
     first | refine JC.condT rfl ?_ | refine JC.cond rfl (fun _ => ?_) (fun h => by first | (exfalso; simp at h; omega) | (simp at h))
     refine JC.seq (fun K11 hK11 => ?_); refine JC.region ?_; refine J.assign rfl rfl ?_; refine J.assign rfl rfl ?_; refine J.assign rfl rfl ?_; refine J.nil ?_; refine JX.thenN (hK11 _ _ ?_); refine JC.ret ?_; refine JX.thenR ?_; refine JX.ret3 rfl rfl rfl rfl (fun w1 hw => ?_)
     rw [hopen]
     first
     | exact ⟨rfl, hw.below⟩
     | exact ⟨b151, v15, vs, lv, lps, rfl, hol ▸ hvo, hro, hw⟩
    ·try simp only at hc
     try simp only at hc0
     try simp only at hc1
     try simp only at hc2
     have hopen := openP_bad (B := B) hn3 (by rw [hbest]; exact .inr (.inl hc))
     refine J.move rfl rfl ?_; refine J.bin rfl rfl rfl rfl ?_; refine J.bin rfl rfl rfl rfl ?_; refine J.name 58 rfl (congrArg Value.bool ((shr63 gen hgl).trans (decide_eq_false hc0))) ?_; refine J.move rfl rfl ?_
     first | refine J.skip rfl rfl rfl rfl rfl ?_ | refine J.skipU rfl rfl rfl rfl ?_ | (refine J.unguard rfl rfl rfl ?_; refine J.move rfl rfl ?_)
     first | refine J.skip rfl rfl rfl rfl rfl ?_ | refine J.skipU rfl rfl rfl rfl ?_ | (refine J.unguard rfl rfl rfl ?_; refine J.move rfl rfl ?_)
     first | refine J.skip rfl rfl rfl rfl rfl ?_ | refine J.skipU rfl rfl rfl rfl ?_ | (refine J.unguard rfl rfl rfl ?_; refine J.callB (fun w1 w2 hw hb => hw.step hb) Ty.bd60 rfl rfl (fun w1 hw => size_spec d s n p k w1 (hw0.at hw)) ?_)
     first | refine J.skip rfl rfl rfl rfl rfl ?_ | refine J.skipU rfl rfl rfl rfl ?_ | (refine J.unguard rfl rfl rfl ?_; (first | refine J.subN rfl rfl (by omega) (by omega) rfl ?_ | refine J.bin rfl rfl rfl rfl ?_))
     refine J.unguard rfl rfl rfl ?_; refine J.convInt Ty.u3 Ty.u81 rfl rfl ?_; refine J.name 64 rfl (congrArg (Value.int .u64) (show _ = ((n - 2 : Nat) : Int) by rw [wrap_u64 (by omega) (by omega)]; omega)) ?_; refine J.unguard rfl rfl rfl ?_; refine J.bin rfl rfl rfl rfl ?_; refine J.name 65 rfl (show Value.bool _ = .bool true by simp <;> omega) ?_
     (first | refine J.pickT rfl rfl rfl ?_ | refine J.pickF rfl rfl rfl ?_)
     refine J.move rfl rfl ?_
     first | refine J.skip rfl rfl rfl rfl rfl ?_ | refine J.skipU rfl rfl rfl rfl ?_ | (refine J.unguard rfl rfl rfl ?_; refine J.move rfl rfl ?_)
     first | refine J.skip rfl rfl rfl rfl rfl ?_ | refine J.skipU rfl rfl rfl rfl ?_ | (refine J.unguard rfl rfl rfl ?_; refine J.move rfl rfl ?_)
     first | refine J.skip rfl rfl rfl rfl rfl ?_ | refine J.skipU rfl rfl rfl rfl ?_ | (refine J.unguard rfl rfl rfl ?_; refine J.bin rfl rfl rfl rfl ?_)
     (first | refine J.pickT rfl rfl rfl ?_ | refine J.pickF rfl rfl rfl ?_)
     refine J.nil ?_; refine JX.thenN (hK10 _ _ ?_)
     first | refine JC.condT rfl ?_ | refine JC.cond rfl (fun _ => ?_) (fun h => by first | (exfalso; simp at h; omega) | (simp at h))
     refine JC.seq (fun K12 hK12 => ?_); refine JC.region ?_; refine J.assign rfl rfl ?_; refine J.assign rfl rfl ?_; refine J.assign rfl rfl ?_; refine J.nil ?_; refine JX.thenN (hK12 _ _ ?_); refine JC.ret ?_; refine JX.thenR ?_; refine JX.ret3 rfl rfl rfl rfl (fun w1 hw => ?_)
     rw [hopen]
     first
     | exact ⟨rfl, hw.below⟩
     | exact ⟨b151, v15, vs, lv, lps, rfl, hol ▸ hvo, hro, hw⟩
    ·try simp only at hc
     try simp only at hc0
     try simp only at hc1
     try simp only at hc2
     have hopen := openP_bad (B := B) hn3 (by rw [hbest]; exact .inr (.inr hc))
     refine J.move rfl rfl ?_; refine J.bin rfl rfl rfl rfl ?_; refine J.bin rfl rfl rfl rfl ?_; refine J.name 58 rfl (congrArg Value.bool ((shr63 gen hgl).trans (decide_eq_false hc0))) ?_; refine J.move rfl rfl ?_
     first | refine J.skip rfl rfl rfl rfl rfl ?_ | refine J.skipU rfl rfl rfl rfl ?_ | (refine J.unguard rfl rfl rfl ?_; refine J.move rfl rfl ?_)
     first | refine J.skip rfl rfl rfl rfl rfl ?_ | refine J.skipU rfl rfl rfl rfl ?_ | (refine J.unguard rfl rfl rfl ?_; refine J.move rfl rfl ?_)
     first | refine J.skip rfl rfl rfl rfl rfl ?_ | refine J.skipU rfl rfl rfl rfl ?_ | (refine J.unguard rfl rfl rfl ?_; refine J.callB (fun w1 w2 hw hb => hw.step hb) Ty.bd60 rfl rfl (fun w1 hw => size_spec d s n p k w1 (hw0.at hw)) ?_)
     first | refine J.skip rfl rfl rfl rfl rfl ?_ | refine J.skipU rfl rfl rfl rfl ?_ | (refine J.unguard rfl rfl rfl ?_; (first | refine J.subN rfl rfl (by omega) (by omega) rfl ?_ | refine J.bin rfl rfl rfl rfl ?_))
     refine J.unguard rfl rfl rfl ?_; refine J.convInt Ty.u3 Ty.u81 rfl rfl ?_; refine J.name 64 rfl (congrArg (Value.int .u64) (show _ = ((n - 2 : Nat) : Int) by rw [wrap_u64 (by omega) (by omega)]; omega)) ?_; refine J.unguard rfl rfl rfl ?_; refine J.bin rfl rfl rfl rfl ?_; refine J.name 65 rfl (show Value.bool _ = .bool false by simp <;> omega) ?_
     (first | refine J.pickT rfl rfl rfl ?_ | refine J.pickF rfl rfl rfl ?_)
     refine J.move rfl rfl ?_
     first | refine J.skip rfl rfl rfl rfl rfl ?_ | refine J.skipU rfl rfl rfl rfl ?_ | (refine J.unguard rfl rfl rfl ?_; refine J.move rfl rfl ?_)
     first | refine J.skip rfl rfl rfl rfl rfl ?_ | refine J.skipU rfl rfl rfl rfl ?_ | (refine J.unguard rfl rfl rfl ?_; refine J.move rfl rfl ?_)
     refine J.unguard rfl rfl rfl ?_; refine J.bin rfl rfl rfl rfl ?_; refine J.name 70 rfl (show Value.bool _ = .bool true by simp <;> omega) ?_
     (first | refine J.pickT rfl rfl rfl ?_ | refine J.pickF rfl rfl rfl ?_)
     refine J.nil ?_; refine JX.thenN (hK10 _ _ ?_)
     first | refine JC.condT rfl ?_ | refine JC.cond rfl (fun _ => ?_) (fun h => by first | (exfalso; simp at h; omega) | (simp at h))
     refine JC.seq (fun K13 hK13 => ?_); refine JC.region ?_; refine J.assign rfl rfl ?_; refine J.assign rfl rfl ?_; refine J.assign rfl rfl ?_; refine J.nil ?_; refine JX.thenN (hK13 _ _ ?_); refine JC.ret ?_; refine JX.thenR ?_; refine JX.ret3 rfl rfl rfl rfl (fun w1 hw => ?_)
     rw [hopen]
     first
     | exact ⟨rfl, hw.below⟩
     | exact ⟨b151, v15, vs, lv, lps, rfl, hol ▸ hvo, hro, hw⟩
    ·try simp only at hc
     try simp only at hc0
     try simp only at hc1
     try simp only at hc2
     have hgood : ¬ badHead n (gen, used, cnt_) := by unfold badHead; simp only; omega
     have hul : used ≤ 4096 := by omega
     refine J.move rfl rfl ?_; refine J.bin rfl rfl rfl rfl ?_; refine J.bin rfl rfl rfl rfl ?_; refine J.name 58 rfl (congrArg Value.bool ((shr63 gen hgl).trans (decide_eq_false hc0))) ?_; refine J.move rfl rfl ?_
     first | refine J.skip rfl rfl rfl rfl rfl ?_ | refine J.skipU rfl rfl rfl rfl ?_ | (refine J.unguard rfl rfl rfl ?_; refine J.move rfl rfl ?_)
     first | refine J.skip rfl rfl rfl rfl rfl ?_ | refine J.skipU rfl rfl rfl rfl ?_ | (refine J.unguard rfl rfl rfl ?_; refine J.move rfl rfl ?_)
     first | refine J.skip rfl rfl rfl rfl rfl ?_ | refine J.skipU rfl rfl rfl rfl ?_ | (refine J.unguard rfl rfl rfl ?_; refine J.callB (fun w1 w2 hw hb => hw.step hb) Ty.bd60 rfl rfl (fun w1 hw => size_spec d s n p k w1 (hw0.at hw)) ?_)
     first | refine J.skip rfl rfl rfl rfl rfl ?_ | refine J.skipU rfl rfl rfl rfl ?_ | (refine J.unguard rfl rfl rfl ?_; (first | refine J.subN rfl rfl (by omega) (by omega) rfl ?_ | refine J.bin rfl rfl rfl rfl ?_))
     refine J.unguard rfl rfl rfl ?_; refine J.convInt Ty.u3 Ty.u81 rfl rfl ?_; refine J.name 64 rfl (congrArg (Value.int .u64) (show _ = ((n - 2 : Nat) : Int) by rw [wrap_u64 (by omega) (by omega)]; omega)) ?_; refine J.unguard rfl rfl rfl ?_; refine J.bin rfl rfl rfl rfl ?_; refine J.name 65 rfl (show Value.bool _ = .bool false by simp <;> omega) ?_
     (first | refine J.pickT rfl rfl rfl ?_ | refine J.pickF rfl rfl rfl ?_)
     refine J.move rfl rfl ?_
     first | refine J.skip rfl rfl rfl rfl rfl ?_ | refine J.skipU rfl rfl rfl rfl ?_ | (refine J.unguard rfl rfl rfl ?_; refine J.move rfl rfl ?_)
     first | refine J.skip rfl rfl rfl rfl rfl ?_ | refine J.skipU rfl rfl rfl rfl ?_ | (refine J.unguard rfl rfl rfl ?_; refine J.move rfl rfl ?_)
     refine J.unguard rfl rfl rfl ?_; refine J.bin rfl rfl rfl rfl ?_; refine J.name 70 rfl (show Value.bool _ = .bool false by simp <;> omega) ?_
     (first | refine J.pickT rfl rfl rfl ?_ | refine J.pickF rfl rfl rfl ?_)
     refine J.nil ?_; refine JX.thenN (hK10 _ _ ?_)
     first | refine JC.condF rfl ?_ | refine JC.cond rfl (fun h => by first | (exfalso; simp at h; omega) | (simp at h)) (fun _ => ?_)
     refine JC.skip ?_; refine JX.thenN (hK9 _ _ ?_); refine JC.seq (fun K14 hK14 => ?_); refine JC.region ?_; refine J.assign rfl rfl ?_; refine J.nil ?_; refine JX.thenN (hK14 _ _ ?_); refine JC.seq (fun K15 hK15 => ?_); refine JC.region ?_; refine J.assign rfl rfl ?_; refine J.nil ?_; refine JX.thenN (hK15 _ _ ?_); refine JC.seq (fun K16 hK16 => ?_); refine JC.seq (fun K17 hK17 => ?_); refine JC.region ?_; refine J.move rfl rfl ?_; refine J.move rfl rfl ?_; refine J.nil ?_; refine JX.thenN (hK17 _ _ ?_); refine JC.block ?_
     refine JC.conseq (JC.cov (f := (fun st => [(0, .pointer (some ⟨d, 0, none⟩)), (9, .int .u64 ((gen : Nat) : Int)), (10, .int .u64 ((used : Nat) : Int)), (11, .int .u64 ((cnt_ : Nat) : Int)), (15, st.v15), (16, .int .i64 ((st.at_ : Nat) : Int)), (72, .int .u64 ((cnt_ : Nat) : Int)), (73, .int .u64 ((st.k : Nat) : Int))]) (⟨0, 2, [], [], .slice none 0 0, [], []⟩ : OpSt)) ⟨rfl, rfl, rfl, rfl, rfl, rfl, rfl, rfl, trivial⟩ (JC.loop (α := OpSt) (fun st => [(0, .pointer (some ⟨d, 0, none⟩)), (9, .int .u64 ((gen : Nat) : Int)), (10, .int .u64 ((used : Nat) : Int)), (11, .int .u64 ((cnt_ : Nat) : Int)), (15, st.v15), (16, .int .i64 ((st.at_ : Nat) : Int)), (72, .int .u64 ((cnt_ : Nat) : Int)), (73, .int .u64 ((st.k : Nat) : Int))]) (fun st w' => (st.k ≤ cnt_ ∧ 2 ≤ st.at_ ∧ st.at_ ≤ 2 + used ∧ st.out.length = st.k ∧ Vec 26 1 st.v15 st.k st.vs st.lv ∧ Recs 5 st.vs st.out st.lps ∧ parseS B (2 + used) cnt_ 2 = (parseS B (2 + used) (cnt_ - st.k) st.at_).map (st.out ++ ·)) ∧ St w [] (st.lv ++ st.lps) w') (fun st => cnt_ - st.k) (⟨0, 2, [], [], .slice none 0 0, [], []⟩ : OpSt) (fun st => ?_))) (fun w hw => ⟨⟨Nat.zero_le _, Nat.le_refl _, by show 2 ≤ 2 + used; omega, rfl, Vec.nil _ _, .nil, by simp⟩, hw⟩)
     obtain ⟨k1, at_, out, vs, v15, lv, lps⟩ := st
     refine JC.pr (fun hx => ?_)
     obtain ⟨hk, hat, hat2, hol, hvo, hro, hpar⟩ := hx
     simp only at hk hat hat2 hol hvo hro hpar ⊢
     refine JC.seq (fun K18 hK18 => ?_); refine JC.region ?_; refine J.bin rfl rfl rfl rfl ?_; refine J.nil ?_; refine JX.thenN (hK18 _ _ ?_); refine JC.seq (fun K19 hK19 => ?_); refine JC.cond rfl (fun h4 => ?_) (fun h4 => ?_)
     ·have hlt : k1 < cnt_ := by simp at h4; omega
      have hsuc : cnt_ - k1 = (cnt_ - (k1 + 1)) + 1 := by omega
      refine JC.skip ?_; refine JX.thenN (hK19 _ _ ?_); refine JC.seq (fun K20 hK20 => ?_); refine JC.block ?_; refine JC.seq (fun K21 hK21 => ?_); refine JC.seq (fun K22 hK22 => ?_); refine JC.region ?_; refine J.move rfl rfl ?_; refine J.move rfl rfl ?_; refine J.convInt Ty.u81 Ty.u3 rfl rfl ?_; refine J.name 77 rfl (congrArg (Value.int .i64) (show _ = ((used : Nat) : Int) from wrap_i64 (by omega) (by omega))) ?_
      (first | refine J.addN rfl rfl (by omega) (by omega) rfl ?_ | refine J.bin rfl rfl rfl rfl ?_)
      refine J.bin rfl rfl rfl rfl ?_; refine J.nil ?_; refine JX.thenN (hK22 _ _ ?_); refine JC.cond rfl (fun h5 => ?_) (fun h5 => ?_)
      ·have hopen := openP_none (B := B) hn3 hbest (by rw [hpar, hsuc, parseS, if_pos (by simp at h5; omega)]; rfl)
       refine JC.seq (fun K23 hK23 => ?_); refine JC.region ?_; refine J.assign rfl rfl ?_; refine J.assign rfl rfl ?_; refine J.assign rfl rfl ?_; refine J.nil ?_; refine JX.thenN (hK23 _ _ ?_); refine JC.ret ?_; refine JX.thenR ?_; refine JX.blockR ?_; refine JX.thenR ?_; refine JX.thenR ?_; refine JX.blockR ?_; refine JX.thenR ?_; refine JX.ret3 rfl rfl rfl rfl (fun w1 hw => ?_)
       rw [hopen]
       first
       | exact ⟨rfl, hw.below⟩
       | exact ⟨b151, v15, vs, lv, lps, rfl, hol ▸ hvo, hro, hw⟩
      ·have hlt5 : at_ < 2 + used := by simp at h5; omega
       refine JC.skip ?_; refine JX.thenN (hK21 _ _ ?_); refine JC.seq (fun K24 hK24 => ?_); refine JC.region ?_; refine J.move rfl rfl ?_; refine J.move rfl rfl ?_; refine J.perm ([] ++ (lv ++ lps)) zp ?_; refine J.callS (l1 := []) Ty.bd61 rfl rfl (fun w1 hw => (read_spec d s n B p k ((at_ : Nat) : Int) w1 (hw0.at hw) hB (by omega) (by omega)).mono fun _ w2 ⟨x, h1, h2, h3⟩ => ⟨x, h1, h2, St.free (hw0.at hw) h3⟩) (fun x hv84 => ?_)
       obtain ⟨v84, lp84⟩ := x
       simp only at hv84 ⊢
       obtain ⟨a84, c84, rfl, hc84⟩ := hv84.form
       have hsl := sec_len64 (B := B) (k := at_) (by omega)
       obtain ⟨q84, sp84, hq84, rfl, _, _⟩ := hv84.at (j := 0) (by omega)
       subst hq84
       rw [show ((at_ : Nat) : Int).toNat = at_ from rfl] at hv84
       have hv84' : Vec 5 1 (.slice (some ⟨q84, 0, none⟩) 64 c84) (64 * 1) (((B.drop (64 * at_)).take (64 * 1)).map u8) [(q84, cb ((sec B at_).map u8 ++ sp84) 5)] := hv84
       refine J.perm ((q84, cb ((sec B at_).map u8 ++ sp84) 5) :: (lv ++ lps)) zp ?_; refine J.move rfl rfl ?_; refine J.extract rfl rfl rfl ?_; refine J.extract rfl rfl rfl ?_; refine J.assign rfl rfl ?_; refine J.assign rfl rfl ?_; refine J.nil ?_; refine JX.thenN (hK24 _ _ ?_); refine JC.seq (fun K25 hK25 => ?_)
       apply JC.drawL 10 [Eqv (_), Eqv (_), Eqv (_), Eqv (_), Eqv (_), Eqv (_), Eqv (_), Eqv (_), Eqv (_), Eqv (_)] Ty.mixed rfl rfl rfl (by kernel_rfl) rfl rfl (fun w w' hw hb => hw.step hb) ⟨fun _ _ _ h _ => h, fun _ _ _ h _ => h, fun _ _ _ h _ => h, fun _ _ _ h _ => h, fun _ _ _ h _ => h, fun _ _ _ h _ => h, fun _ _ _ h _ => h, fun _ _ _ h _ => h, fun _ _ _ h _ => h, fun _ _ _ h _ => h, trivial⟩ ?hstep ?htail
       case hstep =>
        refine ⟨fun wi => ?_, fun wi => ?_, fun wi => ?_, fun wi => ?_, fun wi => ?_, fun wi => ?_, fun wi => ?_, fun wi => ?_, fun wi => ?_, fun wi => ?_, trivial⟩
        ·refine Fin.nil ?_; refine J.move rfl rfl ?_
         exact J.finP rfl
        ·refine Fin.consE rfl (Fin.nil ?_); refine J.indexAddrS Ty.el26 Ty.s5 rfl rfl (by omega) (by omega) rfl ?_
         exact J.finP rfl
        ·refine Fin.consE rfl (Fin.nil ?_); refine J.load1 (v := u8 ((sec B at_)[0]'(by omega))) Ty.a5 rfl (fun w1 hw => (cell_of (hw.2.own _ (.head _))).trans (at_u8 (j := 0) (by omega))) rfl ?_
         exact J.finP rfl
        ·refine Fin.consE rfl (Fin.nil ?_); refine J.convInt Ty.u5 Ty.u3 rfl rfl ?_; refine J.name 89 rfl (congrArg (Value.int .i64) (show _ = (((B.getD (64 * at_) 0).toNat : Nat) : Int) by rw [sec_getD (by omega) (by omega), Nat.add_zero]; exact wrap_i64 (by omega) (by have := UInt8.toNat_lt (B.getD (64 * at_) 0); omega))) ?_
         exact J.finP rfl
        ·refine Fin.consE rfl (Fin.nil ?_); refine J.bin rfl rfl rfl rfl ?_; refine J.name 90 rfl (congrArg (Value.int .i64) (show _ = (((B.getD (64 * at_) 0).toNat * 256 : Nat) : Int) by have := UInt8.toNat_lt (B.getD (64 * at_) 0); rw [show (2 : Int) ^ (min (8 : Int).toNat IntKind.i64.bits) = 256 from rfl, wrap_i64 (by omega) (by omega)]; omega)) ?_
         exact J.finP rfl
        ·refine Fin.nil ?_; refine J.move rfl rfl ?_
         exact J.finP rfl
        ·refine Fin.consE rfl (Fin.nil ?_); refine J.indexAddrS Ty.el26 Ty.s5 rfl rfl (by omega) (by omega) rfl ?_
         exact J.finP rfl
        ·refine Fin.consE rfl (Fin.nil ?_); refine J.load1 (v := u8 ((sec B at_)[1]'(by omega))) Ty.a5 rfl (fun w1 hw => (cell_of (hw.2.own _ (.head _))).trans (at_u8 (j := 1) (by omega))) rfl ?_
         exact J.finP rfl
        ·refine Fin.consE rfl (Fin.nil ?_); refine J.convInt Ty.u5 Ty.u3 rfl rfl ?_; refine J.name 94 rfl (congrArg (Value.int .i64) (show _ = (((B.getD (64 * at_ + 1) 0).toNat : Nat) : Int) by rw [sec_getD (by omega) (by omega)]; exact wrap_i64 (by omega) (by have := UInt8.toNat_lt (B.getD (64 * at_ + 1) 0); omega))) ?_
         exact J.finP rfl
        ·refine Fin.consE rfl (Fin.consE rfl (Fin.nil ?_))
         refine J.bin rfl rfl rfl rfl ?_; refine J.name 95 rfl (show _ = Value.int .i64 ((sizeAt B at_ : Nat) : Int) from or_i64 _ _ (UInt8.toNat_lt _) (UInt8.toNat_lt _)) ?_
         exact J.finP rfl
       case htail =>
        refine Fin.consE rfl (Fin.consE rfl (Fin.consE rfl (Fin.consE rfl (Fin.consE rfl (Fin.consE rfl (Fin.consE rfl (Fin.consE rfl (Fin.consE rfl (Fin.consE rfl (Fin.nil ?_))))))))))
        refine J.assign rfl rfl ?_; refine J.nil ?_; refine JX.thenN (hK25 _ _ ?_); refine JC.seq (fun K26 hK26 => ?_); refine JC.seq (fun K27 hK27 => ?_); refine JC.region ?_
        rcases size_cases (sizeAt B at_) (2 + used) at_ with hc | ⟨hz1, hc⟩ | ⟨hz1, hz2⟩
        ·have hopen := openP_none (B := B) hn3 hbest (by rw [hpar, hsuc, parseS, if_neg (by omega), if_pos (.inl hc)]; rfl)
         refine J.move rfl rfl ?_; refine J.bin rfl rfl rfl rfl ?_; refine J.name 97 rfl (show Value.bool _ = .bool true by simp <;> omega) ?_; refine J.move rfl rfl ?_
         first | refine J.skip rfl rfl rfl rfl rfl ?_ | refine J.skipU rfl rfl rfl rfl ?_ | (refine J.unguard rfl rfl rfl ?_; refine J.move rfl rfl ?_)
         first | refine J.skip rfl rfl rfl rfl rfl ?_ | refine J.skipU rfl rfl rfl rfl ?_ | (refine J.unguard rfl rfl rfl ?_; refine J.callB (fun w1 w2 hw hb => hw.step hb) Ty.bd63 rfl rfl (fun w1 hw => need_spec (sizeAt B at_) w1 (by omega)) ?_)
         first | refine J.skip rfl rfl rfl rfl rfl ?_ | refine J.skipU rfl rfl rfl rfl ?_ | (refine J.unguard rfl rfl rfl ?_; refine J.move rfl rfl ?_)
         first | refine J.skip rfl rfl rfl rfl rfl ?_ | refine J.skipU rfl rfl rfl rfl ?_ | (refine J.unguard rfl rfl rfl ?_; refine J.convInt Ty.u81 Ty.u3 rfl rfl ?_)
         first | refine J.skip rfl rfl rfl rfl rfl ?_ | refine J.skipU rfl rfl rfl rfl ?_ | (refine J.unguard rfl rfl rfl ?_; (first | refine J.addN rfl rfl (by omega) (by omega) rfl ?_ | refine J.bin rfl rfl rfl rfl ?_))
         first | refine J.skip rfl rfl rfl rfl rfl ?_ | refine J.skipU rfl rfl rfl rfl ?_ | (refine J.unguard rfl rfl rfl ?_; refine J.move rfl rfl ?_)
         first | refine J.skip rfl rfl rfl rfl rfl ?_ | refine J.skipU rfl rfl rfl rfl ?_ | (refine J.unguard rfl rfl rfl ?_; (first | refine J.subN rfl rfl (by omega) (by omega) rfl ?_ | refine J.bin rfl rfl rfl rfl ?_))
         first | refine J.skip rfl rfl rfl rfl rfl ?_ | refine J.skipU rfl rfl rfl rfl ?_ | (refine J.unguard rfl rfl rfl ?_; refine J.bin rfl rfl rfl rfl ?_)
         (first | refine J.pickT rfl rfl rfl ?_ | refine J.pickF rfl rfl rfl ?_)
         refine J.nil ?_; refine JX.thenN (hK27 _ _ ?_)
         first | refine JC.condT rfl ?_ | refine JC.cond rfl (fun _ => ?_) (fun h => by first | (exfalso; simp at h; omega) | (simp at h))
         refine JC.seq (fun K28 hK28 => ?_); refine JC.region ?_; refine J.assign rfl rfl ?_; refine J.assign rfl rfl ?_; refine J.assign rfl rfl ?_; refine J.nil ?_; refine JX.thenN (hK28 _ _ ?_); refine JC.ret ?_; refine JX.thenR ?_; refine JX.blockR ?_; refine JX.thenR ?_; refine JX.thenR ?_; refine JX.blockR ?_; refine JX.thenR ?_; refine JX.ret3 rfl rfl rfl rfl (fun w1 hw => ?_)
         rw [hopen]
         first
         | exact ⟨rfl, hw.below⟩
         | exact ⟨b151, v15, vs, lv, lps, rfl, hol ▸ hvo, hro, hw⟩
        ·have hopen := openP_none (B := B) hn3 hbest (by rw [hpar, hsuc, parseS, if_neg (by omega), if_pos (.inr hc)]; rfl)
         refine J.move rfl rfl ?_; refine J.bin rfl rfl rfl rfl ?_; refine J.name 97 rfl (show Value.bool _ = .bool false by simp <;> omega) ?_; refine J.move rfl rfl ?_
         first | refine J.skip rfl rfl rfl rfl rfl ?_ | refine J.skipU rfl rfl rfl rfl ?_ | (refine J.unguard rfl rfl rfl ?_; refine J.move rfl rfl ?_)
         first | refine J.skip rfl rfl rfl rfl rfl ?_ | refine J.skipU rfl rfl rfl rfl ?_ | (refine J.unguard rfl rfl rfl ?_; refine J.callB (fun w1 w2 hw hb => hw.step hb) Ty.bd63 rfl rfl (fun w1 hw => need_spec (sizeAt B at_) w1 (by omega)) ?_)
         first | refine J.skip rfl rfl rfl rfl rfl ?_ | refine J.skipU rfl rfl rfl rfl ?_ | (refine J.unguard rfl rfl rfl ?_; refine J.move rfl rfl ?_)
         refine J.unguard rfl rfl rfl ?_; refine J.convInt Ty.u81 Ty.u3 rfl rfl ?_; refine J.name 102 rfl (congrArg (Value.int .i64) (show _ = ((used : Nat) : Int) from wrap_i64 (by omega) (by omega))) ?_
         first | refine J.skip rfl rfl rfl rfl rfl ?_ | refine J.skipU rfl rfl rfl rfl ?_ | (refine J.unguard rfl rfl rfl ?_; (first | refine J.addN rfl rfl (by omega) (by omega) rfl ?_ | refine J.bin rfl rfl rfl rfl ?_))
         first | refine J.skip rfl rfl rfl rfl rfl ?_ | refine J.skipU rfl rfl rfl rfl ?_ | (refine J.unguard rfl rfl rfl ?_; refine J.move rfl rfl ?_)
         first | refine J.skip rfl rfl rfl rfl rfl ?_ | refine J.skipU rfl rfl rfl rfl ?_ | (refine J.unguard rfl rfl rfl ?_; (first | refine J.subN rfl rfl (by omega) (by omega) rfl ?_ | refine J.bin rfl rfl rfl rfl ?_))
         refine J.unguard rfl rfl rfl ?_; refine J.bin rfl rfl rfl rfl ?_; refine J.name 106 rfl (show Value.bool _ = .bool true by simp <;> omega) ?_
         (first | refine J.pickT rfl rfl rfl ?_ | refine J.pickF rfl rfl rfl ?_)
         refine J.nil ?_; refine JX.thenN (hK27 _ _ ?_)
         first | refine JC.condT rfl ?_ | refine JC.cond rfl (fun _ => ?_) (fun h => by first | (exfalso; simp at h; omega) | (simp at h))
         refine JC.seq (fun K29 hK29 => ?_); refine JC.region ?_; refine J.assign rfl rfl ?_; refine J.assign rfl rfl ?_; refine J.assign rfl rfl ?_; refine J.nil ?_; refine JX.thenN (hK29 _ _ ?_); refine JC.ret ?_; refine JX.thenR ?_; refine JX.blockR ?_; refine JX.thenR ?_; refine JX.thenR ?_; refine JX.blockR ?_; refine JX.thenR ?_; refine JX.ret3 rfl rfl rfl rfl (fun w1 hw => ?_)
         rw [hopen]
         first
         | exact ⟨rfl, hw.below⟩
         | exact ⟨b151, v15, vs, lv, lps, rfl, hol ▸ hvo, hro, hw⟩
        ·have hnb := @need_bounds (sizeAt B at_)
         have hrl : ((B.drop (64 * at_ + 2)).take (sizeAt B at_)).length = sizeAt B at_ := by simp; omega
         refine J.move rfl rfl ?_; refine J.bin rfl rfl rfl rfl ?_; refine J.name 97 rfl (show Value.bool _ = .bool false by simp <;> omega) ?_; refine J.move rfl rfl ?_
         first | refine J.skip rfl rfl rfl rfl rfl ?_ | refine J.skipU rfl rfl rfl rfl ?_ | (refine J.unguard rfl rfl rfl ?_; refine J.move rfl rfl ?_)
         first | refine J.skip rfl rfl rfl rfl rfl ?_ | refine J.skipU rfl rfl rfl rfl ?_ | (refine J.unguard rfl rfl rfl ?_; refine J.callB (fun w1 w2 hw hb => hw.step hb) Ty.bd63 rfl rfl (fun w1 hw => need_spec (sizeAt B at_) w1 (by omega)) ?_)
         first | refine J.skip rfl rfl rfl rfl rfl ?_ | refine J.skipU rfl rfl rfl rfl ?_ | (refine J.unguard rfl rfl rfl ?_; refine J.move rfl rfl ?_)
         refine J.unguard rfl rfl rfl ?_; refine J.convInt Ty.u81 Ty.u3 rfl rfl ?_; refine J.name 102 rfl (congrArg (Value.int .i64) (show _ = ((used : Nat) : Int) from wrap_i64 (by omega) (by omega))) ?_
         first | refine J.skip rfl rfl rfl rfl rfl ?_ | refine J.skipU rfl rfl rfl rfl ?_ | (refine J.unguard rfl rfl rfl ?_; (first | refine J.addN rfl rfl (by omega) (by omega) rfl ?_ | refine J.bin rfl rfl rfl rfl ?_))
         first | refine J.skip rfl rfl rfl rfl rfl ?_ | refine J.skipU rfl rfl rfl rfl ?_ | (refine J.unguard rfl rfl rfl ?_; refine J.move rfl rfl ?_)
         first | refine J.skip rfl rfl rfl rfl rfl ?_ | refine J.skipU rfl rfl rfl rfl ?_ | (refine J.unguard rfl rfl rfl ?_; (first | refine J.subN rfl rfl (by omega) (by omega) rfl ?_ | refine J.bin rfl rfl rfl rfl ?_))
         refine J.unguard rfl rfl rfl ?_; refine J.bin rfl rfl rfl rfl ?_; refine J.name 106 rfl (show Value.bool _ = .bool false by simp <;> omega) ?_
         (first | refine J.pickT rfl rfl rfl ?_ | refine J.pickF rfl rfl rfl ?_)
         refine J.nil ?_; refine JX.thenN (hK27 _ _ ?_)
         first | refine JC.condF rfl ?_ | refine JC.cond rfl (fun h => by first | (exfalso; simp at h; omega) | (simp at h)) (fun _ => ?_)
         refine JC.skip ?_; refine JX.thenN (hK26 _ _ ?_); refine JC.seq (fun K30 hK30 => ?_); refine JC.seq (fun K31 hK31 => ?_); refine JC.region ?_; refine J.assign rfl rfl ?_; refine J.nil ?_; refine JX.thenN (hK31 _ _ ?_); refine JC.block ?_
         refine JC.conseq (JC.cov (f := (fun st => [(0, .pointer (some ⟨d, 0, none⟩)), (9, .int .u64 ((gen : Nat) : Int)), (10, .int .u64 ((used : Nat) : Int)), (11, .int .u64 ((cnt_ : Nat) : Int)), (15, v15), (16, .int .i64 ((at_ : Nat) : Int)), (72, .int .u64 ((cnt_ : Nat) : Int)), (73, .int .u64 ((k1 : Nat) : Int)), (19, .int .i64 ((sizeAt B at_ : Nat) : Int)), (17, st.2.1), (20, .int .i64 ((st.1 : Nat) : Int))]) ((1, _, _) : Nat × Value × List (Nat × Obj))) ⟨rfl, rfl, rfl, rfl, rfl, rfl, rfl, rfl, rfl, rfl, rfl, trivial⟩ (JC.loop (α := Nat × Value × List (Nat × Obj)) (fun st => [(0, .pointer (some ⟨d, 0, none⟩)), (9, .int .u64 ((gen : Nat) : Int)), (10, .int .u64 ((used : Nat) : Int)), (11, .int .u64 ((cnt_ : Nat) : Int)), (15, v15), (16, .int .i64 ((at_ : Nat) : Int)), (72, .int .u64 ((cnt_ : Nat) : Int)), (73, .int .u64 ((k1 : Nat) : Int)), (19, .int .i64 ((sizeAt B at_ : Nat) : Int)), (17, st.2.1), (20, .int .i64 ((st.1 : Nat) : Int))]) (fun st w' => (1 ≤ st.1 ∧ st.1 ≤ needN (sizeAt B at_) ∧ Vec 5 1 st.2.1 (64 * st.1) (((B.drop (64 * at_)).take (64 * st.1)).map u8) st.2.2) ∧ St w [] (st.2.2 ++ (lv ++ lps)) w') (fun st => needN (sizeAt B at_) - st.1) ((1, _, _) : Nat × Value × List (Nat × Obj)) (fun st => ?_))) (fun w hw => ⟨⟨Nat.le_refl _, need_bounds.1, hv84'⟩, hw⟩)
         obtain ⟨i, v17, lp17⟩ := st
         refine JC.pr (fun hx => ?_)
         obtain ⟨hi1, hi2, hv17⟩ := hx
         simp only at hi1 hi2 hv17 ⊢
         refine JC.seq (fun K32 hK32 => ?_); refine JC.seq (fun K33 hK33 => ?_); refine JC.region ?_; refine J.move rfl rfl ?_; refine J.move rfl rfl ?_; refine J.callB (fun w1 w2 hw hb => hw.step hb) Ty.bd63 rfl rfl (fun w1 hw => need_spec (sizeAt B at_) w1 (by omega)) ?_; refine J.bin rfl rfl rfl rfl ?_; refine J.nil ?_; refine JX.thenN (hK33 _ _ ?_); refine JC.cond rfl (fun h7 => ?_) (fun h7 => ?_)
         ·have hlt2 : i < needN (sizeAt B at_) := by simp at h7; omega
          refine JC.skip ?_; refine JX.thenN (hK32 _ _ ?_); refine JC.seq (fun K34 hK34 => ?_); refine JC.block ?_; refine JC.seq (fun K35 hK35 => ?_); refine JC.region ?_; refine J.move rfl rfl ?_; refine J.move rfl rfl ?_; refine J.move rfl rfl ?_
          (first | refine J.addN rfl rfl (by omega) (by omega) rfl ?_ | refine J.bin rfl rfl rfl rfl ?_)
          refine J.perm ([] ++ (lp17 ++ (lv ++ lps))) zp ?_; refine J.callS (l1 := []) Ty.bd61 rfl rfl (fun w1 hw => (read_spec d s n B p k ((at_ + i : Nat) : Int) w1 (hw0.at hw) hB (by omega) (by omega)).mono fun _ w2 ⟨x, h1, h2, h3⟩ => ⟨x, h1, h2, St.free (hw0.at hw) h3⟩) (fun x hv119 => ?_)
          obtain ⟨v119, lp119⟩ := x
          simp only at hv119 ⊢
          rw [show ((at_ + i : Nat) : Int).toNat = at_ + i from rfl] at hv119
          refine J.move rfl rfl ?_; refine J.extract rfl rfl rfl ?_; refine J.extract rfl rfl rfl ?_; refine J.assign rfl rfl ?_; refine J.assign rfl rfl ?_; refine J.nil ?_; refine JX.thenN (hK35 _ _ ?_); refine JC.region ?_; refine J.move rfl rfl ?_; refine J.move rfl rfl ?_; refine J.perm (lp17 ++ (lp119 ++ (lv ++ lps))) zp ?_; refine J.append (lp := lp17) (ys := (sec B (at_ + i)).map u8) (m := 64) Ty.el26 Ty.s5 Ty.b5 Ty.z5 rfl (.inl ⟨5, Ty.u26⟩) rfl rfl hv17 (fun w1 hw => .inl (hv119.row (l := lp17 ++ (lv ++ lps)) (hw.perm zp))) (by rw [List.length_map, sec_len64 (by omega)]) (one_u8 _) (by omega) (by omega) rfl (fun v124 lp124 hv124 => ?_); refine J.assign rfl rfl ?_; refine J.nil ?_; refine JX.blockN ?_; refine JX.thenN (hK34 _ _ ?_); refine JC.region ?_; refine J.move rfl rfl ?_
          (first | refine J.addN rfl rfl (by omega) (by omega) rfl ?_ | refine J.bin rfl rfl rfl rfl ?_)
          refine J.assign rfl rfl ?_; refine J.nil ?_; refine JX.thenN ?_; refine JX.again (i + 1, v124, lp124) ?_ ?_ ?_
          ·simp only; omega
          ·exact ⟨rfl, rfl, rfl, rfl, rfl, rfl, rfl, rfl, rfl, rfl, rfl, trivial⟩
          ·exact fun w1 hw => ⟨⟨by simp only; omega, hlt2, by simp only; rw [← sec_more, List.map_append]; exact hv124⟩, St.drop (St.perm (l' := lp119 ++ (lp124 ++ (lv ++ lps))) hw zp) (List.sublist_append_right _ _)⟩
         ·obtain rfl : i = needN (sizeAt B at_) := by simp at h7; omega
          obtain ⟨a17, c17, rfl, hc17⟩ := hv17.form
          refine JC.exit ?_; refine JX.thenE ?_; refine JX.thenE ?_; refine JX.blockE ?_; refine JX.thenN (hK30 _ _ ?_); refine JC.seq (fun K36 hK36 => ?_); refine JC.region ?_; refine J.move rfl rfl ?_; refine J.buildSl Ty.el26 Ty.s5 Ty.z5 rfl rfl rfl rfl rfl rfl rfl (fun b126 => ?_); refine J.move rfl rfl ?_; refine J.move rfl rfl ?_; refine J.addN rfl rfl (by omega) (by omega) rfl ?_; refine J.name 129 rfl (show Value.int .i64 _ = .int .i64 ((2 + sizeAt B at_ : Nat) : Int) by congr 1) ?_; refine J.sliceS (i := 2) (j := 2 + sizeAt B at_) Ty.el26 Ty.s5 rfl rfl rfl (by simp [bnd]) rfl (by omega) (by omega) (by omega) rfl ?_; refine J.append (lp := [(b126, cb [] 5)]) (xs := []) (ys := ((B.drop (64 * at_ + 2)).take (sizeAt B at_)).map u8) (k := 0) (m := 2 + sizeAt B at_ - 2) Ty.el26 Ty.s5 Ty.b5 Ty.z5 rfl (.inl ⟨5, Ty.u26⟩) rfl rfl ⟨rfl, .inr ⟨b126, 0, [], rfl, rfl, rfl, Nat.le_refl _⟩⟩ (fun w1 hw => .inl ?_) (by rw [List.length_map, hrl]; omega) (one_u8 _) (by omega) (by omega) rfl (fun v131 lp131 hv131 => ?_)
          ·have h1 := (hv17.row (l := lv ++ lps) (hw.drop (List.sublist_append_right _ _))).slice (sz := 1) (i := 2) (j := 2 + sizeAt B at_) (by simp; omega) (by omega) (by omega)
           rw [Nat.mul_one, Nat.mul_one, ← List.map_drop, ← List.map_take, show 2 + sizeAt B at_ - 2 = sizeAt B at_ by omega, rec_of hnb.2.1] at h1
           rw [show 2 + sizeAt B at_ - 2 = sizeAt B at_ by omega]
           exact h1
          rw [List.nil_append, show 0 + (2 + sizeAt B at_ - 2) = sizeAt B at_ by omega] at hv131
          obtain ⟨a131, c131, rfl, hc131⟩ := hv131.form
          refine J.buildSl Ty.el57 Ty.s26 Ty.z26 rfl rfl rfl rfl rfl rfl rfl (fun b132 => ?_); refine J.perm ((b132, cb [.slice a131 (sizeAt B at_) c131] 26) :: (lp131 ++ (lp17 ++ (lv ++ lps)))) (.refl _) ?_; refine J.perm (lv ++ ([(b132, cb [.slice a131 (sizeAt B at_) c131] 26)] ++ (lp131 ++ (lp17 ++ lps)))) zp ?_; refine J.append (lp := lv) (ys := [.slice a131 (sizeAt B at_) c131]) (m := 1) Ty.el57 Ty.s26 Ty.b26 Ty.z26 rfl (.inl ⟨26, Ty.u57⟩) rfl rfl hvo (fun w1 hw => .inl (Row.own (cs := [.slice a131 (sizeAt B at_) c131]) (tb := 26) (fr := (0, 0)) hw (List.mem_append_right _ (.head _)) rfl (Nat.le_refl _))) rfl (by simp [Value.oneCell']) (by omega) (by omega) rfl (fun v133 lv133 hv133 => ?_)
          have hpar2 : parseS B (2 + used) cnt_ 2 = (parseS B (2 + used) (cnt_ - (k1 + 1)) (at_ + needN (sizeAt B at_))).map (fun x => (out ++ [(B.drop (64 * at_ + 2)).take (sizeAt B at_)]) ++ x) := by
           rw [hpar, hsuc, parseS, if_neg (by omega), if_neg (by omega), Option.map_map]
           congr 1
           funext x
           simp
          refine J.assign rfl rfl ?_; refine J.nil ?_; refine JX.thenN (hK36 _ _ ?_); refine JC.region ?_; refine J.move rfl rfl ?_; refine J.move rfl rfl ?_; refine J.callB (fun w1 w2 hw hb => hw.step hb) Ty.bd63 rfl rfl (fun w1 hw => need_spec (sizeAt B at_) w1 (by omega)) ?_
          (first | refine J.addN rfl rfl (by omega) (by omega) rfl ?_ | refine J.bin rfl rfl rfl rfl ?_)
          refine J.assign rfl rfl ?_; refine J.nil ?_; refine JX.blockN ?_; refine JX.thenN (hK20 _ _ ?_); refine JC.region ?_; refine J.bin rfl rfl rfl rfl ?_; refine J.name 138 rfl (congrArg (Value.int .u64) (show _ = ((k1 + 1 : Nat) : Int) from wrap_u64 (by omega) (by omega))) ?_; refine J.move rfl rfl ?_; refine J.nil ?_; refine JX.thenN ?_; refine JX.again (⟨k1 + 1, at_ + needN (sizeAt B at_), out ++ [(B.drop (64 * at_ + 2)).take (sizeAt B at_)], vs ++ [.slice a131 (sizeAt B at_) c131], v133, lv133, lps ++ lp131⟩ : OpSt) ?_ ?_ ?_
          ·simp only; omega
          ·exact ⟨rfl, rfl, rfl, rfl, rfl, rfl, rfl, rfl, trivial⟩
          ·exact fun w1 hw => ⟨⟨hlt, by simp only; omega, by simp only; omega, by simp [hol], hv133, .snoc hro (by rw [hrl]; exact hv131), hpar2⟩, St.drop (St.perm (l' := (lp17 ++ [(b132, cb [.slice a131 (sizeAt B at_) c131] 26)]) ++ (lv133 ++ (lps ++ lp131))) hw zp) (List.sublist_append_right _ _)⟩
     ·obtain rfl : cnt_ = k1 := by simp at h4; omega
      rw [Nat.sub_self] at hpar
      refine JC.exit ?_; refine JX.thenE ?_; refine JX.thenE ?_; refine JX.blockE ?_; refine JX.thenN (hK16 _ _ ?_); refine JC.seq (fun K37 hK37 => ?_); refine JC.seq (fun K38 hK38 => ?_); refine JC.region ?_; refine J.move rfl rfl ?_; refine J.move rfl rfl ?_; refine J.convInt Ty.u81 Ty.u3 rfl rfl ?_; refine J.name 141 rfl (congrArg (Value.int .i64) (show _ = ((used : Nat) : Int) from wrap_i64 (by omega) (by omega))) ?_
      (first | refine J.addN rfl rfl (by omega) (by omega) rfl ?_ | refine J.bin rfl rfl rfl rfl ?_)
      refine J.bin rfl rfl rfl rfl ?_; refine J.nil ?_; refine JX.thenN (hK38 _ _ ?_); refine JC.cond rfl (fun h8 => ?_) (fun h8 => ?_)
      ·have hopen := openP_none (B := B) hn3 hbest (by rw [hpar, parseS, if_neg (by simp at h8; omega)]; rfl)
       refine JC.seq (fun K39 hK39 => ?_); refine JC.region ?_; refine J.assign rfl rfl ?_; refine J.assign rfl rfl ?_; refine J.assign rfl rfl ?_; refine J.nil ?_; refine JX.thenN (hK39 _ _ ?_); refine JC.ret ?_; refine JX.thenR ?_; refine JX.ret3 rfl rfl rfl rfl (fun w1 hw => ?_)
       rw [hopen]
       first
       | exact ⟨rfl, hw.below⟩
       | exact ⟨b151, v15, vs, lv, lps, rfl, hol ▸ hvo, hro, hw⟩
      ·have hopen := openP_some (B := B) hn3 hbest hgood (rs := out) (by rw [hpar, parseS, if_pos (by simp at h8; omega)]; simp)
       refine JC.skip ?_; refine JX.thenN (hK37 _ _ ?_); refine JC.seq (fun K40 hK40 => ?_); refine JC.region ?_; refine J.move rfl rfl ?_; refine J.move rfl rfl ?_; refine J.move rfl rfl ?_; refine J.convInt Ty.u81 Ty.u3 rfl rfl ?_; refine J.name 147 rfl (congrArg (Value.int .i64) (show _ = ((used : Nat) : Int) from wrap_i64 (by omega) (by omega))) ?_; refine J.move rfl rfl ?_; refine J.convInt Ty.u81 Ty.u3 rfl rfl ?_; refine J.name 149 rfl (congrArg (Value.int .i64) (show _ = ((cnt_ : Nat) : Int) from wrap_i64 (by omega) (by omega))) ?_; refine J.buildS Ty.pl124 Ty.z124 rfl rfl rfl ?_; refine J.box rfl rfl rfl (fun b151 => ?_); refine J.move rfl rfl ?_; refine J.assign rfl rfl ?_; refine J.assign rfl rfl ?_; refine J.assign rfl rfl ?_; refine J.nil ?_; refine JX.thenN (hK40 _ _ ?_); refine JC.ret ?_; refine JX.ret3 rfl rfl rfl rfl (fun w1 hw => ?_)
       rw [hopen]
       first
       | exact ⟨rfl, hw.below⟩
       | exact ⟨b151, v15, vs, lv, lps, rfl, hol ▸ hvo, hro, hw⟩
   ·refine JC.seq (fun K41 hK41 => ?_); refine JC.region ?_; refine J.move rfl rfl ?_; refine J.bin rfl rfl rfl rfl ?_; refine J.nil ?_; refine JX.thenN (hK41 _ _ ?_); refine JC.cond rfl (fun h2 => ?_) (fun h2 => ?_)
    ·try simp only [decide_eq_true_eq, decide_eq_false_iff_not, beq_iff_eq, bne_iff_ne, bne_eq_false_iff_eq, ne_eq, beq_eq_false_iff_ne, Bool.not_eq_true, Bool.not_eq_false, Int.not_lt, Int.not_le] at h2
     refine JC.region ?_; refine J.assign rfl rfl ?_; refine J.assign rfl rfl ?_; refine J.nil ?_; refine JX.thenN ?_
     have hz : h.1 = 0 := by simp at h2; exact h2
     have hbz : bestP B 2 = (0, 0, 0) := by rw [best_two B h hh, if_pos hz]
     obtain ⟨rfl, rfl, rfl⟩ : gen = 0 ∧ used = 0 ∧ cnt_ = 0 := by rw [hbest] at hbz; simpa using hbz
     exact JX.cut (hK8 ()) ⟨rfl, by simp only [hz]; rfl, rfl, rfl, trivial⟩ (fun w1 hw => hw)
    ·try simp only [decide_eq_true_eq, decide_eq_false_iff_not, beq_iff_eq, bne_iff_ne, bne_eq_false_iff_eq, ne_eq, beq_eq_false_iff_ne, Bool.not_eq_true, Bool.not_eq_false, Int.not_lt, Int.not_le] at h2
     refine JC.skip ?_; refine JX.thenN ?_
     have hz : h.1 ≠ 0 := by simp at h2; exact h2
     have hbz : bestP B 2 = h := by rw [best_two B h hh, if_neg hz]
     obtain rfl : h = (gen, used, cnt_) := by rw [← hbz, hbest]
     exact JX.cut (hK8 ()) ⟨rfl, rfl, rfl, rfl, trivial⟩ (fun w1 hw => hw)
  ·refine JC.seq (fun K42 hK42 => ?_); refine JC.region ?_; refine J.move rfl rfl ?_; refine J.callB (fun w1 w2 hw hb => hw.step hb) Ty.bd62 rfl rfl (fun w1 hw => head_spec _ (sec B 1) w1 (hvb.row (l := lpa) (hw.perm zp)) (sec_len64 (by omega))) ?_; refine J.move rfl rfl ?_; refine J.extract rfl rfl rfl ?_; refine J.extract rfl rfl rfl ?_; refine J.extract rfl rfl rfl ?_; refine J.assign rfl rfl ?_; refine J.assign rfl rfl ?_; refine J.assign rfl rfl ?_; refine J.nil ?_; refine JX.thenN (hK42 _ _ ?_); refine JC.seq (fun K43 hK43 => ?_); refine JC.region ?_; refine J.move rfl rfl ?_; refine J.move rfl rfl ?_; refine J.bin rfl rfl rfl rfl ?_; refine J.nil ?_; refine JX.thenN (hK43 _ _ ?_); refine JC.cond rfl (fun h1 => ?_) (fun h1 => ?_)
   ·try simp only [decide_eq_true_eq, decide_eq_false_iff_not, beq_iff_eq, bne_iff_ne, bne_eq_false_iff_eq, ne_eq, beq_eq_false_iff_ne, Bool.not_eq_true, Bool.not_eq_false, Int.not_lt, Int.not_le] at h1
    refine JC.region ?_; refine J.move rfl rfl ?_; refine J.move rfl rfl ?_; refine J.move rfl rfl ?_; refine J.assign rfl rfl ?_; refine J.assign rfl rfl ?_; refine J.assign rfl rfl ?_; refine J.nil ?_; refine JX.thenN ?_
    exact JX.cut (hK7 ()) ⟨rfl, by rw [← hh, if_pos (by simp at h1; omega)]; rfl, by rw [← hh, if_pos (by simp at h1; omega)]; rfl, by rw [← hh, if_pos (by simp at h1; omega)]; rfl, trivial⟩ (fun w1 hw => hw.drop (List.nil_sublist _))
   ·try simp only [decide_eq_true_eq, decide_eq_false_iff_not, beq_iff_eq, bne_iff_ne, bne_eq_false_iff_eq, ne_eq, beq_eq_false_iff_ne, Bool.not_eq_true, Bool.not_eq_false, Int.not_lt, Int.not_le] at h1
    refine JC.skip ?_; refine JX.thenN ?_
    exact JX.cut (hK7 ()) ⟨rfl, by rw [← hh, if_neg (by simp at h1; omega)]; rfl, by rw [← hh, if_neg (by simp at h1; omega)]; rfl, by rw [← hh, if_neg (by simp at h1; omega)]; rfl, trivial⟩ (fun w1 hw => hw.drop (List.nil_sublist _))

end Go.Proofs.Ytoaenmlhehcjfaa
/-
 What the document's own disk (annuletref05) does: contracts. And the contracts of both disks' Write and Read in one piece each.
-/
namespace Go.Proofs.Ytoaenmlhehcjfaa
open Go.J Go.RowKit
set_option linter.unusedVariables false
set_option linter.unusedSimpArgs false
set_option maxRecDepth 4000

abbrev rfO (v : Value) (p k : Int) : Obj := cb [v, .int .i64 p, .int .i64 k] 67
/-- what a write answers -/
def wE (n : Nat) (p i : Int) (m : Nat) : Int := if i < 0 ∨ (n : Int) ≤ i then 1 else if 64 < m then 4 else if p = 0 then 8 else 0
def wP (n : Nat) (p i : Int) (m : Nat) : Int := if wE n p i m = 0 then (if 0 < p then p - 1 else p) else p
def wK (n : Nat) (p i : Int) (m : Nat) (k : Int) : Int := if wE n p i m = 0 then k + 1 else k
def wB (n : Nat) (p i : Int) (B bs : List UInt8) : List UInt8 := if wE n p i bs.length = 0 then put B i.toNat bs else B
/-- the bytes of the document's write, j of them laid -/
def wst (B : List UInt8) (i : Nat) (bs : List UInt8) (j : Nat) : List UInt8 := B.take (64 * i) ++ (bs ++ List.replicate (64 - bs.length) 0).take j ++ B.drop (64 * i + j)
theorem wst_zero (B : List UInt8) (i : Nat) (bs : List UInt8) : wst B i bs 0 = B := by simp [wst]
theorem wst_all {B bs : List UInt8} {i : Nat} (h : bs.length ≤ 64) : wst B i bs 64 = put B i bs := by
 have e : (bs ++ List.replicate (64 - bs.length) (0 : UInt8)).take 64 = bs ++ List.replicate (64 - bs.length) 0 := List.take_of_length_le (by simp; omega)
 rw [wst, put, e]
theorem wst_get {B bs : List UInt8} {n i : Nat} (hB : B.length = 64 * n) (hi : i < n) (hb : bs.length ≤ 64) (j q : Nat) (hj : j ≤ 64) : (wst B i bs j)[q]? = if q < 64 * i then B[q]? else if q < 64 * i + j then (bs ++ List.replicate (64 - bs.length) 0)[q - 64 * i]? else B[q]? := by
 have l1 : (B.take (64 * i)).length = 64 * i := by simp; omega
 have l2 : ((bs ++ List.replicate (64 - bs.length) (0 : UInt8)).take j).length = j := by simp; omega
 unfold wst
 by_cases h1 : q < 64 * i
 ·rw [if_pos h1, List.append_assoc, List.getElem?_append_left (by omega), List.getElem?_take_of_lt h1]
 ·rw [if_neg h1]
  by_cases h2 : q < 64 * i + j
  ·rw [if_pos h2, List.append_assoc, List.getElem?_append_right (by omega), List.getElem?_append_left (by omega), l1, List.getElem?_take_of_lt (by omega)]
  ·rw [if_neg h2, List.getElem?_append_right (by simp only [List.length_append]; omega), List.length_append, l1, l2, List.getElem?_drop]
   congr 1; omega
theorem wst_length {B bs : List UInt8} {n i : Nat} (hB : B.length = 64 * n) (hi : i < n) (hb : bs.length ≤ 64) (j : Nat) (hj : j ≤ 64) : (wst B i bs j).length = 64 * n := by
 simp only [wst, List.length_append, List.length_take, List.length_drop, List.length_replicate]; omega
theorem wst_pad {B bs : List UInt8} {n i : Nat} (hB : B.length = 64 * n) (hi : i < n) (hb : bs.length ≤ 64) (j : Nat) (hj : j < 64) (hjm : bs.length ≤ j) : (wst B i bs j).set (64 * i + j) 0 = wst B i bs (j + 1) := by
 apply List.ext_getElem?
 intro q
 rw [List.getElem?_set, wst_get hB hi hb j q (by omega), wst_get hB hi hb (j + 1) q (by omega), wst_length hB hi hb j (by omega)]
 by_cases h : 64 * i + j = q
 ·subst h
  rw [if_pos rfl, if_pos (by omega), if_neg (by omega), if_pos (by omega), List.getElem?_append_right (by omega)]
  rw [List.getElem?_replicate, if_pos (by omega)]
 ·rw [if_neg h]
  by_cases h1 : q < 64 * i
  ·rw [if_pos h1, if_pos h1]
  ·rw [if_neg h1, if_neg h1]
   by_cases h2 : q < 64 * i + j
   ·rw [if_pos h2, if_pos (by omega)]
   ·rw [if_neg h2, if_neg (by omega)]
theorem wst_byte {B bs : List UInt8} {n i : Nat} (hB : B.length = 64 * n) (hi : i < n) (hb : bs.length ≤ 64) (j : Nat) (hj : j < 64) (hjm : j < bs.length) : ((wst B i bs j).set (64 * i + j) 0).set (64 * i + j) bs[j] = wst B i bs (j + 1) := by
 apply List.ext_getElem?
 intro q
 rw [List.set_set, List.getElem?_set, wst_get hB hi hb j q (by omega), wst_get hB hi hb (j + 1) q (by omega), wst_length hB hi hb j (by omega)]
 by_cases h : 64 * i + j = q
 ·subst h
  rw [if_pos rfl, if_pos (by omega), if_neg (by omega), if_pos (by omega), List.getElem?_append_left (by omega)]
  rw [show 64 * i + j - 64 * i = j by omega, List.getElem?_eq_getElem hjm]
 ·rw [if_neg h]
  by_cases h1 : q < 64 * i
  ·rw [if_pos h1, if_pos h1]
  ·rw [if_neg h1, if_neg h1]
   by_cases h2 : q < 64 * i + j
   ·rw [if_pos h2, if_pos (by omega)]
   ·rw [if_neg h2, if_neg (by omega)]
theorem set_u8 (l : List UInt8) (sp : List Value) (q : Nat) (x : UInt8) (h : q < l.length) : setMany (l.map u8 ++ sp) q [u8 x] = (l.set q x).map u8 ++ sp := by
 simp only [setMany]
 rw [List.set_append_left _ _ (by simpa using h), ← List.map_set]


theorem rwrite_long (r n : Nat) (v : Value) (lp : List (Nat × Obj)) (B : List UInt8) (p k : Int) (w : World) (hw0 : Own w ((r, rfO v p k) :: lp)) (hv : Vec 5 1 v (64 * n) (B.map u8) lp) (hn : n ≤ 4096) (i : Int) (a : Option Addr) (m c : Nat) (hi : 0 ≤ i) (hi2 : i < (n : Int)) (hm : 64 < m) :
  Calls Try.prog 55 [.pointer (some ⟨r, 0, none⟩), .int .i64 i, .slice a m c].toArray w fun ρ w' => ρ = .returned (.int .i64 4) ∧ Bel w w' := by
 obtain ⟨a0, c0, rfl, hnc0⟩ := hv.form
 refine calls_of_J (args := [.pointer (some ⟨r, 0, none⟩), .int .i64 i, .slice a m c]) (e := [(0, .pointer (some ⟨r, 0, none⟩)), (1, .int .i64 i), (2, .slice a m c)]) Try.func55 rfl rfl ⟨rfl, rfl, rfl, trivial⟩ (hw0.st) ?_; refine JC.seq (fun K0 hK0 => ?_); refine JC.region ?_; refine J.assign rfl rfl ?_; refine J.nil ?_; refine JX.thenN (hK0 _ _ ?_); refine JC.seq (fun K1 hK1 => ?_); refine JC.seq (fun K2 hK2 => ?_); refine JC.region ?_; refine J.move rfl rfl ?_; refine J.bin rfl rfl rfl rfl ?_; refine J.move rfl rfl ?_; refine J.split 10 rfl (fun h => by first | (exfalso; simp at h; omega) | (simp at h)) (fun _ => ?_)
 first | refine J.skip rfl rfl rfl rfl rfl ?_ | refine J.skipU rfl rfl rfl rfl ?_ | (refine J.unguard rfl rfl rfl ?_; refine J.move rfl rfl ?_)
 first | refine J.skip rfl rfl rfl rfl rfl ?_ | refine J.skipU rfl rfl rfl rfl ?_ | (refine J.unguard rfl rfl rfl ?_; refine J.move rfl rfl ?_)
 first | refine J.skip rfl rfl rfl rfl rfl ?_ | refine J.skipU rfl rfl rfl rfl ?_ | (refine J.unguard rfl rfl rfl ?_; refine J.nilCheck rfl rfl ?_)
 first | refine J.skip rfl rfl rfl rfl rfl ?_ | refine J.skipU rfl rfl rfl rfl ?_ | (refine J.unguard rfl rfl rfl ?_; refine J.fieldAddr Ty.fd67_0 rfl rfl ?_)
 first | refine J.skip rfl rfl rfl rfl rfl ?_ | refine J.skipU rfl rfl rfl rfl ?_ | (refine J.unguard rfl rfl rfl ?_; refine J.loadO Ty.a26 rfl zm (by exact rfl) rfl ?_)
 first | refine J.skip rfl rfl rfl rfl rfl ?_ | refine J.skipU rfl rfl rfl rfl ?_ | (refine J.unguard rfl rfl rfl ?_; refine J.lenS rfl Ty.u26 rfl rfl ?_)
 refine J.unguard rfl rfl rfl ?_; refine J.quoN rfl rfl (by omega) (by omega) (by omega) rfl ?_; refine J.name 17 rfl (congrArg (Value.int .i64) (show ((64 * n : Nat) : Int) / 64 = (n : Int) by omega)) ?_
 first | refine J.skip rfl rfl rfl rfl rfl ?_ | refine J.skipU rfl rfl rfl rfl ?_ | (refine J.unguard rfl rfl rfl ?_; refine J.bin rfl rfl rfl rfl ?_)
 (first | refine J.pickT rfl rfl rfl ?_ | refine J.pickF rfl rfl rfl ?_)
 refine J.nil ?_; refine JX.thenN (hK2 _ _ ?_)
 first | refine JC.condF rfl ?_ | refine JC.cond rfl (fun h => by first | (exfalso; simp at h; omega) | (simp at h)) (fun _ => ?_)
 refine JC.skip ?_; refine JX.thenN (hK1 _ _ ?_); refine JC.seq (fun K3 hK3 => ?_); refine JC.seq (fun K4 hK4 => ?_); refine JC.region ?_; refine J.move rfl rfl ?_; refine J.lenS rfl Ty.u26 rfl rfl ?_; refine J.bin rfl rfl rfl rfl ?_; refine J.nil ?_; refine JX.thenN (hK4 _ _ ?_)
 first | refine JC.condT rfl ?_ | refine JC.cond rfl (fun _ => ?_) (fun h => by first | (exfalso; simp at h; omega) | (simp at h))
 refine JC.seq (fun K5 hK5 => ?_); refine JC.region ?_; refine J.assign rfl rfl ?_; refine J.nil ?_; refine JX.thenN (hK5 _ _ ?_); refine JC.ret ?_; refine JX.thenR ?_; refine JX.ret1 rfl rfl (fun w hw => ?_)
 exact ⟨rfl, hw.same hw0 (fun p hp => hp)⟩

theorem rwrite_down (r n : Nat) (v : Value) (lp : List (Nat × Obj)) (B : List UInt8) (k : Int) (w : World) (hw0 : Own w ((r, rfO v 0 k) :: lp)) (hv : Vec 5 1 v (64 * n) (B.map u8) lp) (hn : n ≤ 4096) (i : Int) (a : Option Addr) (m c : Nat) (hi : 0 ≤ i) (hi2 : i < (n : Int)) (hm : m ≤ 64) :
  Calls Try.prog 55 [.pointer (some ⟨r, 0, none⟩), .int .i64 i, .slice a m c].toArray w fun ρ w' => ρ = .returned (.int .i64 8) ∧ Bel w w' := by
 obtain ⟨a0, c0, rfl, hnc0⟩ := hv.form
 refine calls_of_J (args := [.pointer (some ⟨r, 0, none⟩), .int .i64 i, .slice a m c]) (e := [(0, .pointer (some ⟨r, 0, none⟩)), (1, .int .i64 i), (2, .slice a m c)]) Try.func55 rfl rfl ⟨rfl, rfl, rfl, trivial⟩ (hw0.st) ?_; refine JC.seq (fun K0 hK0 => ?_); refine JC.region ?_; refine J.assign rfl rfl ?_; refine J.nil ?_; refine JX.thenN (hK0 _ _ ?_); refine JC.seq (fun K1 hK1 => ?_); refine JC.seq (fun K2 hK2 => ?_); refine JC.region ?_; refine J.move rfl rfl ?_; refine J.bin rfl rfl rfl rfl ?_; refine J.move rfl rfl ?_; refine J.split 10 rfl (fun h => by first | (exfalso; simp at h; omega) | (simp at h)) (fun _ => ?_)
 first | refine J.skip rfl rfl rfl rfl rfl ?_ | refine J.skipU rfl rfl rfl rfl ?_ | (refine J.unguard rfl rfl rfl ?_; refine J.move rfl rfl ?_)
 first | refine J.skip rfl rfl rfl rfl rfl ?_ | refine J.skipU rfl rfl rfl rfl ?_ | (refine J.unguard rfl rfl rfl ?_; refine J.move rfl rfl ?_)
 first | refine J.skip rfl rfl rfl rfl rfl ?_ | refine J.skipU rfl rfl rfl rfl ?_ | (refine J.unguard rfl rfl rfl ?_; refine J.nilCheck rfl rfl ?_)
 first | refine J.skip rfl rfl rfl rfl rfl ?_ | refine J.skipU rfl rfl rfl rfl ?_ | (refine J.unguard rfl rfl rfl ?_; refine J.fieldAddr Ty.fd67_0 rfl rfl ?_)
 first | refine J.skip rfl rfl rfl rfl rfl ?_ | refine J.skipU rfl rfl rfl rfl ?_ | (refine J.unguard rfl rfl rfl ?_; refine J.loadO Ty.a26 rfl zm (by exact rfl) rfl ?_)
 first | refine J.skip rfl rfl rfl rfl rfl ?_ | refine J.skipU rfl rfl rfl rfl ?_ | (refine J.unguard rfl rfl rfl ?_; refine J.lenS rfl Ty.u26 rfl rfl ?_)
 refine J.unguard rfl rfl rfl ?_; refine J.quoN rfl rfl (by omega) (by omega) (by omega) rfl ?_; refine J.name 17 rfl (congrArg (Value.int .i64) (show ((64 * n : Nat) : Int) / 64 = (n : Int) by omega)) ?_
 first | refine J.skip rfl rfl rfl rfl rfl ?_ | refine J.skipU rfl rfl rfl rfl ?_ | (refine J.unguard rfl rfl rfl ?_; refine J.bin rfl rfl rfl rfl ?_)
 (first | refine J.pickT rfl rfl rfl ?_ | refine J.pickF rfl rfl rfl ?_)
 refine J.nil ?_; refine JX.thenN (hK2 _ _ ?_)
 first | refine JC.condF rfl ?_ | refine JC.cond rfl (fun h => by first | (exfalso; simp at h; omega) | (simp at h)) (fun _ => ?_)
 refine JC.skip ?_; refine JX.thenN (hK1 _ _ ?_); refine JC.seq (fun K3 hK3 => ?_); refine JC.seq (fun K4 hK4 => ?_); refine JC.region ?_; refine J.move rfl rfl ?_; refine J.lenS rfl Ty.u26 rfl rfl ?_; refine J.bin rfl rfl rfl rfl ?_; refine J.nil ?_; refine JX.thenN (hK4 _ _ ?_)
 first | refine JC.condF rfl ?_ | refine JC.cond rfl (fun h => by first | (exfalso; simp at h; omega) | (simp at h)) (fun _ => ?_)
 refine JC.skip ?_; refine JX.thenN (hK3 _ _ ?_); refine JC.seq (fun K5 hK5 => ?_); refine JC.seq (fun K6 hK6 => ?_); refine JC.region ?_; refine J.move rfl rfl ?_; refine J.nilCheck rfl rfl ?_; refine J.fieldAddr Ty.fd67_1 rfl rfl ?_; refine J.loadO Ty.a3 rfl zm (by exact rfl) rfl ?_; refine J.bin rfl rfl rfl rfl ?_; refine J.nil ?_; refine JX.thenN (hK6 _ _ ?_)
 first | refine JC.condT rfl ?_ | refine JC.cond rfl (fun _ => ?_) (fun h => by first | (exfalso; simp at h; omega) | (simp at h))
 refine JC.seq (fun K7 hK7 => ?_); refine JC.region ?_; refine J.assign rfl rfl ?_; refine J.nil ?_; refine JX.thenN (hK7 _ _ ?_); refine JC.ret ?_; refine JX.thenR ?_; refine JX.ret1 rfl rfl (fun w hw => ?_)
 exact ⟨rfl, hw.same hw0 (fun p hp => hp)⟩

theorem rwrite_endless (r n : Nat) (v : Value) (lp : List (Nat × Obj)) (B : List UInt8) (p k : Int) (w : World) (hw0 : Own w ((r, rfO v p k) :: lp)) (hv : Vec 5 1 v (64 * n) (B.map u8) lp) (hn : n ≤ 4096) (bs : List UInt8) (i : Int) (a : Option Addr) (m c : Nat) (hB : B.length = 64 * n) (hi : 0 ≤ i) (hi2 : i < (n : Int)) (hk : 0 ≤ k) (hk2 : k < 4611686018427387904) (hm : m ≤ 64) (hbl : bs.length = m) (hbv : Row w (.slice a m c) m (bs.map u8)) (hoff : Off (r :: lp.map (·.1)) (.slice a m c) (bs.map u8)) (hp : p < 0) :
  Calls Try.prog 55 [.pointer (some ⟨r, 0, none⟩), .int .i64 i, .slice a m c].toArray w fun ρ w' => ρ = .returned (.int .i64 0) ∧ ∃ lp', Vec 5 1 v (64 * n) ((put B i.toNat bs).map u8) lp' ∧ St w (r :: lp.map (·.1)) ((r, rfO v p (k + 1)) :: lp') w' := by
 have hbl64 : bs.length ≤ 64 := by omega
 have hi2n : i.toNat < n := by omega
 obtain ⟨hvl, hv⟩ := hv
 rcases hv with ⟨_, h0, _⟩ | ⟨q, c0, sp, rfl, rfl, hcap, hnc⟩
 ·omega
 have hz : u8 0 = Value.int .u8 0 := rfl
 refine calls_of_J (args := [.pointer (some ⟨r, 0, none⟩), .int .i64 i, .slice a m c]) (e := [(0, .pointer (some ⟨r, 0, none⟩)), (1, .int .i64 i), (2, .slice a m c)]) Try.func55 rfl rfl ⟨rfl, rfl, rfl, trivial⟩ (hw0.st) ?_; refine JC.seq (fun K0 hK0 => ?_); refine JC.region ?_; refine J.assign rfl rfl ?_; refine J.nil ?_; refine JX.thenN (hK0 _ _ ?_); refine JC.seq (fun K1 hK1 => ?_); refine JC.seq (fun K2 hK2 => ?_); refine JC.region ?_; refine J.move rfl rfl ?_; refine J.bin rfl rfl rfl rfl ?_; refine J.move rfl rfl ?_; refine J.split 10 rfl (fun h => by first | (exfalso; simp at h; omega) | (simp at h)) (fun _ => ?_)
 first | refine J.skip rfl rfl rfl rfl rfl ?_ | refine J.skipU rfl rfl rfl rfl ?_ | (refine J.unguard rfl rfl rfl ?_; refine J.move rfl rfl ?_)
 first | refine J.skip rfl rfl rfl rfl rfl ?_ | refine J.skipU rfl rfl rfl rfl ?_ | (refine J.unguard rfl rfl rfl ?_; refine J.move rfl rfl ?_)
 first | refine J.skip rfl rfl rfl rfl rfl ?_ | refine J.skipU rfl rfl rfl rfl ?_ | (refine J.unguard rfl rfl rfl ?_; refine J.nilCheck rfl rfl ?_)
 first | refine J.skip rfl rfl rfl rfl rfl ?_ | refine J.skipU rfl rfl rfl rfl ?_ | (refine J.unguard rfl rfl rfl ?_; refine J.fieldAddr Ty.fd67_0 rfl rfl ?_)
 first | refine J.skip rfl rfl rfl rfl rfl ?_ | refine J.skipU rfl rfl rfl rfl ?_ | (refine J.unguard rfl rfl rfl ?_; refine J.loadO Ty.a26 rfl zm (by exact rfl) rfl ?_)
 first | refine J.skip rfl rfl rfl rfl rfl ?_ | refine J.skipU rfl rfl rfl rfl ?_ | (refine J.unguard rfl rfl rfl ?_; refine J.lenS rfl Ty.u26 rfl rfl ?_)
 refine J.unguard rfl rfl rfl ?_; refine J.quoN rfl rfl (by omega) (by omega) (by omega) rfl ?_; refine J.name 17 rfl (congrArg (Value.int .i64) (show ((64 * n : Nat) : Int) / 64 = (n : Int) by omega)) ?_
 first | refine J.skip rfl rfl rfl rfl rfl ?_ | refine J.skipU rfl rfl rfl rfl ?_ | (refine J.unguard rfl rfl rfl ?_; refine J.bin rfl rfl rfl rfl ?_)
 (first | refine J.pickT rfl rfl rfl ?_ | refine J.pickF rfl rfl rfl ?_)
 refine J.nil ?_; refine JX.thenN (hK2 _ _ ?_)
 first | refine JC.condF rfl ?_ | refine JC.cond rfl (fun h => by first | (exfalso; simp at h; omega) | (simp at h)) (fun _ => ?_)
 refine JC.skip ?_; refine JX.thenN (hK1 _ _ ?_); refine JC.seq (fun K3 hK3 => ?_); refine JC.seq (fun K4 hK4 => ?_); refine JC.region ?_; refine J.move rfl rfl ?_; refine J.lenS rfl Ty.u26 rfl rfl ?_; refine J.bin rfl rfl rfl rfl ?_; refine J.nil ?_; refine JX.thenN (hK4 _ _ ?_)
 first | refine JC.condF rfl ?_ | refine JC.cond rfl (fun h => by first | (exfalso; simp at h; omega) | (simp at h)) (fun _ => ?_)
 refine JC.skip ?_; refine JX.thenN (hK3 _ _ ?_); refine JC.seq (fun K5 hK5 => ?_); refine JC.seq (fun K6 hK6 => ?_); refine JC.region ?_; refine J.move rfl rfl ?_; refine J.nilCheck rfl rfl ?_; refine J.fieldAddr Ty.fd67_1 rfl rfl ?_; refine J.loadO Ty.a3 rfl zm (by exact rfl) rfl ?_; refine J.bin rfl rfl rfl rfl ?_; refine J.nil ?_; refine JX.thenN (hK6 _ _ ?_)
 first | refine JC.condF rfl ?_ | refine JC.cond rfl (fun h => by first | (exfalso; simp at h; omega) | (simp at h)) (fun _ => ?_)
 refine JC.skip ?_; refine JX.thenN (hK5 _ _ ?_); refine JC.seq (fun K7 hK7 => ?_); refine JC.seq (fun K8 hK8 => ?_); refine JC.region ?_; refine J.assign rfl rfl ?_; refine J.nil ?_; refine JX.thenN (hK8 _ _ ?_); refine JC.block ?_
 refine JC.conseq (JC.cov (f := (fun x => [(0, .pointer (some ⟨r, 0, none⟩)), (1, .int .i64 i), (2, .slice a m c), (7, .int .i64 x)]) (0 : Nat)) ⟨rfl, rfl, rfl, rfl, trivial⟩ (JC.loop (α := Nat) (fun x => [(0, .pointer (some ⟨r, 0, none⟩)), (1, .int .i64 i), (2, .slice a m c), (7, .int .i64 x)]) (fun x w' => x ≤ 64 ∧ St w [r, q] [(r, rfO (.slice (some ⟨q, 0, none⟩) (64 * n) c0) p k), (q, cb ((wst B i.toNat bs x).map u8 ++ sp) 5)] w') (fun x => 64 - x) (0 : Nat) (fun j => ?_))) (fun w hw => ⟨Nat.zero_le _, by rw [wst_zero]; exact hw⟩)
 refine JC.pr (fun hj64 => ?_); refine JC.seq (fun K9 hK9 => ?_); refine JC.seq (fun K10 hK10 => ?_); refine JC.region ?_; refine J.move rfl rfl ?_; refine J.bin rfl rfl rfl rfl ?_; refine J.nil ?_; refine JX.thenN (hK10 _ _ ?_); refine JC.cond rfl (fun h3 => ?_) (fun h3 => ?_)
 ·have hlt : j < 64 := by simp at h3; omega
  refine JC.skip ?_; refine JX.thenN (hK9 _ _ ?_); refine JC.seq (fun K11 hK11 => ?_); refine JC.block ?_; refine JC.seq (fun K12 hK12 => ?_); refine JC.region ?_; refine J.move rfl rfl ?_; refine J.nilCheck rfl rfl ?_; refine J.fieldAddr Ty.fd67_0 rfl rfl ?_; refine J.loadO Ty.a26 rfl zm (by exact rfl) rfl ?_; refine J.move rfl rfl ?_
  (first | refine J.mulN rfl rfl (by omega) (by omega) rfl ?_ | refine J.bin rfl rfl rfl rfl ?_)
  refine J.move rfl rfl ?_
  (first | refine J.addN rfl rfl (by omega) (by omega) rfl ?_ | refine J.bin rfl rfl rfl rfl ?_)
  refine J.indexAddrS Ty.el26 Ty.s5 rfl rfl (by omega) (by omega) rfl ?_; refine J.name 40 rfl (show Value.pointer (some ⟨q, 0 + (64 * i + (j : Int)).toNat * 1, none⟩) = .pointer (some ⟨q, 64 * i.toNat + j, none⟩) by congr 3; omega) ?_; refine J.storeO (vs := [.int .u8 0]) Ty.s5 rfl rfl rfl rfl (by simp [Value.oneCell']) (.there .here) (by simp [wst_length hB hi2n hbl64 j (by omega)]; omega) ?_; refine J.nil ?_; refine JX.thenN (hK12 _ _ ?_); refine JC.seq (fun K13 hK13 => ?_); refine JC.region ?_; refine J.move rfl rfl ?_; refine J.move rfl rfl ?_; refine J.lenS rfl Ty.u26 rfl rfl ?_; refine J.bin rfl rfl rfl rfl ?_; refine J.nil ?_; refine JX.thenN (hK13 _ _ ?_); refine JC.cond rfl (fun h4 => ?_) (fun h4 => ?_)
  ·have hjm : j < m := by simp at h4; omega
   obtain ⟨b, o, rfl, hcl⟩ : ∃ b o, a = some ⟨b, o, none⟩ ∧ Cells w b o (bs.map u8) := by
    obtain ⟨_, _, hv, _, hx⟩ := hbv
    simp only [Value.slice.injEq] at hv
    obtain ⟨rfl, _, rfl⟩ := hv
    rcases hx with hx | hx
    ·have hx2 := congrArg List.length hx; rw [List.length_map, List.length_nil] at hx2; omega
    ·exact hx
   have hbS : b ∉ [r, q] := by
    rcases hoff with hx | hx
    ·have hx2 := congrArg List.length hx; rw [List.length_map, List.length_nil] at hx2; omega
    ·exact hx b o _ _ rfl
   have hcj : Cells w b o (bs.map u8) := hcl
   apply JC.drawL 12 [Eqv (_), Eqv (_), Eqv (_), Eqv (_), Eqv (_), Eqv (_), Eqv (_), Eqv (_), Eqv (_), Eqv (_), Eqv (_), Eqv (_)] Ty.mixed rfl rfl rfl (by kernel_rfl) rfl rfl (fun w w' hw hb => hw.step hb) ⟨fun _ _ _ h _ => h, fun _ _ _ h _ => h, fun _ _ _ h _ => h, fun _ _ _ h _ => h, fun _ _ _ h _ => h, fun _ _ _ h _ => h, fun _ _ _ h _ => h, fun _ _ _ h _ => h, fun _ _ _ h _ => h, fun _ _ _ h _ => h, fun _ _ _ h _ => h, fun _ _ _ h _ => h, trivial⟩ ?hstep ?htail
   case hstep =>
    refine ⟨fun wi => ?_, fun wi => ?_, fun wi => ?_, fun wi => ?_, fun wi => ?_, fun wi => ?_, fun wi => ?_, fun wi => ?_, fun wi => ?_, fun wi => ?_, fun wi => ?_, fun wi => ?_, trivial⟩
    ·refine Fin.nil ?_; refine J.move rfl rfl ?_
     exact J.finP rfl
    ·refine Fin.consE rfl (Fin.nil ?_); refine J.nilCheck rfl rfl ?_
     exact J.finP rfl
    ·refine Fin.consE rfl (Fin.nil ?_); refine J.fieldAddr Ty.fd67_0 rfl rfl ?_
     exact J.finP rfl
    ·refine Fin.consE rfl (Fin.nil ?_); refine J.load1 Ty.a26 rfl (fun w hw => (cell_of (hw.2.own (_, _) zm)).trans (by exact rfl)) rfl ?_
     exact J.finP rfl
    ·refine Fin.nil ?_; refine J.move rfl rfl ?_
     exact J.finP rfl
    ·refine Fin.consE rfl (Fin.nil ?_)
     (first | refine J.mulN rfl rfl (by omega) (by omega) rfl ?_ | refine J.bin rfl rfl rfl rfl ?_)
     exact J.finP rfl
    ·refine Fin.nil ?_; refine J.move rfl rfl ?_
     exact J.finP rfl
    ·refine Fin.consE rfl (Fin.consE rfl (Fin.nil ?_))
     (first | refine J.addN rfl rfl (by omega) (by omega) rfl ?_ | refine J.bin rfl rfl rfl rfl ?_)
     exact J.finP rfl
    ·refine Fin.nil ?_; refine J.move rfl rfl ?_
     exact J.finP rfl
    ·refine Fin.nil ?_; refine J.move rfl rfl ?_
     exact J.finP rfl
    ·refine Fin.consE rfl (Fin.consE rfl (Fin.nil ?_))
     refine J.indexAddrS Ty.el26 Ty.s5 rfl rfl (by omega) (by omega) rfl ?_
     exact J.finP rfl
    ·refine Fin.consE rfl (Fin.nil ?_); refine J.load1 (v := u8 (bs[j]'(by omega))) Ty.a5 rfl (fun w hw => ?_) rfl ?_
     ·have h1 := hcj.blk (hw.2.keep b (hcj.lt (by intro hx; have hx2 := congrArg List.length hx; rw [List.length_map, List.length_nil] at hx2; omega)) hbS)
      have h2 := h1 j (by simp; omega)
      rw [show o + (j : Int).toNat * 1 = o + j by omega, h2]
      simp [List.getElem?_eq_getElem (show j < bs.length by omega)]
     exact J.finP rfl
   case htail =>
    refine Fin.consE rfl (Fin.consE rfl (Fin.consE rfl (Fin.consE rfl (Fin.consE rfl (Fin.consE rfl (Fin.consE rfl (Fin.consE rfl (Fin.consE rfl (Fin.consE rfl (Fin.consE rfl (Fin.consE rfl (Fin.nil ?_))))))))))))
    refine J.indexAddrS Ty.el26 Ty.s5 rfl rfl (by omega) (by omega) rfl ?_; refine J.name 57 rfl (show Value.pointer (some ⟨q, 0 + (64 * i + (j : Int)).toNat * 1, none⟩) = .pointer (some ⟨q, 64 * i.toNat + j, none⟩) by congr 3; omega) ?_; refine J.storeO (vs := [u8 (bs[j]'(by omega))]) Ty.s5 rfl rfl rfl rfl (by simp [Value.oneCell']) (.there .here) (by simp [setMany_length, wst_length hB hi2n hbl64 j (by omega)]; omega) ?_; refine J.nil ?_; refine JX.blockN ?_; refine JX.thenN (hK11 _ _ ?_); refine JC.region ?_; refine J.move rfl rfl ?_
    (first | refine J.addN rfl rfl (by omega) (by omega) rfl ?_ | refine J.bin rfl rfl rfl rfl ?_)
    refine J.assign rfl rfl ?_; refine J.nil ?_; refine JX.thenN ?_; refine JX.again (j + 1) ?_ ?_ ?_
    ·omega
    ·exact ⟨rfl, rfl, rfl, rfl, trivial⟩
    ·exact fun w hw => ⟨hlt, by
      first
      | exact (by rw [← wst_byte hB hi2n hbl64 j hlt (by omega), ← set_u8 _ _ _ _ (by rw [List.length_set, wst_length hB hi2n hbl64 j (by omega)]; omega), ← set_u8 _ _ _ _ (by rw [wst_length hB hi2n hbl64 j (by omega)]; omega)]; exact hw)
      | exact (by rw [← wst_pad hB hi2n hbl64 j hlt (by omega), ← set_u8 _ _ _ _ (by rw [wst_length hB hi2n hbl64 j (by omega)]; omega)]; exact hw)⟩
  ·have hjm : m ≤ j := by simp at h4; omega
   refine JC.skip ?_; refine JX.blockN ?_; refine JX.thenN (hK11 _ _ ?_); refine JC.region ?_; refine J.move rfl rfl ?_
   (first | refine J.addN rfl rfl (by omega) (by omega) rfl ?_ | refine J.bin rfl rfl rfl rfl ?_)
   refine J.assign rfl rfl ?_; refine J.nil ?_; refine JX.thenN ?_; refine JX.again (j + 1) ?_ ?_ ?_
   ·omega
   ·exact ⟨rfl, rfl, rfl, rfl, trivial⟩
   ·exact fun w hw => ⟨hlt, by
     first
     | exact (by rw [← wst_byte hB hi2n hbl64 j hlt (by omega), ← set_u8 _ _ _ _ (by rw [List.length_set, wst_length hB hi2n hbl64 j (by omega)]; omega), ← set_u8 _ _ _ _ (by rw [wst_length hB hi2n hbl64 j (by omega)]; omega)]; exact hw)
     | exact (by rw [← wst_pad hB hi2n hbl64 j hlt (by omega), ← set_u8 _ _ _ _ (by rw [wst_length hB hi2n hbl64 j (by omega)]; omega)]; exact hw)⟩
 ·have hge : j = 64 := by simp at h3; omega
  subst hge
  refine JC.exit ?_; refine JX.thenE ?_; refine JX.thenE ?_; refine JX.blockE ?_; refine JX.thenN (hK7 _ _ ?_); refine JC.seq (fun K14 hK14 => ?_); refine JC.seq (fun K15 hK15 => ?_); refine JC.region ?_; refine J.move rfl rfl ?_; refine J.nilCheck rfl rfl ?_; refine J.fieldAddr Ty.fd67_1 rfl rfl ?_; refine J.loadO Ty.a3 rfl zm (by exact rfl) rfl ?_; refine J.bin rfl rfl rfl rfl ?_; refine J.nil ?_; refine JX.thenN (hK15 _ _ ?_)
  first | refine JC.condF rfl ?_ | refine JC.cond rfl (fun h => by first | (exfalso; simp at h; omega) | (simp at h)) (fun _ => ?_)
  refine JC.skip ?_; refine JX.thenN (hK14 _ _ ?_); refine JC.seq (fun K16 hK16 => ?_); refine JC.region ?_; refine J.move rfl rfl ?_; refine J.nilCheck rfl rfl ?_; refine J.fieldAddr Ty.fd67_2 rfl rfl ?_; refine J.loadO Ty.a3 rfl zm (by exact rfl) rfl ?_
  (first | refine J.addN rfl rfl (by omega) (by omega) rfl ?_ | refine J.bin rfl rfl rfl rfl ?_)
  refine J.nilCheck rfl rfl ?_; refine J.fieldAddr Ty.fd67_2 rfl rfl ?_; refine J.storeO Ty.s3 rfl rfl rfl rfl (by simp [Value.oneCell']) zu (by simp) ?_; refine J.nil ?_; refine JX.thenN (hK16 _ _ ?_); refine JC.seq (fun K17 hK17 => ?_); refine JC.region ?_; refine J.assign rfl rfl ?_; refine J.nil ?_; refine JX.thenN (hK17 _ _ ?_); refine JC.ret ?_; refine JX.ret1 rfl rfl (fun w hw => ?_)
  rw [wst_all (by omega)] at hw
  exact ⟨rfl, [(q, cb ((put B i.toNat bs).map u8 ++ sp) 5)], ⟨by rw [List.length_map, put_length hB hi2n hbl64]; omega, .inr ⟨q, c0, sp, rfl, rfl, by simp only [List.length_append, List.length_map, put_length hB hi2n hbl64, hB] at hcap ⊢; exact hcap, hnc⟩⟩, hw⟩

theorem rwrite_power (r n : Nat) (v : Value) (lp : List (Nat × Obj)) (B : List UInt8) (p k : Int) (w : World) (hw0 : Own w ((r, rfO v p k) :: lp)) (hv : Vec 5 1 v (64 * n) (B.map u8) lp) (hn : n ≤ 4096) (bs : List UInt8) (i : Int) (a : Option Addr) (m c : Nat) (hB : B.length = 64 * n) (hi : 0 ≤ i) (hi2 : i < (n : Int)) (hk : 0 ≤ k) (hk2 : k < 4611686018427387904) (hm : m ≤ 64) (hbl : bs.length = m) (hbv : Row w (.slice a m c) m (bs.map u8)) (hoff : Off (r :: lp.map (·.1)) (.slice a m c) (bs.map u8)) (hp : 0 < p) (hp2 : p < 9223372036854775808) :
  Calls Try.prog 55 [.pointer (some ⟨r, 0, none⟩), .int .i64 i, .slice a m c].toArray w fun ρ w' => ρ = .returned (.int .i64 0) ∧ ∃ lp', Vec 5 1 v (64 * n) ((put B i.toNat bs).map u8) lp' ∧ St w (r :: lp.map (·.1)) ((r, rfO v (p - 1) (k + 1)) :: lp') w' := by
 have hbl64 : bs.length ≤ 64 := by omega
 have hi2n : i.toNat < n := by omega
 obtain ⟨hvl, hv⟩ := hv
 rcases hv with ⟨_, h0, _⟩ | ⟨q, c0, sp, rfl, rfl, hcap, hnc⟩
 ·omega
 have hz : u8 0 = Value.int .u8 0 := rfl
 refine calls_of_J (args := [.pointer (some ⟨r, 0, none⟩), .int .i64 i, .slice a m c]) (e := [(0, .pointer (some ⟨r, 0, none⟩)), (1, .int .i64 i), (2, .slice a m c)]) Try.func55 rfl rfl ⟨rfl, rfl, rfl, trivial⟩ (hw0.st) ?_; refine JC.seq (fun K0 hK0 => ?_); refine JC.region ?_; refine J.assign rfl rfl ?_; refine J.nil ?_; refine JX.thenN (hK0 _ _ ?_); refine JC.seq (fun K1 hK1 => ?_); refine JC.seq (fun K2 hK2 => ?_); refine JC.region ?_; refine J.move rfl rfl ?_; refine J.bin rfl rfl rfl rfl ?_; refine J.move rfl rfl ?_; refine J.split 10 rfl (fun h => by first | (exfalso; simp at h; omega) | (simp at h)) (fun _ => ?_)
 first | refine J.skip rfl rfl rfl rfl rfl ?_ | refine J.skipU rfl rfl rfl rfl ?_ | (refine J.unguard rfl rfl rfl ?_; refine J.move rfl rfl ?_)
 first | refine J.skip rfl rfl rfl rfl rfl ?_ | refine J.skipU rfl rfl rfl rfl ?_ | (refine J.unguard rfl rfl rfl ?_; refine J.move rfl rfl ?_)
 first | refine J.skip rfl rfl rfl rfl rfl ?_ | refine J.skipU rfl rfl rfl rfl ?_ | (refine J.unguard rfl rfl rfl ?_; refine J.nilCheck rfl rfl ?_)
 first | refine J.skip rfl rfl rfl rfl rfl ?_ | refine J.skipU rfl rfl rfl rfl ?_ | (refine J.unguard rfl rfl rfl ?_; refine J.fieldAddr Ty.fd67_0 rfl rfl ?_)
 first | refine J.skip rfl rfl rfl rfl rfl ?_ | refine J.skipU rfl rfl rfl rfl ?_ | (refine J.unguard rfl rfl rfl ?_; refine J.loadO Ty.a26 rfl zm (by exact rfl) rfl ?_)
 first | refine J.skip rfl rfl rfl rfl rfl ?_ | refine J.skipU rfl rfl rfl rfl ?_ | (refine J.unguard rfl rfl rfl ?_; refine J.lenS rfl Ty.u26 rfl rfl ?_)
 refine J.unguard rfl rfl rfl ?_; refine J.quoN rfl rfl (by omega) (by omega) (by omega) rfl ?_; refine J.name 17 rfl (congrArg (Value.int .i64) (show ((64 * n : Nat) : Int) / 64 = (n : Int) by omega)) ?_
 first | refine J.skip rfl rfl rfl rfl rfl ?_ | refine J.skipU rfl rfl rfl rfl ?_ | (refine J.unguard rfl rfl rfl ?_; refine J.bin rfl rfl rfl rfl ?_)
 (first | refine J.pickT rfl rfl rfl ?_ | refine J.pickF rfl rfl rfl ?_)
 refine J.nil ?_; refine JX.thenN (hK2 _ _ ?_)
 first | refine JC.condF rfl ?_ | refine JC.cond rfl (fun h => by first | (exfalso; simp at h; omega) | (simp at h)) (fun _ => ?_)
 refine JC.skip ?_; refine JX.thenN (hK1 _ _ ?_); refine JC.seq (fun K3 hK3 => ?_); refine JC.seq (fun K4 hK4 => ?_); refine JC.region ?_; refine J.move rfl rfl ?_; refine J.lenS rfl Ty.u26 rfl rfl ?_; refine J.bin rfl rfl rfl rfl ?_; refine J.nil ?_; refine JX.thenN (hK4 _ _ ?_)
 first | refine JC.condF rfl ?_ | refine JC.cond rfl (fun h => by first | (exfalso; simp at h; omega) | (simp at h)) (fun _ => ?_)
 refine JC.skip ?_; refine JX.thenN (hK3 _ _ ?_); refine JC.seq (fun K5 hK5 => ?_); refine JC.seq (fun K6 hK6 => ?_); refine JC.region ?_; refine J.move rfl rfl ?_; refine J.nilCheck rfl rfl ?_; refine J.fieldAddr Ty.fd67_1 rfl rfl ?_; refine J.loadO Ty.a3 rfl zm (by exact rfl) rfl ?_; refine J.bin rfl rfl rfl rfl ?_; refine J.nil ?_; refine JX.thenN (hK6 _ _ ?_)
 first | refine JC.condF rfl ?_ | refine JC.cond rfl (fun h => by first | (exfalso; simp at h; omega) | (simp at h)) (fun _ => ?_)
 refine JC.skip ?_; refine JX.thenN (hK5 _ _ ?_); refine JC.seq (fun K7 hK7 => ?_); refine JC.seq (fun K8 hK8 => ?_); refine JC.region ?_; refine J.assign rfl rfl ?_; refine J.nil ?_; refine JX.thenN (hK8 _ _ ?_); refine JC.block ?_
 refine JC.conseq (JC.cov (f := (fun x => [(0, .pointer (some ⟨r, 0, none⟩)), (1, .int .i64 i), (2, .slice a m c), (7, .int .i64 x)]) (0 : Nat)) ⟨rfl, rfl, rfl, rfl, trivial⟩ (JC.loop (α := Nat) (fun x => [(0, .pointer (some ⟨r, 0, none⟩)), (1, .int .i64 i), (2, .slice a m c), (7, .int .i64 x)]) (fun x w' => x ≤ 64 ∧ St w [r, q] [(r, rfO (.slice (some ⟨q, 0, none⟩) (64 * n) c0) p k), (q, cb ((wst B i.toNat bs x).map u8 ++ sp) 5)] w') (fun x => 64 - x) (0 : Nat) (fun j => ?_))) (fun w hw => ⟨Nat.zero_le _, by rw [wst_zero]; exact hw⟩)
 refine JC.pr (fun hj64 => ?_); refine JC.seq (fun K9 hK9 => ?_); refine JC.seq (fun K10 hK10 => ?_); refine JC.region ?_; refine J.move rfl rfl ?_; refine J.bin rfl rfl rfl rfl ?_; refine J.nil ?_; refine JX.thenN (hK10 _ _ ?_); refine JC.cond rfl (fun h3 => ?_) (fun h3 => ?_)
 ·have hlt : j < 64 := by simp at h3; omega
  refine JC.skip ?_; refine JX.thenN (hK9 _ _ ?_); refine JC.seq (fun K11 hK11 => ?_); refine JC.block ?_; refine JC.seq (fun K12 hK12 => ?_); refine JC.region ?_; refine J.move rfl rfl ?_; refine J.nilCheck rfl rfl ?_; refine J.fieldAddr Ty.fd67_0 rfl rfl ?_; refine J.loadO Ty.a26 rfl zm (by exact rfl) rfl ?_; refine J.move rfl rfl ?_
  (first | refine J.mulN rfl rfl (by omega) (by omega) rfl ?_ | refine J.bin rfl rfl rfl rfl ?_)
  refine J.move rfl rfl ?_
  (first | refine J.addN rfl rfl (by omega) (by omega) rfl ?_ | refine J.bin rfl rfl rfl rfl ?_)
  refine J.indexAddrS Ty.el26 Ty.s5 rfl rfl (by omega) (by omega) rfl ?_; refine J.name 40 rfl (show Value.pointer (some ⟨q, 0 + (64 * i + (j : Int)).toNat * 1, none⟩) = .pointer (some ⟨q, 64 * i.toNat + j, none⟩) by congr 3; omega) ?_; refine J.storeO (vs := [.int .u8 0]) Ty.s5 rfl rfl rfl rfl (by simp [Value.oneCell']) (.there .here) (by simp [wst_length hB hi2n hbl64 j (by omega)]; omega) ?_; refine J.nil ?_; refine JX.thenN (hK12 _ _ ?_); refine JC.seq (fun K13 hK13 => ?_); refine JC.region ?_; refine J.move rfl rfl ?_; refine J.move rfl rfl ?_; refine J.lenS rfl Ty.u26 rfl rfl ?_; refine J.bin rfl rfl rfl rfl ?_; refine J.nil ?_; refine JX.thenN (hK13 _ _ ?_); refine JC.cond rfl (fun h4 => ?_) (fun h4 => ?_)
  ·have hjm : j < m := by simp at h4; omega
   obtain ⟨b, o, rfl, hcl⟩ : ∃ b o, a = some ⟨b, o, none⟩ ∧ Cells w b o (bs.map u8) := by
    obtain ⟨_, _, hv, _, hx⟩ := hbv
    simp only [Value.slice.injEq] at hv
    obtain ⟨rfl, _, rfl⟩ := hv
    rcases hx with hx | hx
    ·have hx2 := congrArg List.length hx; rw [List.length_map, List.length_nil] at hx2; omega
    ·exact hx
   have hbS : b ∉ [r, q] := by
    rcases hoff with hx | hx
    ·have hx2 := congrArg List.length hx; rw [List.length_map, List.length_nil] at hx2; omega
    ·exact hx b o _ _ rfl
   have hcj : Cells w b o (bs.map u8) := hcl
   apply JC.drawL 12 [Eqv (_), Eqv (_), Eqv (_), Eqv (_), Eqv (_), Eqv (_), Eqv (_), Eqv (_), Eqv (_), Eqv (_), Eqv (_), Eqv (_)] Ty.mixed rfl rfl rfl (by kernel_rfl) rfl rfl (fun w w' hw hb => hw.step hb) ⟨fun _ _ _ h _ => h, fun _ _ _ h _ => h, fun _ _ _ h _ => h, fun _ _ _ h _ => h, fun _ _ _ h _ => h, fun _ _ _ h _ => h, fun _ _ _ h _ => h, fun _ _ _ h _ => h, fun _ _ _ h _ => h, fun _ _ _ h _ => h, fun _ _ _ h _ => h, fun _ _ _ h _ => h, trivial⟩ ?hstep ?htail
   case hstep =>
    refine ⟨fun wi => ?_, fun wi => ?_, fun wi => ?_, fun wi => ?_, fun wi => ?_, fun wi => ?_, fun wi => ?_, fun wi => ?_, fun wi => ?_, fun wi => ?_, fun wi => ?_, fun wi => ?_, trivial⟩
    ·refine Fin.nil ?_; refine J.move rfl rfl ?_
     exact J.finP rfl
    ·refine Fin.consE rfl (Fin.nil ?_); refine J.nilCheck rfl rfl ?_
     exact J.finP rfl
    ·refine Fin.consE rfl (Fin.nil ?_); refine J.fieldAddr Ty.fd67_0 rfl rfl ?_
     exact J.finP rfl
    ·refine Fin.consE rfl (Fin.nil ?_); refine J.load1 Ty.a26 rfl (fun w hw => (cell_of (hw.2.own (_, _) zm)).trans (by exact rfl)) rfl ?_
     exact J.finP rfl
    ·refine Fin.nil ?_; refine J.move rfl rfl ?_
     exact J.finP rfl
    ·refine Fin.consE rfl (Fin.nil ?_)
     (first | refine J.mulN rfl rfl (by omega) (by omega) rfl ?_ | refine J.bin rfl rfl rfl rfl ?_)
     exact J.finP rfl
    ·refine Fin.nil ?_; refine J.move rfl rfl ?_
     exact J.finP rfl
    ·refine Fin.consE rfl (Fin.consE rfl (Fin.nil ?_))
     (first | refine J.addN rfl rfl (by omega) (by omega) rfl ?_ | refine J.bin rfl rfl rfl rfl ?_)
     exact J.finP rfl
    ·refine Fin.nil ?_; refine J.move rfl rfl ?_
     exact J.finP rfl
    ·refine Fin.nil ?_; refine J.move rfl rfl ?_
     exact J.finP rfl
    ·refine Fin.consE rfl (Fin.consE rfl (Fin.nil ?_))
     refine J.indexAddrS Ty.el26 Ty.s5 rfl rfl (by omega) (by omega) rfl ?_
     exact J.finP rfl
    ·refine Fin.consE rfl (Fin.nil ?_); refine J.load1 (v := u8 (bs[j]'(by omega))) Ty.a5 rfl (fun w hw => ?_) rfl ?_
     ·have h1 := hcj.blk (hw.2.keep b (hcj.lt (by intro hx; have hx2 := congrArg List.length hx; rw [List.length_map, List.length_nil] at hx2; omega)) hbS)
      have h2 := h1 j (by simp; omega)
      rw [show o + (j : Int).toNat * 1 = o + j by omega, h2]
      simp [List.getElem?_eq_getElem (show j < bs.length by omega)]
     exact J.finP rfl
   case htail =>
    refine Fin.consE rfl (Fin.consE rfl (Fin.consE rfl (Fin.consE rfl (Fin.consE rfl (Fin.consE rfl (Fin.consE rfl (Fin.consE rfl (Fin.consE rfl (Fin.consE rfl (Fin.consE rfl (Fin.consE rfl (Fin.nil ?_))))))))))))
    refine J.indexAddrS Ty.el26 Ty.s5 rfl rfl (by omega) (by omega) rfl ?_; refine J.name 57 rfl (show Value.pointer (some ⟨q, 0 + (64 * i + (j : Int)).toNat * 1, none⟩) = .pointer (some ⟨q, 64 * i.toNat + j, none⟩) by congr 3; omega) ?_; refine J.storeO (vs := [u8 (bs[j]'(by omega))]) Ty.s5 rfl rfl rfl rfl (by simp [Value.oneCell']) (.there .here) (by simp [setMany_length, wst_length hB hi2n hbl64 j (by omega)]; omega) ?_; refine J.nil ?_; refine JX.blockN ?_; refine JX.thenN (hK11 _ _ ?_); refine JC.region ?_; refine J.move rfl rfl ?_
    (first | refine J.addN rfl rfl (by omega) (by omega) rfl ?_ | refine J.bin rfl rfl rfl rfl ?_)
    refine J.assign rfl rfl ?_; refine J.nil ?_; refine JX.thenN ?_; refine JX.again (j + 1) ?_ ?_ ?_
    ·omega
    ·exact ⟨rfl, rfl, rfl, rfl, trivial⟩
    ·exact fun w hw => ⟨hlt, by
      first
      | exact (by rw [← wst_byte hB hi2n hbl64 j hlt (by omega), ← set_u8 _ _ _ _ (by rw [List.length_set, wst_length hB hi2n hbl64 j (by omega)]; omega), ← set_u8 _ _ _ _ (by rw [wst_length hB hi2n hbl64 j (by omega)]; omega)]; exact hw)
      | exact (by rw [← wst_pad hB hi2n hbl64 j hlt (by omega), ← set_u8 _ _ _ _ (by rw [wst_length hB hi2n hbl64 j (by omega)]; omega)]; exact hw)⟩
  ·have hjm : m ≤ j := by simp at h4; omega
   refine JC.skip ?_; refine JX.blockN ?_; refine JX.thenN (hK11 _ _ ?_); refine JC.region ?_; refine J.move rfl rfl ?_
   (first | refine J.addN rfl rfl (by omega) (by omega) rfl ?_ | refine J.bin rfl rfl rfl rfl ?_)
   refine J.assign rfl rfl ?_; refine J.nil ?_; refine JX.thenN ?_; refine JX.again (j + 1) ?_ ?_ ?_
   ·omega
   ·exact ⟨rfl, rfl, rfl, rfl, trivial⟩
   ·exact fun w hw => ⟨hlt, by
     first
     | exact (by rw [← wst_byte hB hi2n hbl64 j hlt (by omega), ← set_u8 _ _ _ _ (by rw [List.length_set, wst_length hB hi2n hbl64 j (by omega)]; omega), ← set_u8 _ _ _ _ (by rw [wst_length hB hi2n hbl64 j (by omega)]; omega)]; exact hw)
     | exact (by rw [← wst_pad hB hi2n hbl64 j hlt (by omega), ← set_u8 _ _ _ _ (by rw [wst_length hB hi2n hbl64 j (by omega)]; omega)]; exact hw)⟩
 ·have hge : j = 64 := by simp at h3; omega
  subst hge
  refine JC.exit ?_; refine JX.thenE ?_; refine JX.thenE ?_; refine JX.blockE ?_; refine JX.thenN (hK7 _ _ ?_); refine JC.seq (fun K14 hK14 => ?_); refine JC.seq (fun K15 hK15 => ?_); refine JC.region ?_; refine J.move rfl rfl ?_; refine J.nilCheck rfl rfl ?_; refine J.fieldAddr Ty.fd67_1 rfl rfl ?_; refine J.loadO Ty.a3 rfl zm (by exact rfl) rfl ?_; refine J.bin rfl rfl rfl rfl ?_; refine J.nil ?_; refine JX.thenN (hK15 _ _ ?_)
  first | refine JC.condT rfl ?_ | refine JC.cond rfl (fun _ => ?_) (fun h => by first | (exfalso; simp at h; omega) | (simp at h))
  refine JC.region ?_; refine J.move rfl rfl ?_; refine J.nilCheck rfl rfl ?_; refine J.fieldAddr Ty.fd67_1 rfl rfl ?_; refine J.loadO Ty.a3 rfl zm (by exact rfl) rfl ?_
  (first | refine J.subN rfl rfl (by omega) (by omega) rfl ?_ | refine J.bin rfl rfl rfl rfl ?_)
  refine J.nilCheck rfl rfl ?_; refine J.fieldAddr Ty.fd67_1 rfl rfl ?_; refine J.storeO Ty.s3 rfl rfl rfl rfl (by simp [Value.oneCell']) zu (by simp) ?_; refine J.nil ?_; refine JX.thenN (hK14 _ _ ?_); refine JC.seq (fun K16 hK16 => ?_); refine JC.region ?_; refine J.move rfl rfl ?_; refine J.nilCheck rfl rfl ?_; refine J.fieldAddr Ty.fd67_2 rfl rfl ?_; refine J.loadO Ty.a3 rfl zm (by exact rfl) rfl ?_
  (first | refine J.addN rfl rfl (by omega) (by omega) rfl ?_ | refine J.bin rfl rfl rfl rfl ?_)
  refine J.nilCheck rfl rfl ?_; refine J.fieldAddr Ty.fd67_2 rfl rfl ?_; refine J.storeO Ty.s3 rfl rfl rfl rfl (by simp [Value.oneCell']) zu (by simp) ?_; refine J.nil ?_; refine JX.thenN (hK16 _ _ ?_); refine JC.seq (fun K17 hK17 => ?_); refine JC.region ?_; refine J.assign rfl rfl ?_; refine J.nil ?_; refine JX.thenN (hK17 _ _ ?_); refine JC.ret ?_; refine JX.ret1 rfl rfl (fun w hw => ?_)
  rw [wst_all (by omega)] at hw
  exact ⟨rfl, [(q, cb ((put B i.toNat bs).map u8 ++ sp) 5)], ⟨by rw [List.length_map, put_length hB hi2n hbl64]; omega, .inr ⟨q, c0, sp, rfl, rfl, by simp only [List.length_append, List.length_map, put_length hB hi2n hbl64, hB] at hcap ⊢; exact hcap, hnc⟩⟩, hw⟩

end Go.Proofs.Ytoaenmlhehcjfaa
/-
 The document's log is opened.
-/
namespace Go.Proofs.Ytoaenmlhehcjfaa
open Go.J Go.RowKit
set_option linter.unusedVariables false
set_option linter.unusedSimpArgs false
set_option maxRecDepth 4000
abbrev rlO (r : Nat) (q : LogP) (down : Bool) : Obj := cb [.pointer (some ⟨r, 0, none⟩), .int .u64 ((q.gen : Nat) : Int), .int .i64 ((q.used : Nat) : Int), .int .i64 ((q.cnt : Nat) : Int), .bool down] 83
structure OpSt2 where
 k : Nat
 at_ : Nat
 out : List (List UInt8)
 vs : List Value
 v9 : Value
 lv : List (Nat × Obj)
 lps : List (Nat × Obj)
 ar : Option Addr
 cr : Nat
abbrev restP (B : List UInt8) (top at_ : Nat) : List UInt8 := (B.drop (64 * at_)).take (64 * (top - at_))
theorem rest_get {B : List UInt8} {top at_ n j : Nat} (hB : B.length = 64 * n) (h1 : at_ ≤ top) (h2 : top ≤ n) (hj : j < 64 * (top - at_)) : ((restP B top at_).map u8)[j]? = some (u8 (B.getD (64 * at_ + j) 0)) := by
 rw [List.getElem?_map, List.getElem?_take_of_lt hj, List.getElem?_drop, List.getD_eq_getElem?_getD, List.getElem?_eq_getElem (by omega)]; rfl
theorem rest_length {B : List UInt8} {top at_ n : Nat} (hB : B.length = 64 * n) (h1 : at_ ≤ top) (h2 : top ≤ n) : (restP B top at_).length = 64 * (top - at_) := by simp; omega
theorem rest_rec {B : List UInt8} {top at_ sz : Nat} (h : sz + 2 ≤ 64 * (top - at_)) : ((restP B top at_).drop 2).take sz = (B.drop (64 * at_ + 2)).take sz := by
 rw [List.drop_take, List.take_take, List.drop_drop, show min sz (64 * (top - at_) - 2) = sz by omega]
theorem rest_more {B : List UInt8} {top at_ m : Nat} : ((restP B top at_).drop (64 * m)) = restP B top (at_ + m) := by
 rw [List.drop_take, List.drop_drop]
 congr 1
 ·omega
 ·congr 1; omega

theorem size_lt (B : List UInt8) (at_ : Nat) : sizeAt B at_ < 65536 := by
 unfold sizeAt
 have := UInt8.toNat_lt (B.getD (64 * at_) 0)
 have := UInt8.toNat_lt (B.getD (64 * at_ + 1) 0)
 omega

theorem ropen_spec (r n : Nat) (v : Value) (lp : List (Nat × Obj)) (B : List UInt8) (p k : Int) (w : World) (hw0 : Own w ((r, rfO v p k) :: lp)) (hv : Vec 5 1 v (64 * n) (B.map u8) lp) (hB : B.length = 64 * n) (hn : n ≤ 4096) :
  Calls Try.prog 27 [.pointer (some ⟨r, 0, none⟩)].toArray w fun ρ w' => match openP B n with
   | (e, none) => ρ = .returned (.tuple #[.pointer none, .slice none 0 0, .int .i64 e]) ∧ Bel w w'
   | (_, some q) => ∃ (b : Nat) (v : Value) (vs : List Value) (lv lps : List (Nat × Obj)), ρ = .returned (.tuple #[.pointer (some ⟨b, 0, none⟩), v, .int .i64 0]) ∧ Vec 26 1 v q.recs.length vs lv ∧ Recs 5 vs q.recs lps ∧ St w [] ((b, rlO r q false) :: (lv ++ lps)) w' := by
 obtain ⟨a0, c0, rfl, hnc0⟩ := hv.form
 have hrow : Row w (.slice a0 (64 * n) c0) (64 * n) (B.map u8) := hv.row (l := [(r, rfO (.slice a0 (64 * n) c0) p k)]) (hw0.st.perm zp)
 refine calls_of_J (args := [.pointer (some ⟨r, 0, none⟩)]) (e := [(0, .pointer (some ⟨r, 0, none⟩))]) Try.func27 rfl rfl ⟨rfl, trivial⟩ (St.start w) ?_; refine JC.seq (fun K0 hK0 => ?_); refine JC.region ?_; refine J.assign rfl rfl ?_; refine J.assign rfl rfl ?_; refine J.assign rfl rfl ?_; refine J.nil ?_; refine JX.thenN (hK0 _ _ ?_); refine JC.seq (fun K1 hK1 => ?_); refine JC.region ?_; refine J.move rfl rfl ?_; refine J.nilCheck rfl rfl ?_; refine J.fieldAddr Ty.fd67_0 rfl rfl ?_; refine J.loadR Ty.a26 rfl (hw0.cell (.head _) rfl) (by simp) rfl ?_; refine J.lenS rfl Ty.u26 rfl rfl ?_; refine J.quoN rfl rfl (by omega) (by omega) (by omega) rfl ?_; refine J.name 19 rfl (congrArg (Value.int .i64) (show ((64 * n : Nat) : Int) / 64 = (n : Int) by omega)) ?_; refine J.assign rfl rfl ?_; refine J.nil ?_; refine JX.thenN (hK1 _ _ ?_); refine JC.seq (fun K2 hK2 => ?_); refine JC.seq (fun K3 hK3 => ?_); refine JC.region ?_; refine J.move rfl rfl ?_; refine J.bin rfl rfl rfl rfl ?_; refine J.nil ?_; refine JX.thenN (hK3 _ _ ?_); refine JC.cond rfl (fun h0 => ?_) (fun h0 => ?_)
 ·have hopen := openP_small (B := B) (show n < 3 by simp at h0; omega)
  refine JC.seq (fun K4 hK4 => ?_); refine JC.region ?_; refine J.assign rfl rfl ?_; refine J.assign rfl rfl ?_; refine J.assign rfl rfl ?_; refine J.nil ?_; refine JX.thenN (hK4 _ _ ?_); refine JC.ret ?_; refine JX.thenR ?_; refine JX.ret3 rfl rfl rfl rfl (fun w1 hw => ?_)
  rw [hopen]
  first
  | exact ⟨rfl, hw.below⟩
  | exact ⟨b108, v9, vs, lv, lps, rfl, hol ▸ hvo, hro, hw⟩
 ·have hn3 : ¬ n < 3 := by simp at h0; omega
  obtain ⟨⟨gen, used, cnt_⟩, hbest⟩ : ∃ x, bestP B 2 = x := ⟨_, rfl⟩
  have hgl : gen < 18446744073709551616 := by
   have h1 := bestP_lt B 2
   rw [hbest] at h1
   exact h1
  refine JC.skip ?_; refine JX.thenN (hK2 _ _ ?_); refine JC.seq (fun K5 hK5 => ?_); refine JC.region ?_; refine J.move rfl rfl ?_; refine J.nilCheck rfl rfl ?_; refine J.fieldAddr Ty.fd67_0 rfl rfl ?_; refine J.loadR Ty.a26 rfl (hw0.cell (.head _) rfl) (by simp) rfl ?_
  refine J.callB (v := .tuple #[.int .u64 ((gen : Nat) : Int), .int .u64 ((used : Nat) : Int), .int .u64 ((cnt_ : Nat) : Int)]) (fun w1 w2 hw hb => hw.step hb) Ty.bd52 rfl rfl (fun w1 hw => by
   have h1 := rhead_spec _ (64 * n) B w1 (hrow.st (.inr (by simp)) hw) hB (by omega)
   rw [hbest] at h1
   exact h1) ?_
  refine J.move rfl rfl ?_; refine J.extract rfl rfl rfl ?_; refine J.extract rfl rfl rfl ?_; refine J.extract rfl rfl rfl ?_; refine J.assign rfl rfl ?_; refine J.assign rfl rfl ?_; refine J.assign rfl rfl ?_; refine J.nil ?_; refine JX.thenN (hK5 _ _ ?_); refine JC.seq (fun K6 hK6 => ?_); refine JC.seq (fun K7 hK7 => ?_); refine JC.region ?_
  rcases head_cases n (gen, used, cnt_) with hc | ⟨hc0, hc⟩ | ⟨hc0, hc1, hc⟩ | ⟨hc0, hc1, hc2⟩
  ·try simp only at hc
   try simp only at hc0
   try simp only at hc1
   try simp only at hc2
   have hopen := openP_bad (B := B) hn3 (by rw [hbest]; exact .inl hc)
   refine J.move rfl rfl ?_; refine J.bin rfl rfl rfl rfl ?_; refine J.bin rfl rfl rfl rfl ?_; refine J.name 33 rfl (congrArg Value.bool ((shr63 gen hgl).trans (decide_eq_true hc))) ?_; refine J.move rfl rfl ?_
   first | refine J.skip rfl rfl rfl rfl rfl ?_ | refine J.skipU rfl rfl rfl rfl ?_ | (refine J.unguard rfl rfl rfl ?_; refine J.move rfl rfl ?_)
   first | refine J.skip rfl rfl rfl rfl rfl ?_ | refine J.skipU rfl rfl rfl rfl ?_ | (refine J.unguard rfl rfl rfl ?_; refine J.move rfl rfl ?_)
   first | refine J.skip rfl rfl rfl rfl rfl ?_ | refine J.skipU rfl rfl rfl rfl ?_ | (refine J.unguard rfl rfl rfl ?_; (first | refine J.subN rfl rfl (by omega) (by omega) rfl ?_ | refine J.bin rfl rfl rfl rfl ?_))
   first | refine J.skip rfl rfl rfl rfl rfl ?_ | refine J.skipU rfl rfl rfl rfl ?_ | (refine J.unguard rfl rfl rfl ?_; refine J.convInt Ty.u3 Ty.u81 rfl rfl ?_)
   first | refine J.skip rfl rfl rfl rfl rfl ?_ | refine J.skipU rfl rfl rfl rfl ?_ | (refine J.unguard rfl rfl rfl ?_; refine J.bin rfl rfl rfl rfl ?_)
   (first | refine J.pickT rfl rfl rfl ?_ | refine J.pickF rfl rfl rfl ?_)
   refine J.move rfl rfl ?_
   first | refine J.skip rfl rfl rfl rfl rfl ?_ | refine J.skipU rfl rfl rfl rfl ?_ | (refine J.unguard rfl rfl rfl ?_; refine J.move rfl rfl ?_)
   first | refine J.skip rfl rfl rfl rfl rfl ?_ | refine J.skipU rfl rfl rfl rfl ?_ | (refine J.unguard rfl rfl rfl ?_; refine J.move rfl rfl ?_)
   first | refine J.skip rfl rfl rfl rfl rfl ?_ | refine J.skipU rfl rfl rfl rfl ?_ | (refine J.unguard rfl rfl rfl ?_; refine J.bin rfl rfl rfl rfl ?_)
   (first | refine J.pickT rfl rfl rfl ?_ | refine J.pickF rfl rfl rfl ?_)
   refine J.nil ?_; refine JX.thenN (hK7 _ _ ?_)
   first | refine JC.condT rfl ?_ | refine JC.cond rfl (fun _ => ?_) (fun h => by first | (exfalso; simp at h; omega) | (simp at h))
   refine JC.seq (fun K8 hK8 => ?_); refine JC.region ?_; refine J.assign rfl rfl ?_; refine J.assign rfl rfl ?_; refine J.assign rfl rfl ?_; refine J.nil ?_; refine JX.thenN (hK8 _ _ ?_); refine JC.ret ?_; refine JX.thenR ?_; refine JX.ret3 rfl rfl rfl rfl (fun w1 hw => ?_)
   rw [hopen]
   first
   | exact ⟨rfl, hw.below⟩
   | exact ⟨b108, v9, vs, lv, lps, rfl, hol ▸ hvo, hro, hw⟩
  ·try simp only at hc
   try simp only at hc0
   try simp only at hc1
   try simp only at hc2
   have hopen := openP_bad (B := B) hn3 (by rw [hbest]; exact .inr (.inl hc))
   refine J.move rfl rfl ?_; refine J.bin rfl rfl rfl rfl ?_; refine J.bin rfl rfl rfl rfl ?_; refine J.name 33 rfl (congrArg Value.bool ((shr63 gen hgl).trans (decide_eq_false hc0))) ?_; refine J.move rfl rfl ?_
   first | refine J.skip rfl rfl rfl rfl rfl ?_ | refine J.skipU rfl rfl rfl rfl ?_ | (refine J.unguard rfl rfl rfl ?_; refine J.move rfl rfl ?_)
   first | refine J.skip rfl rfl rfl rfl rfl ?_ | refine J.skipU rfl rfl rfl rfl ?_ | (refine J.unguard rfl rfl rfl ?_; refine J.move rfl rfl ?_)
   first | refine J.skip rfl rfl rfl rfl rfl ?_ | refine J.skipU rfl rfl rfl rfl ?_ | (refine J.unguard rfl rfl rfl ?_; (first | refine J.subN rfl rfl (by omega) (by omega) rfl ?_ | refine J.bin rfl rfl rfl rfl ?_))
   refine J.unguard rfl rfl rfl ?_; refine J.convInt Ty.u3 Ty.u81 rfl rfl ?_; refine J.name 38 rfl (congrArg (Value.int .u64) (show _ = ((n - 2 : Nat) : Int) by rw [wrap_u64 (by omega) (by omega)]; omega)) ?_; refine J.unguard rfl rfl rfl ?_; refine J.bin rfl rfl rfl rfl ?_; refine J.name 39 rfl (show Value.bool _ = .bool true by simp <;> omega) ?_
   (first | refine J.pickT rfl rfl rfl ?_ | refine J.pickF rfl rfl rfl ?_)
   refine J.move rfl rfl ?_
   first | refine J.skip rfl rfl rfl rfl rfl ?_ | refine J.skipU rfl rfl rfl rfl ?_ | (refine J.unguard rfl rfl rfl ?_; refine J.move rfl rfl ?_)
   first | refine J.skip rfl rfl rfl rfl rfl ?_ | refine J.skipU rfl rfl rfl rfl ?_ | (refine J.unguard rfl rfl rfl ?_; refine J.move rfl rfl ?_)
   first | refine J.skip rfl rfl rfl rfl rfl ?_ | refine J.skipU rfl rfl rfl rfl ?_ | (refine J.unguard rfl rfl rfl ?_; refine J.bin rfl rfl rfl rfl ?_)
   (first | refine J.pickT rfl rfl rfl ?_ | refine J.pickF rfl rfl rfl ?_)
   refine J.nil ?_; refine JX.thenN (hK7 _ _ ?_)
   first | refine JC.condT rfl ?_ | refine JC.cond rfl (fun _ => ?_) (fun h => by first | (exfalso; simp at h; omega) | (simp at h))
   refine JC.seq (fun K9 hK9 => ?_); refine JC.region ?_; refine J.assign rfl rfl ?_; refine J.assign rfl rfl ?_; refine J.assign rfl rfl ?_; refine J.nil ?_; refine JX.thenN (hK9 _ _ ?_); refine JC.ret ?_; refine JX.thenR ?_; refine JX.ret3 rfl rfl rfl rfl (fun w1 hw => ?_)
   rw [hopen]
   first
   | exact ⟨rfl, hw.below⟩
   | exact ⟨b108, v9, vs, lv, lps, rfl, hol ▸ hvo, hro, hw⟩
  ·try simp only at hc
   try simp only at hc0
   try simp only at hc1
   try simp only at hc2
   have hopen := openP_bad (B := B) hn3 (by rw [hbest]; exact .inr (.inr hc))
   refine J.move rfl rfl ?_; refine J.bin rfl rfl rfl rfl ?_; refine J.bin rfl rfl rfl rfl ?_; refine J.name 33 rfl (congrArg Value.bool ((shr63 gen hgl).trans (decide_eq_false hc0))) ?_; refine J.move rfl rfl ?_
   first | refine J.skip rfl rfl rfl rfl rfl ?_ | refine J.skipU rfl rfl rfl rfl ?_ | (refine J.unguard rfl rfl rfl ?_; refine J.move rfl rfl ?_)
   first | refine J.skip rfl rfl rfl rfl rfl ?_ | refine J.skipU rfl rfl rfl rfl ?_ | (refine J.unguard rfl rfl rfl ?_; refine J.move rfl rfl ?_)
   first | refine J.skip rfl rfl rfl rfl rfl ?_ | refine J.skipU rfl rfl rfl rfl ?_ | (refine J.unguard rfl rfl rfl ?_; (first | refine J.subN rfl rfl (by omega) (by omega) rfl ?_ | refine J.bin rfl rfl rfl rfl ?_))
   refine J.unguard rfl rfl rfl ?_; refine J.convInt Ty.u3 Ty.u81 rfl rfl ?_; refine J.name 38 rfl (congrArg (Value.int .u64) (show _ = ((n - 2 : Nat) : Int) by rw [wrap_u64 (by omega) (by omega)]; omega)) ?_; refine J.unguard rfl rfl rfl ?_; refine J.bin rfl rfl rfl rfl ?_; refine J.name 39 rfl (show Value.bool _ = .bool false by simp <;> omega) ?_
   (first | refine J.pickT rfl rfl rfl ?_ | refine J.pickF rfl rfl rfl ?_)
   refine J.move rfl rfl ?_
   first | refine J.skip rfl rfl rfl rfl rfl ?_ | refine J.skipU rfl rfl rfl rfl ?_ | (refine J.unguard rfl rfl rfl ?_; refine J.move rfl rfl ?_)
   first | refine J.skip rfl rfl rfl rfl rfl ?_ | refine J.skipU rfl rfl rfl rfl ?_ | (refine J.unguard rfl rfl rfl ?_; refine J.move rfl rfl ?_)
   refine J.unguard rfl rfl rfl ?_; refine J.bin rfl rfl rfl rfl ?_; refine J.name 44 rfl (show Value.bool _ = .bool true by simp <;> omega) ?_
   (first | refine J.pickT rfl rfl rfl ?_ | refine J.pickF rfl rfl rfl ?_)
   refine J.nil ?_; refine JX.thenN (hK7 _ _ ?_)
   first | refine JC.condT rfl ?_ | refine JC.cond rfl (fun _ => ?_) (fun h => by first | (exfalso; simp at h; omega) | (simp at h))
   refine JC.seq (fun K10 hK10 => ?_); refine JC.region ?_; refine J.assign rfl rfl ?_; refine J.assign rfl rfl ?_; refine J.assign rfl rfl ?_; refine J.nil ?_; refine JX.thenN (hK10 _ _ ?_); refine JC.ret ?_; refine JX.thenR ?_; refine JX.ret3 rfl rfl rfl rfl (fun w1 hw => ?_)
   rw [hopen]
   first
   | exact ⟨rfl, hw.below⟩
   | exact ⟨b108, v9, vs, lv, lps, rfl, hol ▸ hvo, hro, hw⟩
  ·try simp only at hc
   try simp only at hc0
   try simp only at hc1
   try simp only at hc2
   have hgood : ¬ badHead n (gen, used, cnt_) := by unfold badHead; simp only; omega
   have hul : used ≤ 4096 := by omega
   refine J.move rfl rfl ?_; refine J.bin rfl rfl rfl rfl ?_; refine J.bin rfl rfl rfl rfl ?_; refine J.name 33 rfl (congrArg Value.bool ((shr63 gen hgl).trans (decide_eq_false hc0))) ?_; refine J.move rfl rfl ?_
   first | refine J.skip rfl rfl rfl rfl rfl ?_ | refine J.skipU rfl rfl rfl rfl ?_ | (refine J.unguard rfl rfl rfl ?_; refine J.move rfl rfl ?_)
   first | refine J.skip rfl rfl rfl rfl rfl ?_ | refine J.skipU rfl rfl rfl rfl ?_ | (refine J.unguard rfl rfl rfl ?_; refine J.move rfl rfl ?_)
   first | refine J.skip rfl rfl rfl rfl rfl ?_ | refine J.skipU rfl rfl rfl rfl ?_ | (refine J.unguard rfl rfl rfl ?_; (first | refine J.subN rfl rfl (by omega) (by omega) rfl ?_ | refine J.bin rfl rfl rfl rfl ?_))
   refine J.unguard rfl rfl rfl ?_; refine J.convInt Ty.u3 Ty.u81 rfl rfl ?_; refine J.name 38 rfl (congrArg (Value.int .u64) (show _ = ((n - 2 : Nat) : Int) by rw [wrap_u64 (by omega) (by omega)]; omega)) ?_; refine J.unguard rfl rfl rfl ?_; refine J.bin rfl rfl rfl rfl ?_; refine J.name 39 rfl (show Value.bool _ = .bool false by simp <;> omega) ?_
   (first | refine J.pickT rfl rfl rfl ?_ | refine J.pickF rfl rfl rfl ?_)
   refine J.move rfl rfl ?_
   first | refine J.skip rfl rfl rfl rfl rfl ?_ | refine J.skipU rfl rfl rfl rfl ?_ | (refine J.unguard rfl rfl rfl ?_; refine J.move rfl rfl ?_)
   first | refine J.skip rfl rfl rfl rfl rfl ?_ | refine J.skipU rfl rfl rfl rfl ?_ | (refine J.unguard rfl rfl rfl ?_; refine J.move rfl rfl ?_)
   refine J.unguard rfl rfl rfl ?_; refine J.bin rfl rfl rfl rfl ?_; refine J.name 44 rfl (show Value.bool _ = .bool false by simp <;> omega) ?_
   (first | refine J.pickT rfl rfl rfl ?_ | refine J.pickF rfl rfl rfl ?_)
   refine J.nil ?_; refine JX.thenN (hK7 _ _ ?_)
   first | refine JC.condF rfl ?_ | refine JC.cond rfl (fun h => by first | (exfalso; simp at h; omega) | (simp at h)) (fun _ => ?_)
   refine JC.skip ?_; refine JX.thenN (hK6 _ _ ?_); refine JC.seq (fun K11 hK11 => ?_); refine JC.region ?_; refine J.assign rfl rfl ?_; refine J.nil ?_; refine JX.thenN (hK11 _ _ ?_); refine JC.seq (fun K12 hK12 => ?_); refine JC.region ?_; refine J.move rfl rfl ?_; refine J.nilCheck rfl rfl ?_; refine J.fieldAddr Ty.fd67_0 rfl rfl ?_; refine J.loadR Ty.a26 rfl (hw0.cell (.head _) rfl) (by simp) rfl ?_; refine J.move rfl rfl ?_; refine J.convInt Ty.u81 Ty.u3 rfl rfl ?_; refine J.name 51 rfl (congrArg (Value.int .i64) (show _ = ((used : Nat) : Int) from wrap_i64 (by omega) (by omega))) ?_
   (first | refine J.mulN rfl rfl (by omega) (by omega) rfl ?_ | refine J.bin rfl rfl rfl rfl ?_)
   refine J.addN rfl rfl (by omega) (by omega) rfl ?_; refine J.name 53 rfl (show Value.int .i64 _ = .int .i64 ((128 + 64 * used : Nat) : Int) by congr 1) ?_; refine J.sliceS (i := 128) (j := 128 + 64 * used) Ty.el26 Ty.s5 rfl rfl rfl (by simp [bnd]) rfl (by omega) (by omega) (by omega) rfl ?_
   have hrest0 : Row w (.slice (if c0 = 128 then a0 else a0.map (·.add (128 * 1))) (64 * (2 + used - 2)) (c0 - 128)) (64 * (2 + used - 2)) ((restP B (2 + used) 2).map u8) := by
    have h1 := hrow.slice (sz := 1) (i := 128) (j := 128 + 64 * used) (by simp [hB]) (by omega) (by omega)
    rw [Nat.mul_one, ← List.map_drop, ← List.map_take, show (128 + 64 * used - 128) * 1 = 64 * (2 + used - 2) by omega, show 128 + 64 * used - 128 = 64 * (2 + used - 2) by omega] at h1
    exact h1
   rw [show 128 + 64 * used - 128 = 64 * (2 + used - 2) by omega]
   refine J.assign rfl rfl ?_; refine J.nil ?_; refine JX.thenN (hK12 _ _ ?_); refine JC.seq (fun K13 hK13 => ?_); refine JC.seq (fun K14 hK14 => ?_); refine JC.region ?_; refine J.assign rfl rfl ?_; refine J.nil ?_; refine JX.thenN (hK14 _ _ ?_); refine JC.block ?_
   refine JC.conseq (JC.cov (f := (fun st => [(0, .pointer (some ⟨r, 0, none⟩)), (5, .int .i64 ((n : Nat) : Int)), (6, .int .u64 ((gen : Nat) : Int)), (7, .int .u64 ((used : Nat) : Int)), (8, .int .u64 ((cnt_ : Nat) : Int)), (9, st.v9), (10, .slice st.ar (64 * (2 + used - st.at_)) st.cr), (11, .int .u64 ((st.k : Nat) : Int))]) (⟨0, 2, [], [], .slice none 0 0, [], [], if c0 = 128 then a0 else a0.map (·.add (128 * 1)), c0 - 128⟩ : OpSt2)) ⟨rfl, rfl, rfl, rfl, rfl, rfl, rfl, rfl, trivial⟩ (JC.loop (α := OpSt2) (fun st => [(0, .pointer (some ⟨r, 0, none⟩)), (5, .int .i64 ((n : Nat) : Int)), (6, .int .u64 ((gen : Nat) : Int)), (7, .int .u64 ((used : Nat) : Int)), (8, .int .u64 ((cnt_ : Nat) : Int)), (9, st.v9), (10, .slice st.ar (64 * (2 + used - st.at_)) st.cr), (11, .int .u64 ((st.k : Nat) : Int))]) (fun st w' => (st.k ≤ cnt_ ∧ 2 ≤ st.at_ ∧ st.at_ ≤ 2 + used ∧ st.out.length = st.k ∧ Vec 26 1 st.v9 st.k st.vs st.lv ∧ Recs 5 st.vs st.out st.lps ∧ parseS B (2 + used) cnt_ 2 = (parseS B (2 + used) (cnt_ - st.k) st.at_).map (st.out ++ ·) ∧ Row w (.slice st.ar (64 * (2 + used - st.at_)) st.cr) (64 * (2 + used - st.at_)) ((restP B (2 + used) st.at_).map u8)) ∧ St w [] (st.lv ++ st.lps) w') (fun st => cnt_ - st.k) (⟨0, 2, [], [], .slice none 0 0, [], [], if c0 = 128 then a0 else a0.map (·.add (128 * 1)), c0 - 128⟩ : OpSt2) (fun st => ?_))) (fun w hw => ⟨⟨Nat.zero_le _, Nat.le_refl _, by show 2 ≤ 2 + used; omega, rfl, Vec.nil _ _, .nil, by simp, hrest0⟩, hw⟩)
   obtain ⟨k1, at_, out, vs, v9, lv, lps, ar, cr⟩ := st
   refine JC.pr (fun hx => ?_)
   obtain ⟨hk, hat, hat2, hol, hvo, hro, hpar, hrest⟩ := hx
   simp only at hk hat hat2 hol hvo hro hpar hrest ⊢
   refine JC.seq (fun K15 hK15 => ?_); refine JC.seq (fun K16 hK16 => ?_); refine JC.region ?_; refine J.move rfl rfl ?_; refine J.move rfl rfl ?_; refine J.bin rfl rfl rfl rfl ?_; refine J.nil ?_; refine JX.thenN (hK16 _ _ ?_); refine JC.cond rfl (fun h2 => ?_) (fun h2 => ?_)
   ·have hlt : k1 < cnt_ := by simp at h2; omega
    have hsuc : cnt_ - k1 = (cnt_ - (k1 + 1)) + 1 := by omega
    refine JC.skip ?_; refine JX.thenN (hK15 _ _ ?_); refine JC.seq (fun K17 hK17 => ?_); refine JC.block ?_; refine JC.seq (fun K18 hK18 => ?_); refine JC.seq (fun K19 hK19 => ?_); refine JC.region ?_; refine J.move rfl rfl ?_; refine J.lenS rfl Ty.u26 rfl rfl ?_; refine J.bin rfl rfl rfl rfl ?_; refine J.nil ?_; refine JX.thenN (hK19 _ _ ?_); refine JC.cond rfl (fun h3 => ?_) (fun h3 => ?_)
    ·have hopen := openP_none (B := B) hn3 hbest (by rw [hpar, hsuc, parseS, if_pos (by simp at h3; omega)]; rfl)
     refine JC.seq (fun K20 hK20 => ?_); refine JC.region ?_; refine J.assign rfl rfl ?_; refine J.assign rfl rfl ?_; refine J.assign rfl rfl ?_; refine J.nil ?_; refine JX.thenN (hK20 _ _ ?_); refine JC.ret ?_; refine JX.thenR ?_; refine JX.blockR ?_; refine JX.thenR ?_; refine JX.thenR ?_; refine JX.blockR ?_; refine JX.thenR ?_; refine JX.ret3 rfl rfl rfl rfl (fun w1 hw => ?_)
     rw [hopen]
     first
     | exact ⟨rfl, hw.below⟩
     | exact ⟨b108, v9, vs, lv, lps, rfl, hol ▸ hvo, hro, hw⟩
    ·have hlt5 : at_ < 2 + used := by simp at h3; omega
     have hrel := rest_length (top := 2 + used) (at_ := at_) hB (by omega) (by omega)
     obtain ⟨qb, qo, c', hqe, hcr, hcl⟩ := Row.some hrest (by rw [List.length_map, hrel]; omega)
     simp only [Value.slice.injEq, true_and] at hqe
     obtain ⟨rfl, rfl⟩ := hqe
     refine JC.skip ?_; refine JX.thenN (hK18 _ _ ?_); refine JC.seq (fun K21 hK21 => ?_)
     apply JC.drawL 10 [Eqv (_), Eqv (_), Eqv (_), Eqv (_), Eqv (_), Eqv (_), Eqv (_), Eqv (_), Eqv (_), Eqv (_)] Ty.mixed rfl rfl rfl (by kernel_rfl) rfl rfl (fun w w' hw hb => hw.step hb) ⟨fun _ _ _ h _ => h, fun _ _ _ h _ => h, fun _ _ _ h _ => h, fun _ _ _ h _ => h, fun _ _ _ h _ => h, fun _ _ _ h _ => h, fun _ _ _ h _ => h, fun _ _ _ h _ => h, fun _ _ _ h _ => h, fun _ _ _ h _ => h, trivial⟩ ?hstep ?htail
     case hstep =>
      refine ⟨fun wi => ?_, fun wi => ?_, fun wi => ?_, fun wi => ?_, fun wi => ?_, fun wi => ?_, fun wi => ?_, fun wi => ?_, fun wi => ?_, fun wi => ?_, trivial⟩
      ·refine Fin.nil ?_; refine J.move rfl rfl ?_
       exact J.finP rfl
      ·refine Fin.consE rfl (Fin.nil ?_); refine J.indexAddrS Ty.el26 Ty.s5 rfl rfl (by omega) (by omega) rfl ?_
       exact J.finP rfl
      ·refine Fin.consE rfl (Fin.nil ?_); refine J.load1 (v := u8 (B.getD (64 * at_) 0)) Ty.a5 rfl (fun w1 hw => (hcl.st (by rw [List.length_map, hrel]; omega) hw.2).get (rest_get hB (by omega) (by omega) (j := 0) (by omega)) (by simp)) rfl ?_
       exact J.finP rfl
      ·refine Fin.consE rfl (Fin.nil ?_); refine J.convInt Ty.u5 Ty.u3 rfl rfl ?_; refine J.name 66 rfl (congrArg (Value.int .i64) (show _ = (((B.getD (64 * at_) 0).toNat : Nat) : Int) from wrap_i64 (by omega) (by have := UInt8.toNat_lt (B.getD (64 * at_) 0); omega))) ?_
       exact J.finP rfl
      ·refine Fin.consE rfl (Fin.nil ?_); refine J.mulN rfl rfl (by omega) (by have := UInt8.toNat_lt (B.getD (64 * at_) 0); omega) rfl ?_
       exact J.finP rfl
      ·refine Fin.nil ?_; refine J.move rfl rfl ?_
       exact J.finP rfl
      ·refine Fin.consE rfl (Fin.nil ?_); refine J.indexAddrS Ty.el26 Ty.s5 rfl rfl (by omega) (by omega) rfl ?_
       exact J.finP rfl
      ·refine Fin.consE rfl (Fin.nil ?_); refine J.load1 (v := u8 (B.getD (64 * at_ + 1) 0)) Ty.a5 rfl (fun w1 hw => (hcl.st (by rw [List.length_map, hrel]; omega) hw.2).get (rest_get hB (by omega) (by omega) (j := 1) (by omega)) (by simp)) rfl ?_
       exact J.finP rfl
      ·refine Fin.consE rfl (Fin.nil ?_); refine J.convInt Ty.u5 Ty.u3 rfl rfl ?_; refine J.name 71 rfl (congrArg (Value.int .i64) (show _ = (((B.getD (64 * at_ + 1) 0).toNat : Nat) : Int) from wrap_i64 (by omega) (by have := UInt8.toNat_lt (B.getD (64 * at_ + 1) 0); omega))) ?_
       exact J.finP rfl
      ·refine Fin.consE rfl (Fin.consE rfl (Fin.nil ?_))
       refine J.addN rfl rfl (by omega) (by have := UInt8.toNat_lt (B.getD (64 * at_) 0); have := UInt8.toNat_lt (B.getD (64 * at_ + 1) 0); omega) rfl ?_; refine J.name 72 rfl (show _ = Value.int .i64 ((sizeAt B at_ : Nat) : Int) by unfold sizeAt; congr 1) ?_
       exact J.finP rfl
     case htail =>
      refine Fin.consE rfl (Fin.consE rfl (Fin.consE rfl (Fin.consE rfl (Fin.consE rfl (Fin.consE rfl (Fin.consE rfl (Fin.consE rfl (Fin.consE rfl (Fin.consE rfl (Fin.nil ?_))))))))))
      refine J.assign rfl rfl ?_; refine J.nil ?_; refine JX.thenN (hK21 _ _ ?_); refine JC.seq (fun K22 hK22 => ?_); refine JC.region ?_
      have hszb := size_lt B at_
      refine J.move rfl rfl ?_
      (first | refine J.addN rfl rfl (by omega) (by omega) rfl ?_ | refine J.bin rfl rfl rfl rfl ?_)
      (first | refine J.addN rfl rfl (by omega) (by omega) rfl ?_ | refine J.bin rfl rfl rfl rfl ?_)
      (first | refine J.quoN rfl rfl (by omega) (by omega) (by omega) rfl ?_ | refine J.bin rfl rfl rfl rfl ?_)
      refine J.mulN rfl rfl (by omega) (by omega) rfl ?_; refine J.name 77 rfl (congrArg (Value.int .i64) (show _ = ((64 * needN (sizeAt B at_) : Nat) : Int) by unfold needN; omega)) ?_; refine J.assign rfl rfl ?_; refine J.nil ?_; refine JX.thenN (hK22 _ _ ?_); refine JC.seq (fun K23 hK23 => ?_); refine JC.seq (fun K24 hK24 => ?_); refine JC.region ?_
      rcases size_cases (sizeAt B at_) (2 + used) at_ with hc | ⟨hz1, hc⟩ | ⟨hz1, hz2⟩
      ·have hopen := openP_none (B := B) hn3 hbest (by rw [hpar, hsuc, parseS, if_neg (by omega), if_pos (.inl hc)]; rfl)
       refine J.move rfl rfl ?_; refine J.bin rfl rfl rfl rfl ?_; refine J.name 79 rfl (show Value.bool _ = .bool true by simp <;> omega) ?_; refine J.move rfl rfl ?_
       first | refine J.skip rfl rfl rfl rfl rfl ?_ | refine J.skipU rfl rfl rfl rfl ?_ | (refine J.unguard rfl rfl rfl ?_; refine J.move rfl rfl ?_)
       first | refine J.skip rfl rfl rfl rfl rfl ?_ | refine J.skipU rfl rfl rfl rfl ?_ | (refine J.unguard rfl rfl rfl ?_; refine J.move rfl rfl ?_)
       first | refine J.skip rfl rfl rfl rfl rfl ?_ | refine J.skipU rfl rfl rfl rfl ?_ | (refine J.unguard rfl rfl rfl ?_; refine J.lenS rfl Ty.u26 rfl rfl ?_)
       first | refine J.skip rfl rfl rfl rfl rfl ?_ | refine J.skipU rfl rfl rfl rfl ?_ | (refine J.unguard rfl rfl rfl ?_; refine J.bin rfl rfl rfl rfl ?_)
       (first | refine J.pickT rfl rfl rfl ?_ | refine J.pickF rfl rfl rfl ?_)
       refine J.nil ?_; refine JX.thenN (hK24 _ _ ?_)
       first | refine JC.condT rfl ?_ | refine JC.cond rfl (fun _ => ?_) (fun h => by first | (exfalso; simp at h; omega) | (simp at h))
       refine JC.seq (fun K25 hK25 => ?_); refine JC.region ?_; refine J.assign rfl rfl ?_; refine J.assign rfl rfl ?_; refine J.assign rfl rfl ?_; refine J.nil ?_; refine JX.thenN (hK25 _ _ ?_); refine JC.ret ?_; refine JX.thenR ?_; refine JX.blockR ?_; refine JX.thenR ?_; refine JX.thenR ?_; refine JX.blockR ?_; refine JX.thenR ?_; refine JX.ret3 rfl rfl rfl rfl (fun w1 hw => ?_)
       rw [hopen]
       first
       | exact ⟨rfl, hw.below⟩
       | exact ⟨b108, v9, vs, lv, lps, rfl, hol ▸ hvo, hro, hw⟩
      ·have hopen := openP_none (B := B) hn3 hbest (by rw [hpar, hsuc, parseS, if_neg (by omega), if_pos (.inr hc)]; rfl)
       refine J.move rfl rfl ?_; refine J.bin rfl rfl rfl rfl ?_; refine J.name 79 rfl (show Value.bool _ = .bool false by simp <;> omega) ?_; refine J.move rfl rfl ?_
       first | refine J.skip rfl rfl rfl rfl rfl ?_ | refine J.skipU rfl rfl rfl rfl ?_ | (refine J.unguard rfl rfl rfl ?_; refine J.move rfl rfl ?_)
       first | refine J.skip rfl rfl rfl rfl rfl ?_ | refine J.skipU rfl rfl rfl rfl ?_ | (refine J.unguard rfl rfl rfl ?_; refine J.move rfl rfl ?_)
       first | refine J.skip rfl rfl rfl rfl rfl ?_ | refine J.skipU rfl rfl rfl rfl ?_ | (refine J.unguard rfl rfl rfl ?_; refine J.lenS rfl Ty.u26 rfl rfl ?_)
       refine J.unguard rfl rfl rfl ?_; refine J.bin rfl rfl rfl rfl ?_; refine J.name 84 rfl (show Value.bool _ = .bool true by simp <;> omega) ?_
       (first | refine J.pickT rfl rfl rfl ?_ | refine J.pickF rfl rfl rfl ?_)
       refine J.nil ?_; refine JX.thenN (hK24 _ _ ?_)
       first | refine JC.condT rfl ?_ | refine JC.cond rfl (fun _ => ?_) (fun h => by first | (exfalso; simp at h; omega) | (simp at h))
       refine JC.seq (fun K26 hK26 => ?_); refine JC.region ?_; refine J.assign rfl rfl ?_; refine J.assign rfl rfl ?_; refine J.assign rfl rfl ?_; refine J.nil ?_; refine JX.thenN (hK26 _ _ ?_); refine JC.ret ?_; refine JX.thenR ?_; refine JX.blockR ?_; refine JX.thenR ?_; refine JX.thenR ?_; refine JX.blockR ?_; refine JX.thenR ?_; refine JX.ret3 rfl rfl rfl rfl (fun w1 hw => ?_)
       rw [hopen]
       first
       | exact ⟨rfl, hw.below⟩
       | exact ⟨b108, v9, vs, lv, lps, rfl, hol ▸ hvo, hro, hw⟩
      ·have hnb := @need_bounds (sizeAt B at_)
       have hrl : ((B.drop (64 * at_ + 2)).take (sizeAt B at_)).length = sizeAt B at_ := by simp; omega
       refine J.move rfl rfl ?_; refine J.bin rfl rfl rfl rfl ?_; refine J.name 79 rfl (show Value.bool _ = .bool false by simp <;> omega) ?_; refine J.move rfl rfl ?_
       first | refine J.skip rfl rfl rfl rfl rfl ?_ | refine J.skipU rfl rfl rfl rfl ?_ | (refine J.unguard rfl rfl rfl ?_; refine J.move rfl rfl ?_)
       first | refine J.skip rfl rfl rfl rfl rfl ?_ | refine J.skipU rfl rfl rfl rfl ?_ | (refine J.unguard rfl rfl rfl ?_; refine J.move rfl rfl ?_)
       first | refine J.skip rfl rfl rfl rfl rfl ?_ | refine J.skipU rfl rfl rfl rfl ?_ | (refine J.unguard rfl rfl rfl ?_; refine J.lenS rfl Ty.u26 rfl rfl ?_)
       refine J.unguard rfl rfl rfl ?_; refine J.bin rfl rfl rfl rfl ?_; refine J.name 84 rfl (show Value.bool _ = .bool false by simp <;> omega) ?_
       (first | refine J.pickT rfl rfl rfl ?_ | refine J.pickF rfl rfl rfl ?_)
       refine J.nil ?_; refine JX.thenN (hK24 _ _ ?_)
       first | refine JC.condF rfl ?_ | refine JC.cond rfl (fun h => by first | (exfalso; simp at h; omega) | (simp at h)) (fun _ => ?_)
       refine JC.skip ?_; refine JX.thenN (hK23 _ _ ?_); refine JC.seq (fun K27 hK27 => ?_); refine JC.region ?_; refine J.move rfl rfl ?_; refine J.buildSl Ty.el26 Ty.s5 Ty.z5 rfl rfl rfl rfl rfl rfl rfl (fun b87 => ?_); refine J.move rfl rfl ?_; refine J.move rfl rfl ?_; refine J.addN rfl rfl (by omega) (by omega) rfl ?_; refine J.name 90 rfl (show Value.int .i64 _ = .int .i64 ((2 + sizeAt B at_ : Nat) : Int) by congr 1) ?_; refine J.sliceS (i := 2) (j := 2 + sizeAt B at_) Ty.el26 Ty.s5 rfl rfl rfl (by simp [bnd]) rfl (by omega) (by omega) (by omega) rfl ?_; refine J.append (lp := [(b87, cb [] 5)]) (xs := []) (ys := ((B.drop (64 * at_ + 2)).take (sizeAt B at_)).map u8) (k := 0) (m := 2 + sizeAt B at_ - 2) Ty.el26 Ty.s5 Ty.b5 Ty.z5 rfl (.inl ⟨5, Ty.u26⟩) rfl rfl ⟨rfl, .inr ⟨b87, 0, [], rfl, rfl, rfl, Nat.le_refl _⟩⟩ (fun w1 hw => .inl ?_) (by rw [List.length_map, hrl]; omega) (one_u8 _) (by omega) (by omega) rfl (fun v92 lp92 hv92 => ?_)
       ·have h1 := (hrest.st (.inr (by simp)) hw).slice (sz := 1) (i := 2) (j := 2 + sizeAt B at_) (by rw [List.length_map, hrel, Nat.mul_one]) (by omega) (by omega)
        rw [Nat.mul_one, Nat.mul_one, ← List.map_drop, ← List.map_take, show 2 + sizeAt B at_ - 2 = sizeAt B at_ by omega, rest_rec (by omega)] at h1
        rw [show 2 + sizeAt B at_ - 2 = sizeAt B at_ by omega]
        exact h1
       rw [List.nil_append, show 0 + (2 + sizeAt B at_ - 2) = sizeAt B at_ by omega] at hv92
       obtain ⟨a92, c92, rfl, hc92⟩ := hv92.form
       refine J.buildSl Ty.el57 Ty.s26 Ty.z26 rfl rfl rfl rfl rfl rfl rfl (fun b93 => ?_); refine J.perm ((b93, cb [.slice a92 (sizeAt B at_) c92] 26) :: (lp92 ++ (lv ++ lps))) (.refl _) ?_; refine J.perm (lv ++ ([(b93, cb [.slice a92 (sizeAt B at_) c92] 26)] ++ (lp92 ++ lps))) zp ?_; refine J.append (lp := lv) (ys := [.slice a92 (sizeAt B at_) c92]) (m := 1) Ty.el57 Ty.s26 Ty.b26 Ty.z26 rfl (.inl ⟨26, Ty.u57⟩) rfl rfl hvo (fun w1 hw => .inl (Row.own (cs := [.slice a92 (sizeAt B at_) c92]) (tb := 26) (fr := (0, 0)) hw (List.mem_append_right _ (.head _)) rfl (Nat.le_refl _))) rfl (by simp [Value.oneCell']) (by omega) (by omega) rfl (fun v94 lv94 hv94 => ?_)
       have hpar2 : parseS B (2 + used) cnt_ 2 = (parseS B (2 + used) (cnt_ - (k1 + 1)) (at_ + needN (sizeAt B at_))).map (fun x => (out ++ [(B.drop (64 * at_ + 2)).take (sizeAt B at_)]) ++ x) := by
        rw [hpar, hsuc, parseS, if_neg (by omega), if_neg (by omega), Option.map_map]
        congr 1
        funext x
        simp
       refine J.assign rfl rfl ?_; refine J.nil ?_; refine JX.thenN (hK27 _ _ ?_); refine JC.region ?_; refine J.move rfl rfl ?_; refine J.move rfl rfl ?_; refine J.sliceS (i := 64 * needN (sizeAt B at_)) (j := 64 * (2 + used - at_)) Ty.el26 Ty.s5 rfl rfl rfl (by simp only [bnd]; rw [if_pos (by omega)]; congr 1 <;> omega) rfl (by omega) hrest.cap hrest.cap rfl ?_
       have hrest2 := hrest.slice (sz := 1) (i := 64 * needN (sizeAt B at_)) (j := 64 * (2 + used - at_)) (by rw [List.length_map, hrel, Nat.mul_one]) (by omega) (Nat.le_refl _)
       rw [Nat.mul_one, Nat.mul_one, ← List.map_drop, rest_more, show 64 * (2 + used - at_) - 64 * needN (sizeAt B at_) = 64 * (2 + used - (at_ + needN (sizeAt B at_))) by omega, List.take_of_length_le (by rw [List.length_map, rest_length hB (by omega) (by omega)]; omega)] at hrest2
       rw [show 64 * (2 + used - at_) - 64 * needN (sizeAt B at_) = 64 * (2 + used - (at_ + needN (sizeAt B at_))) by omega, Nat.mul_one]
       refine J.assign rfl rfl ?_; refine J.nil ?_; refine JX.blockN ?_; refine JX.thenN (hK17 _ _ ?_); refine JC.region ?_; refine J.move rfl rfl ?_; refine J.bin rfl rfl rfl rfl ?_; refine J.name 59 rfl (congrArg (Value.int .u64) (show _ = ((k1 + 1 : Nat) : Int) from wrap_u64 (by omega) (by omega))) ?_; refine J.assign rfl rfl ?_; refine J.nil ?_; refine JX.thenN ?_; refine JX.again (⟨k1 + 1, at_ + needN (sizeAt B at_), out ++ [(B.drop (64 * at_ + 2)).take (sizeAt B at_)], vs ++ [.slice a92 (sizeAt B at_) c92], v94, lv94, lps ++ lp92, if cr = 64 * needN (sizeAt B at_) then some ⟨qb, qo, none⟩ else (some ⟨qb, qo, none⟩ : Option Addr).map (·.add (64 * needN (sizeAt B at_))), cr - 64 * needN (sizeAt B at_)⟩ : OpSt2) ?_ ?_ ?_
       ·simp only; omega
       ·exact ⟨rfl, rfl, rfl, rfl, rfl, rfl, rfl, rfl, trivial⟩
       ·exact fun w1 hw => ⟨⟨hlt, by simp only; omega, by simp only; omega, by simp [hol], hv94, .snoc hro (by rw [hrl]; exact hv92), hpar2, hrest2⟩, St.drop (St.perm (l' := [(b93, cb [.slice a92 (sizeAt B at_) c92] 26)] ++ (lv94 ++ (lps ++ lp92))) hw zp) (List.sublist_append_right _ _)⟩
   ·obtain rfl : cnt_ = k1 := by simp at h2; omega
    rw [Nat.sub_self] at hpar
    refine JC.exit ?_; refine JX.thenE ?_; refine JX.thenE ?_; refine JX.blockE ?_; refine JX.thenN (hK13 _ _ ?_); refine JC.seq (fun K28 hK28 => ?_); refine JC.seq (fun K29 hK29 => ?_); refine JC.region ?_; refine J.move rfl rfl ?_; refine J.lenS rfl Ty.u26 rfl rfl ?_; refine J.bin rfl rfl rfl rfl ?_; refine J.nil ?_; refine JX.thenN (hK29 _ _ ?_); refine JC.cond rfl (fun h5 => ?_) (fun h5 => ?_)
    ·have hopen := openP_none (B := B) hn3 hbest (by rw [hpar, parseS, if_neg (by simp at h5; omega)]; rfl)
     refine JC.seq (fun K30 hK30 => ?_); refine JC.region ?_; refine J.assign rfl rfl ?_; refine J.assign rfl rfl ?_; refine J.assign rfl rfl ?_; refine J.nil ?_; refine JX.thenN (hK30 _ _ ?_); refine JC.ret ?_; refine JX.thenR ?_; refine JX.ret3 rfl rfl rfl rfl (fun w1 hw => ?_)
     rw [hopen]
     first
     | exact ⟨rfl, hw.below⟩
     | exact ⟨b108, v9, vs, lv, lps, rfl, hol ▸ hvo, hro, hw⟩
    ·have hopen := openP_some (B := B) hn3 hbest hgood (rs := out) (by rw [hpar, parseS, if_pos (by simp at h5; omega)]; simp)
     refine JC.skip ?_; refine JX.thenN (hK28 _ _ ?_); refine JC.seq (fun K31 hK31 => ?_); refine JC.region ?_; refine J.move rfl rfl ?_; refine J.move rfl rfl ?_; refine J.move rfl rfl ?_; refine J.convInt Ty.u81 Ty.u3 rfl rfl ?_; refine J.name 104 rfl (congrArg (Value.int .i64) (show _ = ((used : Nat) : Int) from wrap_i64 (by omega) (by omega))) ?_; refine J.move rfl rfl ?_; refine J.convInt Ty.u81 Ty.u3 rfl rfl ?_; refine J.name 106 rfl (congrArg (Value.int .i64) (show _ = ((cnt_ : Nat) : Int) from wrap_i64 (by omega) (by omega))) ?_; refine J.buildS Ty.pl83 Ty.z83 rfl rfl rfl ?_; refine J.box rfl rfl rfl (fun b108 => ?_); refine J.move rfl rfl ?_; refine J.assign rfl rfl ?_; refine J.assign rfl rfl ?_; refine J.assign rfl rfl ?_; refine J.nil ?_; refine JX.thenN (hK31 _ _ ?_); refine JC.ret ?_; refine JX.ret3 rfl rfl rfl rfl (fun w1 hw => ?_)
     rw [hopen]
     first
     | exact ⟨rfl, hw.below⟩
     | exact ⟨b108, v9, vs, lv, lps, rfl, hol ▸ hvo, hro, hw⟩

end Go.Proofs.Ytoaenmlhehcjfaa
/-
 A record is appended: what that does, in plain words; and slate's Append.
-/
namespace Go.Proofs.Ytoaenmlhehcjfaa
open Go.J Go.RowKit
set_option linter.unusedVariables false
set_option linter.unusedSimpArgs false
set_option maxRecDepth 8000
/-- a disk's bytes, power and count -/
structure DS where
 B : List UInt8
 p : Int
 k : Int
def dw (σ : DS) (i : Nat) (bs : List UInt8) : DS := ⟨put σ.B i bs, if 0 < σ.p then σ.p - 1 else σ.p, σ.k + 1⟩
def dws (σ : DS) : List (Nat × List UInt8) → DS × Bool
 | [] => (σ, true)
 | x :: xs => if σ.p = 0 then (σ, false) else dws (dw σ x.1 x.2) xs
def payload (rec_ : List UInt8) : List UInt8 := [UInt8.ofNat (rec_.length / 256), UInt8.ofNat (rec_.length % 256)] ++ rec_
def piece (pay : List UInt8) (i : Nat) : List UInt8 := (pay.drop (64 * i)).take 64
def planP (gen used cnt_ : Nat) (rec_ : List UInt8) : List (Nat × List UInt8) :=
 (List.range (needN rec_.length)).map (fun i => (2 + used + i, piece (payload rec_) i)) ++ [((gen + 1) % 2, [gen + 1, used + needN rec_.length, cnt_ + 1].flatMap be8)]
/-- what appending does -/
def appendP (n : Nat) (q : LogP) (down : Bool) (σ : DS) (rec_ : List UInt8) : Int × LogP × Bool × DS :=
 if down then (8, q, true, σ) else
 if 1024 < rec_.length then (4, q, false, σ) else
 if n - 2 - q.used < needN rec_.length then (5, q, false, σ) else
 match dws σ (planP q.gen q.used q.cnt rec_) with
 | (σ', true) => (0, ⟨q.gen + 1, q.used + needN rec_.length, q.cnt + 1, q.recs ++ [rec_]⟩, false, σ')
 | (σ', false) => (8, q, true, σ')
theorem appendP_down {n : Nat} {q : LogP} {σ : DS} {rec_ : List UInt8} : appendP n q true σ rec_ = (8, q, true, σ) := rfl
theorem appendP_long {n : Nat} {q : LogP} {σ : DS} {rec_ : List UInt8} (h : 1024 < rec_.length) : appendP n q false σ rec_ = (4, q, false, σ) := by
 rw [appendP, if_neg (by simp), if_pos h]
theorem appendP_full {n : Nat} {q : LogP} {σ : DS} {rec_ : List UInt8} (h : ¬ 1024 < rec_.length) (h2 : n - 2 - q.used < needN rec_.length) : appendP n q false σ rec_ = (5, q, false, σ) := by
 rw [appendP, if_neg (by simp), if_neg h, if_pos h2]
theorem appendP_torn {n : Nat} {q : LogP} {σ σ' : DS} {rec_ : List UInt8} (h : ¬ 1024 < rec_.length) (h2 : ¬ n - 2 - q.used < needN rec_.length) (hd : dws σ (planP q.gen q.used q.cnt rec_) = (σ', false)) : appendP n q false σ rec_ = (8, q, true, σ') := by
 rw [appendP, if_neg (by simp), if_neg h, if_neg h2, hd]
theorem appendP_ok {n : Nat} {q : LogP} {σ σ' : DS} {rec_ : List UInt8} (h : ¬ 1024 < rec_.length) (h2 : ¬ n - 2 - q.used < needN rec_.length) (hd : dws σ (planP q.gen q.used q.cnt rec_) = (σ', true)) :
  appendP n q false σ rec_ = (0, ⟨q.gen + 1, q.used + needN rec_.length, q.cnt + 1, q.recs ++ [rec_]⟩, false, σ') := by
 rw [appendP, if_neg (by simp), if_neg h, if_neg h2, hd]
theorem payload_length (rec_ : List UInt8) : (payload rec_).length = 2 + rec_.length := by simp [payload]; omega
theorem piece_length (pay : List UInt8) (i : Nat) : (piece pay i).length = min (64 * (i + 1)) pay.length - 64 * i := by simp [piece]; omega
theorem plan_at {gen used cnt_ : Nat} {rec_ : List UInt8} {i : Nat} (h : i < needN rec_.length) :
  (planP gen used cnt_ rec_).drop i = (2 + used + i, piece (payload rec_) i) :: (planP gen used cnt_ rec_).drop (i + 1) := by
 have hl : i < (planP gen used cnt_ rec_).length := by simp [planP]; omega
 rw [List.drop_eq_getElem_cons hl]
 congr 1
 simp [planP, List.getElem_append, h]
theorem plan_last {gen used cnt_ : Nat} {rec_ : List UInt8} : (planP gen used cnt_ rec_).drop (needN rec_.length) = [((gen + 1) % 2, [gen + 1, used + needN rec_.length, cnt_ + 1].flatMap be8)] := by
 rw [planP, List.drop_left' (by simp)]
theorem dws_cons_torn {B : List UInt8} {k : Int} {x : Nat × List UInt8} {xs : List (Nat × List UInt8)} : dws ⟨B, 0, k⟩ (x :: xs) = (⟨B, 0, k⟩, false) := by simp [dws]
theorem dws_cons {σ : DS} {x : Nat × List UInt8} {xs : List (Nat × List UInt8)} (h : σ.p ≠ 0) : dws σ (x :: xs) = dws (dw σ x.1 x.2) xs := by simp [dws, h]
theorem dws_nil {σ : DS} : dws σ [] = (σ, true) := rfl
/-- a write that is done -/
theorem write_done (d s n : Nat) (B bs : List UInt8) (p k : Int) (i : Nat) (a : Option Addr) (m c : Nat) (w : World) (hw0 : Own w [(d, dkO s n p k), (s, dkS B)]) (hB : B.length = 64 * n) (hk : 0 ≤ k) (hk2 : k < 4611686018427387904) (hi : i < n) (hm : m ≤ 64) (hbl : bs.length = m) (hbv : Row w (.slice a m c) m (bs.map u8)) (hoff : Off [d, s] (.slice a m c) (bs.map u8)) (hp : p < 9223372036854775808) (hp0 : p ≠ 0) :
  Calls Try.prog 68 [.pointer (some ⟨d, 0, none⟩), .int .i64 ((i : Nat) : Int), .slice a m c].toArray w fun r w' => r = .returned (.int .i64 0) ∧ St w [d, s] [(d, dkO s n (if 0 < p then p - 1 else p) (k + 1)), (s, dkS (put B i bs))] w' := by
 by_cases h5 : 0 < p
 ·rw [if_pos h5]
  exact write_power d s n B bs p k i a m c w hw0 hB (by omega) (by omega) hk hk2 hm hbl hbv hoff h5 hp
 ·rw [if_neg h5]
  exact write_endless d s n B bs p k i a m c w hw0 hB (by omega) (by omega) hk hk2 hm hbl hbv hoff (by omega)
theorem rwrite_done (r n : Nat) (v : Value) (lp : List (Nat × Obj)) (B bs : List UInt8) (p k : Int) (i : Nat) (a : Option Addr) (m c : Nat) (w : World) (hw0 : Own w ((r, rfO v p k) :: lp)) (hv : Vec 5 1 v (64 * n) (B.map u8) lp) (hn : n ≤ 4096) (hB : B.length = 64 * n) (hk : 0 ≤ k) (hk2 : k < 4611686018427387904) (hi : i < n) (hm : m ≤ 64)
  (hbl : bs.length = m) (hbv : Row w (.slice a m c) m (bs.map u8)) (hoff : Off (r :: lp.map (·.1)) (.slice a m c) (bs.map u8)) (hp : p < 9223372036854775808) (hp0 : p ≠ 0) :
  Calls Try.prog 55 [.pointer (some ⟨r, 0, none⟩), .int .i64 ((i : Nat) : Int), .slice a m c].toArray w fun ρ w' => ∃ lp', ρ = .returned (.int .i64 0) ∧ Vec 5 1 v (64 * n) ((put B i bs).map u8) lp' ∧ St w (r :: lp.map (·.1)) ((r, rfO v (if 0 < p then p - 1 else p) (k + 1)) :: lp') w' := by
 by_cases h5 : 0 < p
 ·rw [if_pos h5]
  exact (rwrite_power r n v lp B p k w hw0 hv hn bs i a m c hB (by omega) (by omega) hk hk2 hm hbl hbv hoff h5 hp).mono fun _ _ ⟨h1, lp', h2, h3⟩ => ⟨lp', h1, h2, h3⟩
 ·rw [if_neg h5]
  exact (rwrite_endless r n v lp B p k w hw0 hv hn bs i a m c hB (by omega) (by omega) hk hk2 hm hbl hbv hoff (by omega)).mono fun _ _ ⟨h1, lp', h2, h3⟩ => ⟨lp', h1, h2, h3⟩
theorem vec_off {w0 w : World} {S : List Nat} {l1 l lp : List (Nat × Obj)} {t sz k c : Nat} {a : Option Addr} {xs ys : List Value} (h : Vec t sz (.slice a k c) k xs lp) (hw : St w0 S (l1 ++ (lp ++ l)) w) (j q k' c' : Nat) :
  Off (l1.map (·.1)) (.slice (if c = j then a else a.map (·.add q)) k' c') ys := by
 obtain ⟨_, h⟩ := h
 rcases h with ⟨he, _, _⟩ | ⟨b, c1, sp, he, rfl, _, _⟩
 ·simp only [Value.slice.injEq] at he
  obtain ⟨rfl, _, _⟩ := he
  exact .inr fun b o k c he => by simp at he
 ·simp only [Value.slice.injEq, true_and] at he
  obtain ⟨rfl, rfl⟩ := he
  have hb := hw.off (l1 := l1) (List.mem_append_left _ (.head _) : (b, cb (xs ++ sp) t) ∈ _)
  by_cases hc : c = j
  ·rw [if_pos hc]; exact Off.mk hb
  ·rw [if_neg hc, Option.map_some, addr_add]; exact Off.mk hb


theorem hi_byte (m : Nat) : Value.int .u8 (IntKind.u8.wrap (Int.fdiv ((m : Nat) : Int) (2 ^ (min (8 : Int).toNat IntKind.i64.bits)))) = u8 (UInt8.ofNat (m / 256)) := by
 have e : ((2 : Int) ^ (min (8 : Int).toNat IntKind.i64.bits)) = ((256 : Nat) : Int) := by decide
 rw [e, Int.fdiv_eq_ediv_of_nonneg _ (Int.natCast_nonneg _), wrap_u8m]
 show Value.int .u8 _ = Value.int .u8 _
 congr 1 <;> simp
theorem lo_byte (m : Nat) : Value.int .u8 (IntKind.u8.wrap ((m : Nat) : Int)) = u8 (UInt8.ofNat (m % 256)) := by
 rw [wrap_u8m]
 show Value.int .u8 _ = Value.int .u8 _
 congr 1
 simp

theorem append_spec (lb d s n : Nat) (q : LogP) (down : Bool) (B rec_ : List UInt8) (p k : Int) (a : Option Addr) (m c : Nat) (w : World) (hw0 : Own w [(lb, lgO d q down), (d, dkO s n p k), (s, dkS B)]) (hB : B.length = 64 * n) (hn : n ≤ 4096) (hn3 : 3 ≤ n) (hg : q.gen < 9223372036854775808) (hu : q.used ≤ n - 2) (hcn : q.cnt ≤ q.used) (hk : 0 ≤ k) (hk2 : k < 4611686018427380000) (hp : p < 9223372036854775808) (hml : rec_.length = m) (hm47 : m ≤ 140737488351232) (hr : Row w (.slice a m c) m (rec_.map u8)) (hoff : Off [lb, d, s] (.slice a m c) (rec_.map u8)) :
  Calls Try.prog 46 [.pointer (some ⟨lb, 0, none⟩), .slice a m c].toArray w fun r w' => match appendP n q down ⟨B, p, k⟩ rec_ with
   | (e, q', down', σ') => r = .returned (.int .i64 e) ∧ St w [lb, d, s] [(lb, lgO d q' down'), (d, dkO s n σ'.p σ'.k), (s, dkS σ'.B)] w' := by
 obtain ⟨gen, used, cnt_, recs⟩ := q
 simp only at hg hu hcn
 subst hml
 refine calls_of_J (args := [.pointer (some ⟨lb, 0, none⟩), .slice a rec_.length c]) (e := [(0, .pointer (some ⟨lb, 0, none⟩)), (1, .slice a rec_.length c)]) Try.func46 rfl rfl ⟨rfl, rfl, trivial⟩ (show St w [lb, d, s] [(lb, cb [.pointer (some ⟨d, 0, none⟩), .int .u64 ((gen : Nat) : Int), .int .i64 ((used : Nat) : Int), .int .i64 ((cnt_ : Nat) : Int), .bool down] 124), (d, dkO s n (p) (k)), (s, dkS (B))] w from hw0.st) ?_; refine JC.seq (fun K0 hK0 => ?_); refine JC.region ?_; refine J.assign rfl rfl ?_; refine J.nil ?_; refine JX.thenN (hK0 _ _ ?_); refine JC.seq (fun K1 hK1 => ?_); refine JC.block ?_; refine JC.seq (fun K2 hK2 => ?_); refine JC.region ?_; refine J.move rfl rfl ?_; refine J.eqNil Ty.u94 rfl rfl rfl ?_; refine J.assign rfl rfl ?_; refine J.nil ?_; refine JX.thenN (hK2 _ _ ?_)
 first | refine JC.condF rfl ?_ | refine JC.cond rfl (fun h => by first | (exfalso; simp at h; omega) | (simp at h)) (fun _ => ?_)
 refine JC.seq (fun K3 hK3 => ?_); refine JC.region ?_; refine J.move rfl rfl ?_; refine J.nilCheck rfl rfl ?_; refine J.fieldAddr Ty.fd124_4 rfl rfl ?_; refine J.loadO Ty.a4 rfl zm (by exact rfl) rfl ?_; refine J.assign rfl rfl ?_; refine J.nil ?_; refine JX.thenN (hK3 _ _ ?_); refine JC.cond rfl (fun h1 => ?_) (fun h1 => ?_)
 ·have happ := @appendP_down n ⟨gen, used, cnt_, recs⟩ ⟨B, p, k⟩ rec_
  subst h1
  refine JC.seq (fun K4 hK4 => ?_); refine JC.region ?_; refine J.assign rfl rfl ?_; refine J.nil ?_; refine JX.thenN (hK4 _ _ ?_); refine JC.ret ?_; refine JX.blockR ?_; refine JX.thenR ?_; refine JX.ret1 rfl rfl (fun w1 hw => ?_)
  rw [happ]
  first
  | exact ⟨rfl, hw⟩
  | exact ⟨rfl, hw.drop (.cons_cons _ (.cons_cons _ (.cons_cons _ (List.nil_sublist _))))⟩
 ·subst h1
  refine JC.seq (fun K5 hK5 => ?_); refine JC.region ?_; refine J.move rfl rfl ?_; refine J.lenS rfl Ty.u26 rfl rfl ?_; refine J.bin rfl rfl rfl rfl ?_; refine J.assign rfl rfl ?_; refine J.nil ?_; refine JX.thenN (hK5 _ _ ?_); refine JC.cond rfl (fun h2 => ?_) (fun h2 => ?_)
  ·have happ := appendP_long (n := n) (q := ⟨gen, used, cnt_, recs⟩) (σ := ⟨B, p, k⟩) (rec_ := rec_) (by simp at h2; omega)
   refine JC.seq (fun K6 hK6 => ?_); refine JC.region ?_; refine J.assign rfl rfl ?_; refine J.nil ?_; refine JX.thenN (hK6 _ _ ?_); refine JC.ret ?_; refine JX.blockR ?_; refine JX.thenR ?_; refine JX.ret1 rfl rfl (fun w1 hw => ?_)
   rw [happ]
   first
   | exact ⟨rfl, hw⟩
   | exact ⟨rfl, hw.drop (.cons_cons _ (.cons_cons _ (.cons_cons _ (List.nil_sublist _))))⟩
  ·have hlong : ¬ 1024 < rec_.length := by simp at h2; omega
   have hnd : 1 ≤ needN rec_.length ∧ needN rec_.length ≤ 18 := by unfold needN; omega
   have hpl := payload_length rec_
   refine JC.seq (fun K7 hK7 => ?_)
   by_cases hfull : n - 2 - used < needN rec_.length
   ·have happ := appendP_full (n := n) (q := ⟨gen, used, cnt_, recs⟩) (σ := ⟨B, p, k⟩) hlong hfull
    apply JC.drawL 15 [Eqv (_), Eqv (_), Eqv (_), Eqv (_), Eqv (_), Eqv (_), Eqv (_), Eqv (_), Eqv (_), Eqv (_), Eqv (_), Eqv (_), Eqv (_), Eqv (_), Eqv (_)] Ty.mixed rfl rfl rfl (by kernel_rfl) rfl rfl (fun w w' hw hb => hw.step hb) ⟨fun _ _ _ h _ => h, fun _ _ _ h _ => h, fun _ _ _ h _ => h, fun _ _ _ h _ => h, fun _ _ _ h _ => h, fun _ _ _ h _ => h, fun _ _ _ h _ => h, fun _ _ _ h _ => h, fun _ _ _ h _ => h, fun _ _ _ h _ => h, fun _ _ _ h _ => h, fun _ _ _ h _ => h, fun _ _ _ h _ => h, fun _ _ _ h _ => h, fun _ _ _ h _ => h, trivial⟩ ?hstep ?htail
    case hstep =>
     refine ⟨fun wi => ?_, fun wi => ?_, fun wi => ?_, fun wi => ?_, fun wi => ?_, fun wi => ?_, fun wi => ?_, fun wi => ?_, fun wi => ?_, fun wi => ?_, fun wi => ?_, fun wi => ?_, fun wi => ?_, fun wi => ?_, fun wi => ?_, trivial⟩
     ·refine Fin.nil ?_; refine J.move rfl rfl ?_
      exact J.finP rfl
     ·refine Fin.consE rfl (Fin.nil ?_); refine J.lenS rfl Ty.u26 rfl rfl ?_
      exact J.finP rfl
     ·refine Fin.consE rfl (Fin.nil ?_); refine J.callD Ty.bd63 rfl rfl (fun w1 hw => need_spec rec_.length w1 (by omega)) ?_
      exact J.finQ rfl
     ·refine Fin.nil ?_; refine J.move rfl rfl ?_
      exact J.finP rfl
     ·refine Fin.consE rfl (Fin.nil ?_); refine J.nilCheck rfl rfl ?_
      exact J.finP rfl
     ·refine Fin.consE rfl (Fin.nil ?_); refine J.fieldAddr Ty.fd124_0 rfl rfl ?_
      exact J.finP rfl
     ·refine Fin.consE rfl (Fin.nil ?_); refine J.load1 Ty.a34 rfl (fun w hw => (cell_of (hw.2.own (_, _) zm)).trans (by exact rfl)) rfl ?_
      exact J.finP rfl
     ·refine Fin.consE rfl (Fin.consE rfl (Fin.nil ?_))
      refine J.callD Ty.bd60 rfl rfl (fun w1 hw => size_spec d s n p k w1 (St.owns (l1 := [(d, dkO s n (p) (k)), (s, dkS (B))]) (l := [(lb, cb [.pointer (some ⟨d, 0, none⟩), .int .u64 ((gen : Nat) : Int), .int .i64 ((used : Nat) : Int), .int .i64 ((cnt_ : Nat) : Int), .bool false] 124)]) (hw.perm zp))) ?_
      exact J.finQ rfl
     ·refine Fin.consE rfl (Fin.nil ?_)
      (first | refine J.subN rfl rfl (by omega) (by omega) rfl ?_ | refine J.bin rfl rfl rfl rfl ?_)
      exact J.finP rfl
     ·refine Fin.nil ?_; refine J.move rfl rfl ?_
      exact J.finP rfl
     ·refine Fin.consE rfl (Fin.nil ?_); refine J.nilCheck rfl rfl ?_
      exact J.finP rfl
     ·refine Fin.consE rfl (Fin.nil ?_); refine J.fieldAddr Ty.fd124_2 rfl rfl ?_
      exact J.finP rfl
     ·refine Fin.consE rfl (Fin.nil ?_); refine J.load1 Ty.a3 rfl (fun w hw => (cell_of (hw.2.own (_, _) zm)).trans (by exact rfl)) rfl ?_
      exact J.finP rfl
     ·refine Fin.consE rfl (Fin.consE rfl (Fin.nil ?_))
      (first | refine J.subN rfl rfl (by omega) (by omega) rfl ?_ | refine J.bin rfl rfl rfl rfl ?_)
      exact J.finP rfl
     ·refine Fin.consE rfl (Fin.consE rfl (Fin.nil ?_))
      refine J.bin rfl rfl rfl rfl ?_; refine J.name 38 rfl (show Value.bool _ = .bool true by simp <;> omega) ?_
      exact J.finP rfl
    case htail =>
     refine Fin.consE rfl (Fin.consE rfl (Fin.consE rfl (Fin.consE rfl (Fin.consE rfl (Fin.consE rfl (Fin.consE rfl (Fin.consE rfl (Fin.consE rfl (Fin.consE rfl (Fin.consE rfl (Fin.consE rfl (Fin.consE rfl (Fin.consE rfl (Fin.consE rfl (Fin.nil ?_)))))))))))))))
     refine J.assign rfl rfl ?_; refine J.nil ?_; refine JX.thenN (hK7 _ _ ?_)
     first | refine JC.condT rfl ?_ | refine JC.cond rfl (fun _ => ?_) (fun h => by first | (exfalso; simp at h; omega) | (simp at h))
     refine JC.seq (fun K8 hK8 => ?_); refine JC.region ?_; refine J.assign rfl rfl ?_; refine J.nil ?_; refine JX.thenN (hK8 _ _ ?_); refine JC.ret ?_; refine JX.blockR ?_; refine JX.thenR ?_; refine JX.ret1 rfl rfl (fun w1 hw => ?_)
     rw [happ]
     first
     | exact ⟨rfl, hw⟩
     | exact ⟨rfl, hw.drop (.cons_cons _ (.cons_cons _ (.cons_cons _ (List.nil_sublist _))))⟩
   ·apply JC.drawL 15 [Eqv (_), Eqv (_), Eqv (_), Eqv (_), Eqv (_), Eqv (_), Eqv (_), Eqv (_), Eqv (_), Eqv (_), Eqv (_), Eqv (_), Eqv (_), Eqv (_), Eqv (_)] Ty.mixed rfl rfl rfl (by kernel_rfl) rfl rfl (fun w w' hw hb => hw.step hb) ⟨fun _ _ _ h _ => h, fun _ _ _ h _ => h, fun _ _ _ h _ => h, fun _ _ _ h _ => h, fun _ _ _ h _ => h, fun _ _ _ h _ => h, fun _ _ _ h _ => h, fun _ _ _ h _ => h, fun _ _ _ h _ => h, fun _ _ _ h _ => h, fun _ _ _ h _ => h, fun _ _ _ h _ => h, fun _ _ _ h _ => h, fun _ _ _ h _ => h, fun _ _ _ h _ => h, trivial⟩ ?hstep ?htail
    case hstep =>
     refine ⟨fun wi => ?_, fun wi => ?_, fun wi => ?_, fun wi => ?_, fun wi => ?_, fun wi => ?_, fun wi => ?_, fun wi => ?_, fun wi => ?_, fun wi => ?_, fun wi => ?_, fun wi => ?_, fun wi => ?_, fun wi => ?_, fun wi => ?_, trivial⟩
     ·refine Fin.nil ?_; refine J.move rfl rfl ?_
      exact J.finP rfl
     ·refine Fin.consE rfl (Fin.nil ?_); refine J.lenS rfl Ty.u26 rfl rfl ?_
      exact J.finP rfl
     ·refine Fin.consE rfl (Fin.nil ?_); refine J.callD Ty.bd63 rfl rfl (fun w1 hw => need_spec rec_.length w1 (by omega)) ?_
      exact J.finQ rfl
     ·refine Fin.nil ?_; refine J.move rfl rfl ?_
      exact J.finP rfl
     ·refine Fin.consE rfl (Fin.nil ?_); refine J.nilCheck rfl rfl ?_
      exact J.finP rfl
     ·refine Fin.consE rfl (Fin.nil ?_); refine J.fieldAddr Ty.fd124_0 rfl rfl ?_
      exact J.finP rfl
     ·refine Fin.consE rfl (Fin.nil ?_); refine J.load1 Ty.a34 rfl (fun w hw => (cell_of (hw.2.own (_, _) zm)).trans (by exact rfl)) rfl ?_
      exact J.finP rfl
     ·refine Fin.consE rfl (Fin.consE rfl (Fin.nil ?_))
      refine J.callD Ty.bd60 rfl rfl (fun w1 hw => size_spec d s n p k w1 (St.owns (l1 := [(d, dkO s n (p) (k)), (s, dkS (B))]) (l := [(lb, cb [.pointer (some ⟨d, 0, none⟩), .int .u64 ((gen : Nat) : Int), .int .i64 ((used : Nat) : Int), .int .i64 ((cnt_ : Nat) : Int), .bool false] 124)]) (hw.perm zp))) ?_
      exact J.finQ rfl
     ·refine Fin.consE rfl (Fin.nil ?_)
      (first | refine J.subN rfl rfl (by omega) (by omega) rfl ?_ | refine J.bin rfl rfl rfl rfl ?_)
      exact J.finP rfl
     ·refine Fin.nil ?_; refine J.move rfl rfl ?_
      exact J.finP rfl
     ·refine Fin.consE rfl (Fin.nil ?_); refine J.nilCheck rfl rfl ?_
      exact J.finP rfl
     ·refine Fin.consE rfl (Fin.nil ?_); refine J.fieldAddr Ty.fd124_2 rfl rfl ?_
      exact J.finP rfl
     ·refine Fin.consE rfl (Fin.nil ?_); refine J.load1 Ty.a3 rfl (fun w hw => (cell_of (hw.2.own (_, _) zm)).trans (by exact rfl)) rfl ?_
      exact J.finP rfl
     ·refine Fin.consE rfl (Fin.consE rfl (Fin.nil ?_))
      (first | refine J.subN rfl rfl (by omega) (by omega) rfl ?_ | refine J.bin rfl rfl rfl rfl ?_)
      exact J.finP rfl
     ·refine Fin.consE rfl (Fin.consE rfl (Fin.nil ?_))
      refine J.bin rfl rfl rfl rfl ?_; refine J.name 38 rfl (show Value.bool _ = .bool false by simp <;> omega) ?_
      exact J.finP rfl
    case htail =>
     refine Fin.consE rfl (Fin.consE rfl (Fin.consE rfl (Fin.consE rfl (Fin.consE rfl (Fin.consE rfl (Fin.consE rfl (Fin.consE rfl (Fin.consE rfl (Fin.consE rfl (Fin.consE rfl (Fin.consE rfl (Fin.consE rfl (Fin.consE rfl (Fin.consE rfl (Fin.nil ?_)))))))))))))))
     refine J.assign rfl rfl ?_; refine J.nil ?_; refine JX.thenN (hK7 _ _ ?_)
     first | refine JC.condF rfl ?_ | refine JC.cond rfl (fun h => by first | (exfalso; simp at h; omega) | (simp at h)) (fun _ => ?_)
     refine JC.skip ?_; refine JX.blockN ?_; refine JX.thenN (hK1 _ _ ?_); refine JC.seq (fun K9 hK9 => ?_); refine JC.region ?_; refine J.move rfl rfl ?_; refine J.lenS rfl Ty.u26 rfl rfl ?_; refine J.bin rfl rfl rfl rfl ?_; refine J.convInt Ty.u3 Ty.u5 rfl rfl ?_; refine J.name 42 rfl (hi_byte rec_.length) ?_; refine J.move rfl rfl ?_; refine J.lenS rfl Ty.u26 rfl rfl ?_; refine J.convInt Ty.u3 Ty.u5 rfl rfl ?_; refine J.name 45 rfl (lo_byte rec_.length) ?_; refine J.buildSl Ty.el26 Ty.s5 Ty.z5 rfl rfl rfl rfl rfl rfl rfl (fun b46 => ?_); refine J.move rfl rfl ?_; refine J.append (lp := [(b46, cb [u8 (UInt8.ofNat (rec_.length / 256)), u8 (UInt8.ofNat (rec_.length % 256))] 5)]) (xs := [u8 (UInt8.ofNat (rec_.length / 256)), u8 (UInt8.ofNat (rec_.length % 256))]) (ys := rec_.map u8) (k := 2) (m := rec_.length) Ty.el26 Ty.s5 Ty.b5 Ty.z5 rfl (.inl ⟨5, Ty.u26⟩) rfl rfl ⟨rfl, .inr ⟨b46, 2, [], rfl, rfl, rfl, Nat.le_refl _⟩⟩ (fun w1 hw => .inl (hr.st hoff hw)) (by simp) (one_u8 _) (by omega) (by omega) rfl (fun v48 lp48 hv48 => ?_)
     obtain ⟨a48, c48, rfl, hc48⟩ := hv48.form
     have hv48 : Vec 5 1 (.slice a48 (2 + rec_.length) c48) (2 + rec_.length) ((payload rec_).map u8) lp48 := hv48
     refine J.perm ((lb, cb [.pointer (some ⟨d, 0, none⟩), .int .u64 ((gen : Nat) : Int), .int .i64 ((used : Nat) : Int), .int .i64 ((cnt_ : Nat) : Int), .bool false] 124) :: (d, dkO s n (p) (k)) :: (s, dkS (B)) :: lp48) zp ?_; refine J.assign rfl rfl ?_; refine J.nil ?_; refine JX.thenN (hK9 _ _ ?_); refine JC.seq (fun K10 hK10 => ?_); refine JC.seq (fun K11 hK11 => ?_); refine JC.region ?_; refine J.move rfl rfl ?_; refine J.lenS rfl Ty.u26 rfl rfl ?_; refine J.callB (fun w1 w2 hw hb => hw.step hb) Ty.bd63 rfl rfl (fun w1 hw => need_spec rec_.length w1 (by omega)) ?_; refine J.move rfl rfl ?_; refine J.nil ?_; refine JX.thenN (hK11 _ _ ?_); refine JC.block ?_
     refine JC.conseq (JC.cov (f := (fun st => [(0, .pointer (some ⟨lb, 0, none⟩)), (1, .slice a rec_.length c), (5, .slice a48 (2 + rec_.length) c48), (51, .int .i64 ((needN rec_.length : Nat) : Int)), (52, .int .i64 ((st.1 : Nat) : Int))]) ((0, B, p, k) : Nat × List UInt8 × Int × Int)) ⟨rfl, rfl, rfl, rfl, rfl, trivial⟩ (JC.loop (α := Nat × List UInt8 × Int × Int) (fun st => [(0, .pointer (some ⟨lb, 0, none⟩)), (1, .slice a rec_.length c), (5, .slice a48 (2 + rec_.length) c48), (51, .int .i64 ((needN rec_.length : Nat) : Int)), (52, .int .i64 ((st.1 : Nat) : Int))]) (fun st w' => (st.1 ≤ needN rec_.length ∧ st.2.1.length = 64 * n ∧ 0 ≤ st.2.2.2 ∧ st.2.2.2 ≤ k + st.1 ∧ st.2.2.1 < 9223372036854775808 ∧ dws ⟨B, p, k⟩ (planP gen used cnt_ rec_) = dws ⟨st.2.1, st.2.2.1, st.2.2.2⟩ ((planP gen used cnt_ rec_).drop st.1)) ∧ St w [lb, d, s] ((lb, cb [.pointer (some ⟨d, 0, none⟩), .int .u64 ((gen : Nat) : Int), .int .i64 ((used : Nat) : Int), .int .i64 ((cnt_ : Nat) : Int), .bool false] 124) :: (d, dkO s n (st.2.2.1) (st.2.2.2)) :: (s, dkS (st.2.1)) :: lp48) w') (fun st => needN rec_.length - st.1) ((0, B, p, k) : Nat × List UInt8 × Int × Int) (fun st => ?_))) (fun w hw => ⟨⟨Nat.zero_le _, hB, hk, by simp, hp, rfl⟩, hw⟩)
     obtain ⟨i, B1, p1, k1⟩ := st
     refine JC.pr (fun hx => ?_)
     obtain ⟨hi, hB1, hk10, hk11, hp1, hdw⟩ := hx
     simp only at hi hB1 hk10 hk11 hp1 hdw ⊢
     refine JC.seq (fun K12 hK12 => ?_); refine JC.region ?_; refine J.bin rfl rfl rfl rfl ?_; refine J.nil ?_; refine JX.thenN (hK12 _ _ ?_); refine JC.seq (fun K13 hK13 => ?_); refine JC.cond rfl (fun h4 => ?_) (fun h4 => ?_)
     ·have hlt : i < needN rec_.length := by simp at h4; omega
      have hlt64 : 64 * i < 2 + rec_.length := by unfold needN at hlt; omega
      refine JC.skip ?_; refine JX.thenN (hK13 _ _ ?_); refine JC.seq (fun K14 hK14 => ?_); refine JC.block ?_; refine JC.seq (fun K15 hK15 => ?_); refine JC.region ?_; refine J.move rfl rfl ?_; refine J.assign rfl rfl ?_; refine J.nil ?_; refine JX.thenN (hK15 _ _ ?_); refine JC.seq (fun K16 hK16 => ?_); refine JC.region ?_; refine J.move rfl rfl ?_; refine J.move rfl rfl ?_
      (first | refine J.mulN rfl rfl (by omega) (by omega) rfl ?_ | refine J.bin rfl rfl rfl rfl ?_)
      refine J.move rfl rfl ?_
      (first | refine J.addN rfl rfl (by omega) (by omega) rfl ?_ | refine J.bin rfl rfl rfl rfl ?_)
      refine J.mulN rfl rfl (by omega) (by omega) rfl ?_; refine J.move rfl rfl ?_; refine J.lenS rfl Ty.u26 rfl rfl ?_; refine J.min2 rfl rfl rfl ?_; refine J.sliceS (i := 64 * i) (j := min (64 * (i + 1)) (2 + rec_.length)) Ty.el26 Ty.s5 rfl rfl rfl (by simp only [bnd]; rw [if_pos (by omega)]; congr 1 <;> omega) (by simp only [bnd]; rw [if_pos (by omega)]; congr 1 <;> omega) (by omega) (by omega) (by omega) rfl ?_; refine J.assign rfl rfl ?_; refine J.nil ?_; refine JX.thenN (hK16 _ _ ?_); refine JC.seq (fun K17 hK17 => ?_)
      by_cases hp0 : p1 = 0
      ·subst hp0
       have happ := appendP_torn (n := n) (q := ⟨gen, used, cnt_, recs⟩) (σ := ⟨B, p, k⟩) hlong hfull (hdw.trans (by rw [plan_at hlt]; exact dws_cons_torn))
       apply JC.drawL 12 [Eqv (_), Eqv (_), Eqv (_), Eqv (_), Eqv (_), Eqv (_), Eqv (_), Eqv (_), Eqv (_), Eqv (_), Eqv (_), Eqv (_)] Ty.mixed rfl rfl rfl (by kernel_rfl) rfl rfl (fun w w' hw hb => hw.step hb) ⟨fun _ _ _ h _ => h, fun _ _ _ h _ => h, fun _ _ _ h _ => h, fun _ _ _ h _ => h, fun _ _ _ h _ => h, fun _ _ _ h _ => h, fun _ _ _ h _ => h, fun _ _ _ h _ => h, fun _ _ _ h _ => h, fun _ _ _ h _ => h, fun _ _ _ h _ => h, fun _ _ _ h _ => h, trivial⟩ ?hstep ?htail
       case hstep =>
        refine ⟨fun wi => ?_, fun wi => ?_, fun wi => ?_, fun wi => ?_, fun wi => ?_, fun wi => ?_, fun wi => ?_, fun wi => ?_, fun wi => ?_, fun wi => ?_, fun wi => ?_, fun wi => ?_, trivial⟩
        ·refine Fin.nil ?_; refine J.move rfl rfl ?_
         exact J.finP rfl
        ·refine Fin.consE rfl (Fin.nil ?_); refine J.nilCheck rfl rfl ?_
         exact J.finP rfl
        ·refine Fin.consE rfl (Fin.nil ?_); refine J.fieldAddr Ty.fd124_0 rfl rfl ?_
         exact J.finP rfl
        ·refine Fin.consE rfl (Fin.nil ?_); refine J.load1 Ty.a34 rfl (fun w hw => (cell_of (hw.2.own (_, _) zm)).trans (by exact rfl)) rfl ?_
         exact J.finP rfl
        ·refine Fin.nil ?_; refine J.move rfl rfl ?_
         exact J.finP rfl
        ·refine Fin.consE rfl (Fin.nil ?_); refine J.nilCheck rfl rfl ?_
         exact J.finP rfl
        ·refine Fin.consE rfl (Fin.nil ?_); refine J.fieldAddr Ty.fd124_2 rfl rfl ?_
         exact J.finP rfl
        ·refine Fin.consE rfl (Fin.nil ?_); refine J.load1 Ty.a3 rfl (fun w hw => (cell_of (hw.2.own (_, _) zm)).trans (by exact rfl)) rfl ?_
         exact J.finP rfl
        ·refine Fin.consE rfl (Fin.nil ?_); refine J.addN rfl rfl (by omega) (by omega) rfl ?_
         exact J.finP rfl
        ·refine Fin.nil ?_; refine J.move rfl rfl ?_
         exact J.finP rfl
        ·refine Fin.consE rfl (Fin.consE rfl (Fin.nil ?_))
         refine J.addN rfl rfl (by omega) (by omega) rfl ?_; refine J.name 75 rfl (show Value.int .i64 _ = .int .i64 ((2 + used + i : Nat) : Int) by congr 1) ?_
         exact J.finP rfl
        ·refine Fin.nil ?_; refine J.move rfl rfl ?_
         exact J.finP rfl
       case htail =>
        refine Fin.consE rfl (Fin.consE rfl (Fin.consE rfl (Fin.consE rfl (Fin.consE rfl (Fin.consE rfl (Fin.consE rfl (Fin.consE rfl (Fin.consE rfl (Fin.consE rfl (Fin.consE rfl (Fin.consE rfl (Fin.nil ?_))))))))))))
        refine J.perm ([(d, dkO s n (0) (k1)), (s, dkS (B1))] ++ ((lb, cb [.pointer (some ⟨d, 0, none⟩), .int .u64 ((gen : Nat) : Int), .int .i64 ((used : Nat) : Int), .int .i64 ((cnt_ : Nat) : Int), .bool false] 124) :: lp48)) zp ?_; refine J.callB (fun w1 w2 hw hb => hw.step hb) Ty.bd68 rfl rfl (fun w1 hw => write_down d s n k1 w1 (St.owns (l1 := [(d, dkO s n (0) (k1)), (s, dkS (B1))]) hw) ((2 + used + i : Nat) : Int) _ (min (64 * (i + 1)) (2 + rec_.length) - 64 * i) (c48 - 64 * i) (by omega) (by omega) (by omega)) ?_; refine J.perm ((lb, cb [.pointer (some ⟨d, 0, none⟩), .int .u64 ((gen : Nat) : Int), .int .i64 ((used : Nat) : Int), .int .i64 ((cnt_ : Nat) : Int), .bool false] 124) :: (d, dkO s n (0) (k1)) :: (s, dkS (B1)) :: lp48) zp ?_; refine J.assign rfl rfl ?_; refine J.nil ?_; refine JX.thenN (hK17 _ _ ?_); refine JC.seq (fun K18 hK18 => ?_); refine JC.region ?_; refine J.move rfl rfl ?_; refine J.bin rfl rfl rfl rfl ?_; refine J.nil ?_; refine JX.thenN (hK18 _ _ ?_)
        first | refine JC.condT rfl ?_ | refine JC.cond rfl (fun _ => ?_) (fun h => by first | (exfalso; simp at h; omega) | (simp at h))
        refine JC.seq (fun K19 hK19 => ?_); refine JC.region ?_; refine J.move rfl rfl ?_; refine J.nilCheck rfl rfl ?_; refine J.fieldAddr Ty.fd124_4 rfl rfl ?_; refine J.storeO Ty.s4 rfl rfl rfl rfl (by simp [Value.oneCell']) zu (by simp) ?_; refine J.nil ?_; refine JX.thenN (hK19 _ _ ?_); refine JC.seq (fun K20 hK20 => ?_); refine JC.region ?_; refine J.move rfl rfl ?_; refine J.assign rfl rfl ?_; refine J.nil ?_; refine JX.thenN (hK20 _ _ ?_); refine JC.ret ?_; refine JX.blockR ?_; refine JX.thenR ?_; refine JX.thenR ?_; refine JX.blockR ?_; refine JX.thenR ?_; refine JX.ret1 rfl rfl (fun w1 hw => ?_)
        rw [happ]
        first
        | exact ⟨rfl, hw⟩
        | exact ⟨rfl, hw.drop (.cons_cons _ (.cons_cons _ (.cons_cons _ (List.nil_sublist _))))⟩
      ·apply JC.drawL 12 [Eqv (_), Eqv (_), Eqv (_), Eqv (_), Eqv (_), Eqv (_), Eqv (_), Eqv (_), Eqv (_), Eqv (_), Eqv (_), Eqv (_)] Ty.mixed rfl rfl rfl (by kernel_rfl) rfl rfl (fun w w' hw hb => hw.step hb) ⟨fun _ _ _ h _ => h, fun _ _ _ h _ => h, fun _ _ _ h _ => h, fun _ _ _ h _ => h, fun _ _ _ h _ => h, fun _ _ _ h _ => h, fun _ _ _ h _ => h, fun _ _ _ h _ => h, fun _ _ _ h _ => h, fun _ _ _ h _ => h, fun _ _ _ h _ => h, fun _ _ _ h _ => h, trivial⟩ ?hstep ?htail
       case hstep =>
        refine ⟨fun wi => ?_, fun wi => ?_, fun wi => ?_, fun wi => ?_, fun wi => ?_, fun wi => ?_, fun wi => ?_, fun wi => ?_, fun wi => ?_, fun wi => ?_, fun wi => ?_, fun wi => ?_, trivial⟩
        ·refine Fin.nil ?_; refine J.move rfl rfl ?_
         exact J.finP rfl
        ·refine Fin.consE rfl (Fin.nil ?_); refine J.nilCheck rfl rfl ?_
         exact J.finP rfl
        ·refine Fin.consE rfl (Fin.nil ?_); refine J.fieldAddr Ty.fd124_0 rfl rfl ?_
         exact J.finP rfl
        ·refine Fin.consE rfl (Fin.nil ?_); refine J.load1 Ty.a34 rfl (fun w hw => (cell_of (hw.2.own (_, _) zm)).trans (by exact rfl)) rfl ?_
         exact J.finP rfl
        ·refine Fin.nil ?_; refine J.move rfl rfl ?_
         exact J.finP rfl
        ·refine Fin.consE rfl (Fin.nil ?_); refine J.nilCheck rfl rfl ?_
         exact J.finP rfl
        ·refine Fin.consE rfl (Fin.nil ?_); refine J.fieldAddr Ty.fd124_2 rfl rfl ?_
         exact J.finP rfl
        ·refine Fin.consE rfl (Fin.nil ?_); refine J.load1 Ty.a3 rfl (fun w hw => (cell_of (hw.2.own (_, _) zm)).trans (by exact rfl)) rfl ?_
         exact J.finP rfl
        ·refine Fin.consE rfl (Fin.nil ?_); refine J.addN rfl rfl (by omega) (by omega) rfl ?_
         exact J.finP rfl
        ·refine Fin.nil ?_; refine J.move rfl rfl ?_
         exact J.finP rfl
        ·refine Fin.consE rfl (Fin.consE rfl (Fin.nil ?_))
         refine J.addN rfl rfl (by omega) (by omega) rfl ?_; refine J.name 75 rfl (show Value.int .i64 _ = .int .i64 ((2 + used + i : Nat) : Int) by congr 1) ?_
         exact J.finP rfl
        ·refine Fin.nil ?_; refine J.move rfl rfl ?_
         exact J.finP rfl
       case htail =>
        refine Fin.consE rfl (Fin.consE rfl (Fin.consE rfl (Fin.consE rfl (Fin.consE rfl (Fin.consE rfl (Fin.consE rfl (Fin.consE rfl (Fin.consE rfl (Fin.consE rfl (Fin.consE rfl (Fin.consE rfl (Fin.nil ?_))))))))))))
        refine J.perm ([(d, dkO s n (p1) (k1)), (s, dkS (B1))] ++ ((lb, cb [.pointer (some ⟨d, 0, none⟩), .int .u64 ((gen : Nat) : Int), .int .i64 ((used : Nat) : Int), .int .i64 ((cnt_ : Nat) : Int), .bool false] 124) :: lp48)) zp ?_
        refine J.callT (l1 := [(d, dkO s n (p1) (k1)), (s, dkS (B1))]) (L := [(d, dkO s n (if 0 < p1 then p1 - 1 else p1) (k1 + 1)), (s, dkS (put B1 (2 + used + i) (piece (payload rec_) i)))]) Ty.bd68 rfl rfl (fun w1 hw => write_done d s n B1 (piece (payload rec_) i) p1 k1 (2 + used + i) (if c48 = 64 * i then a48 else a48.map (·.add (64 * i * 1))) (min (64 * (i + 1)) (2 + rec_.length) - 64 * i) (c48 - 64 * i) w1 hw.owns hB1 hk10 (by omega) (by omega) (by omega) (by rw [piece_length, payload_length]) (by
          have h1 := (hv48.row (l := [(lb, cb [.pointer (some ⟨d, 0, none⟩), .int .u64 ((gen : Nat) : Int), .int .i64 ((used : Nat) : Int), .int .i64 ((cnt_ : Nat) : Int), .bool false] 124), (d, dkO s n (p1) (k1)), (s, dkS (B1))]) (hw.perm zp)).slice (sz := 1) (i := 64 * i) (j := min (64 * (i + 1)) (2 + rec_.length)) (by rw [List.length_map, payload_length, Nat.mul_one]) (by omega) (by omega)
          have h2 : ((payload rec_).drop (64 * i)).take (min (64 * (i + 1)) (2 + rec_.length) - 64 * i) = piece (payload rec_) i := by
           have h3 : (payload rec_).length = 2 + rec_.length := payload_length rec_
           rw [piece]
           by_cases h4 : 64 * (i + 1) ≤ 2 + rec_.length
           ·congr 1; omega
           ·rw [List.take_of_length_le (by simp; omega), List.take_of_length_le (by simp; omega)]
          have h5 : List.take ((min (64 * (i + 1)) (2 + rec_.length) - 64 * i) * 1) (List.drop (64 * i * 1) ((payload rec_).map u8)) = (piece (payload rec_) i).map u8 := by
           rw [Nat.mul_one, Nat.mul_one, ← List.map_drop, ← List.map_take, h2]
          rw [h5] at h1
          exact h1) (vec_off (l1 := [(d, dkO s n (p1) (k1)), (s, dkS (B1))]) (l := [(lb, cb [.pointer (some ⟨d, 0, none⟩), .int .u64 ((gen : Nat) : Int), .int .i64 ((used : Nat) : Int), .int .i64 ((cnt_ : Nat) : Int), .bool false] 124)]) hv48 (hw.perm zp) _ _ _ _) hp1 hp0) ?_
        refine J.perm ((lb, cb [.pointer (some ⟨d, 0, none⟩), .int .u64 ((gen : Nat) : Int), .int .i64 ((used : Nat) : Int), .int .i64 ((cnt_ : Nat) : Int), .bool false] 124) :: (d, dkO s n (if 0 < p1 then p1 - 1 else p1) (k1 + 1)) :: (s, dkS (put B1 (2 + used + i) (piece (payload rec_) i))) :: lp48) zp ?_; refine J.assign rfl rfl ?_; refine J.nil ?_; refine JX.thenN (hK17 _ _ ?_); refine JC.seq (fun K21 hK21 => ?_); refine JC.region ?_; refine J.move rfl rfl ?_; refine J.bin rfl rfl rfl rfl ?_; refine J.nil ?_; refine JX.thenN (hK21 _ _ ?_)
        first | refine JC.condF rfl ?_ | refine JC.cond rfl (fun h => by first | (exfalso; simp at h; omega) | (simp at h)) (fun _ => ?_)
        refine JC.skip ?_; refine JX.blockN ?_; refine JX.thenN (hK14 _ _ ?_); refine JC.region ?_
        (first | refine J.addN rfl rfl (by omega) (by omega) rfl ?_ | refine J.bin rfl rfl rfl rfl ?_)
        refine J.move rfl rfl ?_; refine J.nil ?_; refine JX.thenN ?_; refine JX.again (i + 1, put B1 (2 + used + i) (piece (payload rec_) i), if 0 < p1 then p1 - 1 else p1, k1 + 1) ?_ ?_ ?_
        ·simp only; omega
        ·exact ⟨rfl, rfl, rfl, rfl, rfl, trivial⟩
        ·exact fun w1 hw => ⟨⟨hlt, put_length hB1 (by omega) (by rw [piece_length]; omega), by simp only; omega, by simp only; omega, by simp only; split <;> omega, by simp only; rw [hdw, plan_at hlt, dws_cons hp0]; rfl⟩, hw⟩
     ·obtain rfl : i = needN rec_.length := by simp at h4; omega
      refine JC.exit ?_; refine JX.thenE ?_; refine JX.thenE ?_; refine JX.blockE ?_; refine JX.thenN (hK10 _ _ ?_); refine JC.seq (fun K22 hK22 => ?_)
      apply JC.drawL 20 [Eqv (_), Eqv (_), Eqv (_), Eqv (_), Eqv (_), Eqv (_), Eqv (_), Eqv (_), Eqv (_), Eqv (_), Eqv (_), Eqv (_), Eqv (_), Eqv (_), Eqv (_), Eqv (_), Eqv (_), Eqv (_), Eqv (_), Eqv (_)] Ty.mixed rfl rfl rfl (by kernel_rfl) rfl rfl (fun w w' hw hb => hw.step hb) ⟨fun _ _ _ h _ => h, fun _ _ _ h _ => h, fun _ _ _ h _ => h, fun _ _ _ h _ => h, fun _ _ _ h _ => h, fun _ _ _ h _ => h, fun _ _ _ h _ => h, fun _ _ _ h _ => h, fun _ _ _ h _ => h, fun _ _ _ h _ => h, fun _ _ _ h _ => h, fun _ _ _ h _ => h, fun _ _ _ h _ => h, fun _ _ _ h _ => h, fun _ _ _ h _ => h, fun _ _ _ h _ => h, fun _ _ _ h _ => h, fun _ _ _ h _ => h, fun _ _ _ h _ => h, fun _ _ _ h _ => h, trivial⟩ ?hstep ?htail
      case hstep =>
       refine ⟨fun wi => ?_, fun wi => ?_, fun wi => ?_, fun wi => ?_, fun wi => ?_, fun wi => ?_, fun wi => ?_, fun wi => ?_, fun wi => ?_, fun wi => ?_, fun wi => ?_, fun wi => ?_, fun wi => ?_, fun wi => ?_, fun wi => ?_, fun wi => ?_, fun wi => ?_, fun wi => ?_, fun wi => ?_, fun wi => ?_, trivial⟩
       ·refine Fin.nil ?_; refine J.move rfl rfl ?_
        exact J.finP rfl
       ·refine Fin.consE rfl (Fin.nil ?_); refine J.nilCheck rfl rfl ?_
        exact J.finP rfl
       ·refine Fin.consE rfl (Fin.nil ?_); refine J.fieldAddr Ty.fd124_1 rfl rfl ?_
        exact J.finP rfl
       ·refine Fin.consE rfl (Fin.nil ?_); refine J.load1 Ty.a81 rfl (fun w hw => (cell_of (hw.2.own (_, _) zm)).trans (by exact rfl)) rfl ?_
        exact J.finP rfl
       ·refine Fin.consE rfl (Fin.nil ?_); refine J.bin rfl rfl rfl rfl ?_; refine J.name 89 rfl (congrArg (Value.int .u64) (show _ = ((gen + 1 : Nat) : Int) from wrap_u64 (by omega) (by omega))) ?_
        exact J.finP rfl
       ·refine Fin.nil ?_; refine J.move rfl rfl ?_
        exact J.finP rfl
       ·refine Fin.consE rfl (Fin.nil ?_); refine J.nilCheck rfl rfl ?_
        exact J.finP rfl
       ·refine Fin.consE rfl (Fin.nil ?_); refine J.fieldAddr Ty.fd124_2 rfl rfl ?_
        exact J.finP rfl
       ·refine Fin.consE rfl (Fin.nil ?_); refine J.load1 Ty.a3 rfl (fun w hw => (cell_of (hw.2.own (_, _) zm)).trans (by exact rfl)) rfl ?_
        exact J.finP rfl
       ·refine Fin.nil ?_; refine J.move rfl rfl ?_
        exact J.finP rfl
       ·refine Fin.consE rfl (Fin.nil ?_); refine J.lenS rfl Ty.u26 rfl rfl ?_
        exact J.finP rfl
       ·refine Fin.consE rfl (Fin.nil ?_); refine J.callD Ty.bd63 rfl rfl (fun w1 hw => need_spec rec_.length w1 (by omega)) ?_
        exact J.finQ rfl
       ·refine Fin.consE rfl (Fin.consE rfl (Fin.nil ?_))
        (first | refine J.addN rfl rfl (by omega) (by omega) rfl ?_ | refine J.bin rfl rfl rfl rfl ?_)
        exact J.finP rfl
       ·refine Fin.consE rfl (Fin.nil ?_); refine J.convInt Ty.u3 Ty.u81 rfl rfl ?_; refine J.name 98 rfl (congrArg (Value.int .u64) (show _ = ((used + needN rec_.length : Nat) : Int) from wrap_u64 (by omega) (by omega))) ?_
        exact J.finP rfl
       ·refine Fin.nil ?_; refine J.move rfl rfl ?_
        exact J.finP rfl
       ·refine Fin.consE rfl (Fin.nil ?_); refine J.nilCheck rfl rfl ?_
        exact J.finP rfl
       ·refine Fin.consE rfl (Fin.nil ?_); refine J.fieldAddr Ty.fd124_3 rfl rfl ?_
        exact J.finP rfl
       ·refine Fin.consE rfl (Fin.nil ?_); refine J.load1 Ty.a3 rfl (fun w hw => (cell_of (hw.2.own (_, _) zm)).trans (by exact rfl)) rfl ?_
        exact J.finP rfl
       ·refine Fin.consE rfl (Fin.nil ?_)
        (first | refine J.addN rfl rfl (by omega) (by omega) rfl ?_ | refine J.bin rfl rfl rfl rfl ?_)
        exact J.finP rfl
       ·refine Fin.consE rfl (Fin.nil ?_); refine J.convInt Ty.u3 Ty.u81 rfl rfl ?_; refine J.name 104 rfl (congrArg (Value.int .u64) (show _ = ((cnt_ + 1 : Nat) : Int) from wrap_u64 (by omega) (by omega))) ?_
        exact J.finP rfl
      case htail =>
       refine Fin.consE rfl (Fin.consE rfl (Fin.consE rfl (Fin.consE rfl (Fin.consE rfl (Fin.consE rfl (Fin.consE rfl (Fin.consE rfl (Fin.consE rfl (Fin.consE rfl (Fin.consE rfl (Fin.consE rfl (Fin.consE rfl (Fin.consE rfl (Fin.consE rfl (Fin.consE rfl (Fin.consE rfl (Fin.consE rfl (Fin.consE rfl (Fin.consE rfl (Fin.nil ?_))))))))))))))))))))
       refine J.buildSl Ty.el118 Ty.s81 Ty.z81 rfl rfl rfl rfl rfl rfl rfl (fun b105 => ?_); refine J.perm ([] ++ ((b105, cb [.int .u64 ((gen + 1 : Nat) : Int), .int .u64 ((used + needN rec_.length : Nat) : Int), .int .u64 ((cnt_ + 1 : Nat) : Int)] 81) :: (lb, cb [.pointer (some ⟨d, 0, none⟩), .int .u64 ((gen : Nat) : Int), .int .i64 ((used : Nat) : Int), .int .i64 ((cnt_ : Nat) : Int), .bool false] 124) :: (d, dkO s n (p1) (k1)) :: (s, dkS (B1)) :: lp48)) (.refl _) ?_; refine J.callS (l1 := []) (l := (b105, cb [.int .u64 ((gen + 1 : Nat) : Int), .int .u64 ((used + needN rec_.length : Nat) : Int), .int .u64 ((cnt_ + 1 : Nat) : Int)] 81) :: (lb, cb [.pointer (some ⟨d, 0, none⟩), .int .u64 ((gen : Nat) : Int), .int .i64 ((used : Nat) : Int), .int .i64 ((cnt_ : Nat) : Int), .bool false] 124) :: (d, dkO s n (p1) (k1)) :: (s, dkS (B1)) :: lp48) Ty.bd69 rfl rfl (fun w1 hw => laid_spec _ [gen + 1, used + needN rec_.length, cnt_ + 1] w1 (Row.own (cs := [.int .u64 ((gen + 1 : Nat) : Int), .int .u64 ((used + needN rec_.length : Nat) : Int), .int .u64 ((cnt_ + 1 : Nat) : Int)]) (tb := 81) (fr := (0, 0)) hw (.head _) rfl (Nat.le_refl _)) (by simp)) (fun x hv106 => ?_)
       obtain ⟨v106, lp106⟩ := x
       simp only at hv106 ⊢
       obtain ⟨a106, c106, rfl, hc106⟩ := hv106.form
       refine J.perm ((lb, cb [.pointer (some ⟨d, 0, none⟩), .int .u64 ((gen : Nat) : Int), .int .i64 ((used : Nat) : Int), .int .i64 ((cnt_ : Nat) : Int), .bool false] 124) :: (d, dkO s n (p1) (k1)) :: (s, dkS (B1)) :: (lp106 ++ (b105, cb [.int .u64 ((gen + 1 : Nat) : Int), .int .u64 ((used + needN rec_.length : Nat) : Int), .int .u64 ((cnt_ + 1 : Nat) : Int)] 81) :: lp48)) zp ?_; refine J.assign rfl rfl ?_; refine J.nil ?_; refine JX.thenN (hK22 _ _ ?_); refine JC.seq (fun K23 hK23 => ?_); refine JC.seq (fun K24 hK24 => ?_)
       by_cases hp0 : p1 = 0
       ·subst hp0
        have happ := appendP_torn (n := n) (q := ⟨gen, used, cnt_, recs⟩) (σ := ⟨B, p, k⟩) hlong hfull (hdw.trans (by rw [plan_last]; exact dws_cons_torn))
        apply JC.drawL 12 [Eqv (_), Eqv (_), Eqv (_), Eqv (_), Eqv (_), Eqv (_), Eqv (_), Eqv (_), Eqv (_), Eqv (_), Eqv (_), Eqv (_)] Ty.mixed rfl rfl rfl (by kernel_rfl) rfl rfl (fun w w' hw hb => hw.step hb) ⟨fun _ _ _ h _ => h, fun _ _ _ h _ => h, fun _ _ _ h _ => h, fun _ _ _ h _ => h, fun _ _ _ h _ => h, fun _ _ _ h _ => h, fun _ _ _ h _ => h, fun _ _ _ h _ => h, fun _ _ _ h _ => h, fun _ _ _ h _ => h, fun _ _ _ h _ => h, fun _ _ _ h _ => h, trivial⟩ ?hstep ?htail
        case hstep =>
         refine ⟨fun wi => ?_, fun wi => ?_, fun wi => ?_, fun wi => ?_, fun wi => ?_, fun wi => ?_, fun wi => ?_, fun wi => ?_, fun wi => ?_, fun wi => ?_, fun wi => ?_, fun wi => ?_, trivial⟩
         ·refine Fin.nil ?_; refine J.move rfl rfl ?_
          exact J.finP rfl
         ·refine Fin.consE rfl (Fin.nil ?_); refine J.nilCheck rfl rfl ?_
          exact J.finP rfl
         ·refine Fin.consE rfl (Fin.nil ?_); refine J.fieldAddr Ty.fd124_0 rfl rfl ?_
          exact J.finP rfl
         ·refine Fin.consE rfl (Fin.nil ?_); refine J.load1 Ty.a34 rfl (fun w hw => (cell_of (hw.2.own (_, _) zm)).trans (by exact rfl)) rfl ?_
          exact J.finP rfl
         ·refine Fin.nil ?_; refine J.move rfl rfl ?_
          exact J.finP rfl
         ·refine Fin.consE rfl (Fin.nil ?_); refine J.nilCheck rfl rfl ?_
          exact J.finP rfl
         ·refine Fin.consE rfl (Fin.nil ?_); refine J.fieldAddr Ty.fd124_1 rfl rfl ?_
          exact J.finP rfl
         ·refine Fin.consE rfl (Fin.nil ?_); refine J.load1 Ty.a81 rfl (fun w hw => (cell_of (hw.2.own (_, _) zm)).trans (by exact rfl)) rfl ?_
          exact J.finP rfl
         ·refine Fin.consE rfl (Fin.nil ?_); refine J.bin rfl rfl rfl rfl ?_; refine J.name 115 rfl (congrArg (Value.int .u64) (show _ = ((gen + 1 : Nat) : Int) from wrap_u64 (by omega) (by omega))) ?_
          exact J.finP rfl
         ·refine Fin.consE rfl (Fin.nil ?_); refine J.bin rfl rfl rfl rfl ?_; refine J.name 116 rfl (congrArg (Value.int .u64) (show _ = (((gen + 1) % 2 : Nat) : Int) from rfl)) ?_
          exact J.finP rfl
         ·refine Fin.consE rfl (Fin.nil ?_); refine J.convInt Ty.u81 Ty.u3 rfl rfl ?_; refine J.name 117 rfl (congrArg (Value.int .i64) (show _ = (((gen + 1) % 2 : Nat) : Int) from wrap_i64 (by omega) (by omega))) ?_
          exact J.finP rfl
         ·refine Fin.nil ?_; refine J.move rfl rfl ?_
          exact J.finP rfl
        case htail =>
         refine Fin.consE rfl (Fin.consE rfl (Fin.consE rfl (Fin.consE rfl (Fin.consE rfl (Fin.consE rfl (Fin.consE rfl (Fin.consE rfl (Fin.consE rfl (Fin.consE rfl (Fin.consE rfl (Fin.consE rfl (Fin.nil ?_))))))))))))
         refine J.perm ([(d, dkO s n (0) (k1)), (s, dkS (B1))] ++ ((lb, cb [.pointer (some ⟨d, 0, none⟩), .int .u64 ((gen : Nat) : Int), .int .i64 ((used : Nat) : Int), .int .i64 ((cnt_ : Nat) : Int), .bool false] 124) :: (lp106 ++ (b105, cb [.int .u64 ((gen + 1 : Nat) : Int), .int .u64 ((used + needN rec_.length : Nat) : Int), .int .u64 ((cnt_ + 1 : Nat) : Int)] 81) :: lp48))) zp ?_; refine J.callB (fun w1 w2 hw hb => hw.step hb) Ty.bd68 rfl rfl (fun w1 hw => write_down d s n k1 w1 (St.owns (l1 := [(d, dkO s n (0) (k1)), (s, dkS (B1))]) hw) (((gen + 1) % 2 : Nat) : Int) _ 24 c106 (by omega) (by omega) (by omega)) ?_; refine J.perm ((lb, cb [.pointer (some ⟨d, 0, none⟩), .int .u64 ((gen : Nat) : Int), .int .i64 ((used : Nat) : Int), .int .i64 ((cnt_ : Nat) : Int), .bool false] 124) :: (d, dkO s n (0) (k1)) :: (s, dkS (B1)) :: (lp106 ++ (b105, cb [.int .u64 ((gen + 1 : Nat) : Int), .int .u64 ((used + needN rec_.length : Nat) : Int), .int .u64 ((cnt_ + 1 : Nat) : Int)] 81) :: lp48)) zp ?_; refine J.assign rfl rfl ?_; refine J.nil ?_; refine JX.thenN (hK24 _ _ ?_); refine JC.seq (fun K25 hK25 => ?_); refine JC.region ?_; refine J.move rfl rfl ?_; refine J.bin rfl rfl rfl rfl ?_; refine J.nil ?_; refine JX.thenN (hK25 _ _ ?_)
         first | refine JC.condT rfl ?_ | refine JC.cond rfl (fun _ => ?_) (fun h => by first | (exfalso; simp at h; omega) | (simp at h))
         refine JC.seq (fun K26 hK26 => ?_); refine JC.region ?_; refine J.move rfl rfl ?_; refine J.nilCheck rfl rfl ?_; refine J.fieldAddr Ty.fd124_4 rfl rfl ?_; refine J.storeO Ty.s4 rfl rfl rfl rfl (by simp [Value.oneCell']) zu (by simp) ?_; refine J.nil ?_; refine JX.thenN (hK26 _ _ ?_); refine JC.seq (fun K27 hK27 => ?_); refine JC.region ?_; refine J.move rfl rfl ?_; refine J.assign rfl rfl ?_; refine J.nil ?_; refine JX.thenN (hK27 _ _ ?_); refine JC.ret ?_; refine JX.thenR ?_; refine JX.ret1 rfl rfl (fun w1 hw => ?_)
         rw [happ]
         first
         | exact ⟨rfl, hw⟩
         | exact ⟨rfl, hw.drop (.cons_cons _ (.cons_cons _ (.cons_cons _ (List.nil_sublist _))))⟩
       ·have happ := appendP_ok (n := n) (q := ⟨gen, used, cnt_, recs⟩) (σ := ⟨B, p, k⟩) hlong hfull (hdw.trans (by rw [plan_last, dws_cons hp0]; exact dws_nil))
        apply JC.drawL 12 [Eqv (_), Eqv (_), Eqv (_), Eqv (_), Eqv (_), Eqv (_), Eqv (_), Eqv (_), Eqv (_), Eqv (_), Eqv (_), Eqv (_)] Ty.mixed rfl rfl rfl (by kernel_rfl) rfl rfl (fun w w' hw hb => hw.step hb) ⟨fun _ _ _ h _ => h, fun _ _ _ h _ => h, fun _ _ _ h _ => h, fun _ _ _ h _ => h, fun _ _ _ h _ => h, fun _ _ _ h _ => h, fun _ _ _ h _ => h, fun _ _ _ h _ => h, fun _ _ _ h _ => h, fun _ _ _ h _ => h, fun _ _ _ h _ => h, fun _ _ _ h _ => h, trivial⟩ ?hstep ?htail
        case hstep =>
         refine ⟨fun wi => ?_, fun wi => ?_, fun wi => ?_, fun wi => ?_, fun wi => ?_, fun wi => ?_, fun wi => ?_, fun wi => ?_, fun wi => ?_, fun wi => ?_, fun wi => ?_, fun wi => ?_, trivial⟩
         ·refine Fin.nil ?_; refine J.move rfl rfl ?_
          exact J.finP rfl
         ·refine Fin.consE rfl (Fin.nil ?_); refine J.nilCheck rfl rfl ?_
          exact J.finP rfl
         ·refine Fin.consE rfl (Fin.nil ?_); refine J.fieldAddr Ty.fd124_0 rfl rfl ?_
          exact J.finP rfl
         ·refine Fin.consE rfl (Fin.nil ?_); refine J.load1 Ty.a34 rfl (fun w hw => (cell_of (hw.2.own (_, _) zm)).trans (by exact rfl)) rfl ?_
          exact J.finP rfl
         ·refine Fin.nil ?_; refine J.move rfl rfl ?_
          exact J.finP rfl
         ·refine Fin.consE rfl (Fin.nil ?_); refine J.nilCheck rfl rfl ?_
          exact J.finP rfl
         ·refine Fin.consE rfl (Fin.nil ?_); refine J.fieldAddr Ty.fd124_1 rfl rfl ?_
          exact J.finP rfl
         ·refine Fin.consE rfl (Fin.nil ?_); refine J.load1 Ty.a81 rfl (fun w hw => (cell_of (hw.2.own (_, _) zm)).trans (by exact rfl)) rfl ?_
          exact J.finP rfl
         ·refine Fin.consE rfl (Fin.nil ?_); refine J.bin rfl rfl rfl rfl ?_; refine J.name 115 rfl (congrArg (Value.int .u64) (show _ = ((gen + 1 : Nat) : Int) from wrap_u64 (by omega) (by omega))) ?_
          exact J.finP rfl
         ·refine Fin.consE rfl (Fin.nil ?_); refine J.bin rfl rfl rfl rfl ?_; refine J.name 116 rfl (congrArg (Value.int .u64) (show _ = (((gen + 1) % 2 : Nat) : Int) from rfl)) ?_
          exact J.finP rfl
         ·refine Fin.consE rfl (Fin.nil ?_); refine J.convInt Ty.u81 Ty.u3 rfl rfl ?_; refine J.name 117 rfl (congrArg (Value.int .i64) (show _ = (((gen + 1) % 2 : Nat) : Int) from wrap_i64 (by omega) (by omega))) ?_
          exact J.finP rfl
         ·refine Fin.nil ?_; refine J.move rfl rfl ?_
          exact J.finP rfl
        case htail =>
         refine Fin.consE rfl (Fin.consE rfl (Fin.consE rfl (Fin.consE rfl (Fin.consE rfl (Fin.consE rfl (Fin.consE rfl (Fin.consE rfl (Fin.consE rfl (Fin.consE rfl (Fin.consE rfl (Fin.consE rfl (Fin.nil ?_))))))))))))
         refine J.perm ([(d, dkO s n (p1) (k1)), (s, dkS (B1))] ++ ((lb, cb [.pointer (some ⟨d, 0, none⟩), .int .u64 ((gen : Nat) : Int), .int .i64 ((used : Nat) : Int), .int .i64 ((cnt_ : Nat) : Int), .bool false] 124) :: (lp106 ++ (b105, cb [.int .u64 ((gen + 1 : Nat) : Int), .int .u64 ((used + needN rec_.length : Nat) : Int), .int .u64 ((cnt_ + 1 : Nat) : Int)] 81) :: lp48))) zp ?_; refine J.callT (l1 := [(d, dkO s n (p1) (k1)), (s, dkS (B1))]) (L := [(d, dkO s n (if 0 < p1 then p1 - 1 else p1) (k1 + 1)), (s, dkS (put B1 ((gen + 1) % 2) ([gen + 1, used + needN rec_.length, cnt_ + 1].flatMap be8)))]) Ty.bd68 rfl rfl (fun w1 hw => write_done d s n B1 ([gen + 1, used + needN rec_.length, cnt_ + 1].flatMap be8) p1 k1 ((gen + 1) % 2) a106 24 c106 w1 hw.owns hB1 hk10 (by omega) (by omega) (by omega) (by rw [flat_length]; rfl) (hv106.row (l := (d, dkO s n (p1) (k1)) :: (s, dkS (B1)) :: (lb, cb [.pointer (some ⟨d, 0, none⟩), .int .u64 ((gen : Nat) : Int), .int .i64 ((used : Nat) : Int), .int .i64 ((cnt_ : Nat) : Int), .bool false] 124) :: (b105, cb [.int .u64 ((gen + 1 : Nat) : Int), .int .u64 ((used + needN rec_.length : Nat) : Int), .int .u64 ((cnt_ + 1 : Nat) : Int)] 81) :: lp48) (hw.perm zp)) (hv106.off (l1 := [(d, dkO s n (p1) (k1)), (s, dkS (B1))]) (l := (lb, cb [.pointer (some ⟨d, 0, none⟩), .int .u64 ((gen : Nat) : Int), .int .i64 ((used : Nat) : Int), .int .i64 ((cnt_ : Nat) : Int), .bool false] 124) :: (b105, cb [.int .u64 ((gen + 1 : Nat) : Int), .int .u64 ((used + needN rec_.length : Nat) : Int), .int .u64 ((cnt_ + 1 : Nat) : Int)] 81) :: lp48) (hw.perm zp)) hp1 hp0) ?_; refine J.perm ((lb, cb [.pointer (some ⟨d, 0, none⟩), .int .u64 ((gen : Nat) : Int), .int .i64 ((used : Nat) : Int), .int .i64 ((cnt_ : Nat) : Int), .bool false] 124) :: (d, dkO s n (if 0 < p1 then p1 - 1 else p1) (k1 + 1)) :: (s, dkS (put B1 ((gen + 1) % 2) ([gen + 1, used + needN rec_.length, cnt_ + 1].flatMap be8))) :: (lp106 ++ (b105, cb [.int .u64 ((gen + 1 : Nat) : Int), .int .u64 ((used + needN rec_.length : Nat) : Int), .int .u64 ((cnt_ + 1 : Nat) : Int)] 81) :: lp48)) zp ?_; refine J.assign rfl rfl ?_; refine J.nil ?_; refine JX.thenN (hK24 _ _ ?_); refine JC.seq (fun K28 hK28 => ?_); refine JC.region ?_; refine J.move rfl rfl ?_; refine J.bin rfl rfl rfl rfl ?_; refine J.nil ?_; refine JX.thenN (hK28 _ _ ?_)
         first | refine JC.condF rfl ?_ | refine JC.cond rfl (fun h => by first | (exfalso; simp at h; omega) | (simp at h)) (fun _ => ?_)
         refine JC.skip ?_; refine JX.thenN (hK23 _ _ ?_); refine JC.seq (fun K29 hK29 => ?_); refine JC.region ?_; refine J.move rfl rfl ?_; refine J.nilCheck rfl rfl ?_; refine J.fieldAddr Ty.fd124_1 rfl rfl ?_; refine J.loadO Ty.a81 rfl zm (by exact rfl) rfl ?_; refine J.bin rfl rfl rfl rfl ?_; refine J.name 130 rfl (congrArg (Value.int .u64) (show _ = ((gen + 1 : Nat) : Int) from wrap_u64 (by omega) (by omega))) ?_; refine J.nilCheck rfl rfl ?_; refine J.fieldAddr Ty.fd124_1 rfl rfl ?_; refine J.storeO Ty.s81 rfl rfl rfl rfl (by simp [Value.oneCell']) zu (by simp) ?_; refine J.nil ?_; refine JX.thenN (hK29 _ _ ?_); refine JC.seq (fun K30 hK30 => ?_)
         apply JC.drawL 8 [Eqv (_), Eqv (_), Eqv (_), Eqv (_), Eqv (_), Eqv (_), Eqv (_), Eqv (_)] Ty.mixed rfl rfl rfl (by kernel_rfl) rfl rfl (fun w w' hw hb => hw.step hb) ⟨fun _ _ _ h _ => h, fun _ _ _ h _ => h, fun _ _ _ h _ => h, fun _ _ _ h _ => h, fun _ _ _ h _ => h, fun _ _ _ h _ => h, fun _ _ _ h _ => h, fun _ _ _ h _ => h, trivial⟩ ?hstep ?htail
         case hstep =>
          refine ⟨fun wi => ?_, fun wi => ?_, fun wi => ?_, fun wi => ?_, fun wi => ?_, fun wi => ?_, fun wi => ?_, fun wi => ?_, trivial⟩
          ·refine Fin.nil ?_; refine J.move rfl rfl ?_
           exact J.finP rfl
          ·refine Fin.consE rfl (Fin.nil ?_); refine J.nilCheck rfl rfl ?_
           exact J.finP rfl
          ·refine Fin.consE rfl (Fin.nil ?_); refine J.fieldAddr Ty.fd124_2 rfl rfl ?_
           exact J.finP rfl
          ·refine Fin.consE rfl (Fin.nil ?_); refine J.load1 Ty.a3 rfl (fun w hw => (cell_of (hw.2.own (_, _) zm)).trans (by exact rfl)) rfl ?_
           exact J.finP rfl
          ·refine Fin.nil ?_; refine J.move rfl rfl ?_
           exact J.finP rfl
          ·refine Fin.consE rfl (Fin.nil ?_); refine J.lenS rfl Ty.u26 rfl rfl ?_
           exact J.finP rfl
          ·refine Fin.consE rfl (Fin.nil ?_); refine J.callD Ty.bd63 rfl rfl (fun w1 hw => need_spec rec_.length w1 (by omega)) ?_
           exact J.finQ rfl
          ·refine Fin.consE rfl (Fin.consE rfl (Fin.nil ?_))
           refine J.addN rfl rfl (by omega) (by omega) rfl ?_
           exact J.finP rfl
         case htail =>
          refine Fin.consE rfl (Fin.consE rfl (Fin.consE rfl (Fin.consE rfl (Fin.consE rfl (Fin.consE rfl (Fin.consE rfl (Fin.consE rfl (Fin.nil ?_))))))))
          refine J.nilCheck rfl rfl ?_; refine J.fieldAddr Ty.fd124_2 rfl rfl ?_; refine J.storeO Ty.s3 rfl rfl rfl rfl (by simp [Value.oneCell']) zu (by simp) ?_; refine J.nil ?_; refine JX.thenN (hK30 _ _ ?_); refine JC.seq (fun K31 hK31 => ?_); refine JC.region ?_; refine J.move rfl rfl ?_; refine J.nilCheck rfl rfl ?_; refine J.fieldAddr Ty.fd124_3 rfl rfl ?_; refine J.loadO Ty.a3 rfl zm (by exact rfl) rfl ?_
          (first | refine J.addN rfl rfl (by omega) (by omega) rfl ?_ | refine J.bin rfl rfl rfl rfl ?_)
          refine J.nilCheck rfl rfl ?_; refine J.fieldAddr Ty.fd124_3 rfl rfl ?_; refine J.storeO Ty.s3 rfl rfl rfl rfl (by simp [Value.oneCell']) zu (by simp) ?_; refine J.nil ?_; refine JX.thenN (hK31 _ _ ?_); refine JC.seq (fun K32 hK32 => ?_); refine JC.region ?_; refine J.assign rfl rfl ?_; refine J.nil ?_; refine JX.thenN (hK32 _ _ ?_); refine JC.ret ?_; refine JX.ret1 rfl rfl (fun w1 hw => ?_)
          rw [happ]
          first
          | exact ⟨rfl, hw⟩
          | exact ⟨rfl, hw.drop (.cons_cons _ (.cons_cons _ (.cons_cons _ (List.nil_sublist _))))⟩

end Go.Proofs.Ytoaenmlhehcjfaa
/-
 The document's Append.
-/
namespace Go.Proofs.Ytoaenmlhehcjfaa
open Go.J Go.RowKit
set_option linter.unusedVariables false
set_option linter.unusedSimpArgs false
set_option maxRecDepth 8000
/-- eight bytes of a number, j of them laid, from the back -/
def hst (pre : List UInt8) (N j z : Nat) : List UInt8 := pre ++ (List.replicate (8 - j) 0 ++ ((be8 N).drop (8 - j) ++ List.replicate z 0))
theorem hst_length {pre : List UInt8} {N j z : Nat} (h : j ≤ 8) : (hst pre N j z).length = pre.length + 8 + z := by
 simp only [hst, List.length_append, List.length_replicate, List.length_drop, be8_length]; omega
theorem hst_zero {pre : List UInt8} {N z : Nat} : hst pre N 0 z = pre ++ List.replicate (8 + z) 0 := by
 rw [hst, List.drop_eq_nil_of_le (by rw [be8_length]; omega), List.nil_append, List.replicate_append_replicate]
theorem hst_all {pre : List UInt8} {N z : Nat} : hst pre N 8 z = (pre ++ be8 N) ++ List.replicate z 0 := by simp [hst]
theorem hst_set {pre : List UInt8} {N j z : Nat} (h : j < 8) : (hst pre N j z).set (pre.length + (7 - j)) ((be8 N)[7 - j]'(by rw [be8_length]; omega)) = hst pre N (j + 1) z := by
 have e1 : List.replicate (8 - j) (0 : UInt8) = List.replicate (7 - j) 0 ++ [0] := by
  rw [show 8 - j = (7 - j) + 1 by omega, List.replicate_succ']
 have e2 : (be8 N).drop (8 - (j + 1)) = (be8 N)[7 - j]'(by rw [be8_length]; omega) :: (be8 N).drop (8 - j) := by
  rw [show 8 - (j + 1) = 7 - j by omega, List.drop_eq_getElem_cons (by rw [be8_length]; omega)]
  congr 2; omega
 rw [hst, hst, e1, e2, show 8 - (j + 1) = 7 - j by omega]
 rw [List.set_append_right _ _ (by omega), Nat.add_sub_cancel_left, List.append_assoc, List.set_append_right _ _ (by simp), List.length_replicate, Nat.sub_self]
 rfl
theorem byte_hst (N j : Nat) (h : j < 8) : UInt8.ofNat (N / 256 ^ j % 256) = (be8 N)[7 - j]'(by rw [be8_length]; omega) := by
 rw [be8_get N (7 - j) (by omega), show 56 - 8 * (7 - j) = 8 * j by omega, Nat.pow_mul]
 apply UInt8.toNat_inj.1
 simp
theorem byte_u64 (N j : Nat) (h : j < 8) : Value.int .u8 (IntKind.u8.wrap ((N / 256 ^ j % 256 : Nat) : Int)) = u8 ((be8 N)[7 - j]'(by rw [be8_length]; omega)) := by
 rw [← byte_hst N j h, wrap_u8m]
 show Value.int .u8 _ = Value.int .u8 _
 congr 1 <;> simp
theorem div_pow (N j : Nat) : N / 256 ^ j / 256 = N / 256 ^ (j + 1) := by rw [Nat.div_div_eq_div_mul, Nat.pow_succ]
theorem flat3 (a b c : Nat) : (be8 a ++ be8 b) ++ be8 c = [a, b, c].flatMap be8 := by simp [List.append_assoc]

theorem rroom_spec (lb r n : Nat) (q : LogP) (down : Bool) (a0 : Option Addr) (c0 : Nat) (p k : Int) (w : World) {l : List (Nat × Obj)} (hw0 : Own w ((lb, rlO r q down) :: (r, rfO (.slice a0 (64 * n) c0) p k) :: l)) (hn : n ≤ 4096) (hu : q.used ≤ 4096) :
  Calls Try.prog 54 [.pointer (some ⟨lb, 0, none⟩)].toArray w fun ρ w' => ρ = .returned (.int .i64 ((n : Int) - 2 - ((q.used : Nat) : Int))) ∧ Bel w w' := by
 refine calls_of_J (args := [.pointer (some ⟨lb, 0, none⟩)]) (e := [(0, .pointer (some ⟨lb, 0, none⟩))]) Try.func54 rfl rfl ⟨rfl, trivial⟩ (hw0.st) ?_; refine JC.seq (fun K0 hK0 => ?_); refine JC.region ?_; refine J.assign rfl rfl ?_; refine J.nil ?_; refine JX.thenN (hK0 _ _ ?_); refine JC.seq (fun K1 hK1 => ?_)
 apply JC.drawL 15 [Eqv (_), Eqv (_), Eqv (_), Eqv (_), Eqv (_), Eqv (_), Eqv (_), Eqv (_), Eqv (_), Eqv (_), Eqv (_), Eqv (_), Eqv (_), Eqv (_), Eqv (_)] Ty.mixed rfl rfl rfl (by kernel_rfl) rfl rfl (fun w w' hw hb => hw.step hb) ⟨fun _ _ _ h _ => h, fun _ _ _ h _ => h, fun _ _ _ h _ => h, fun _ _ _ h _ => h, fun _ _ _ h _ => h, fun _ _ _ h _ => h, fun _ _ _ h _ => h, fun _ _ _ h _ => h, fun _ _ _ h _ => h, fun _ _ _ h _ => h, fun _ _ _ h _ => h, fun _ _ _ h _ => h, fun _ _ _ h _ => h, fun _ _ _ h _ => h, fun _ _ _ h _ => h, trivial⟩ ?hstep ?htail
 case hstep =>
  refine ⟨fun wi => ?_, fun wi => ?_, fun wi => ?_, fun wi => ?_, fun wi => ?_, fun wi => ?_, fun wi => ?_, fun wi => ?_, fun wi => ?_, fun wi => ?_, fun wi => ?_, fun wi => ?_, fun wi => ?_, fun wi => ?_, fun wi => ?_, trivial⟩
  ·refine Fin.nil ?_; refine J.move rfl rfl ?_
   exact J.finP rfl
  ·refine Fin.consE rfl (Fin.nil ?_); refine J.nilCheck rfl rfl ?_
   exact J.finP rfl
  ·refine Fin.consE rfl (Fin.nil ?_); refine J.fieldAddr Ty.fd83_0 rfl rfl ?_
   exact J.finP rfl
  ·refine Fin.consE rfl (Fin.nil ?_); refine J.load1 Ty.a58 rfl (fun w hw => (cell_of (hw.2.own (_, _) zm)).trans (by exact rfl)) rfl ?_
   exact J.finP rfl
  ·refine Fin.consE rfl (Fin.nil ?_); refine J.nilCheck rfl rfl ?_
   exact J.finP rfl
  ·refine Fin.consE rfl (Fin.nil ?_); refine J.fieldAddr Ty.fd67_0 rfl rfl ?_
   exact J.finP rfl
  ·refine Fin.consE rfl (Fin.nil ?_); refine J.load1 Ty.a26 rfl (fun w hw => (cell_of (hw.2.own (_, _) zm)).trans (by exact rfl)) rfl ?_
   exact J.finP rfl
  ·refine Fin.consE rfl (Fin.nil ?_); refine J.lenS rfl Ty.u26 rfl rfl ?_
   exact J.finP rfl
  ·refine Fin.consE rfl (Fin.nil ?_); refine J.quoN rfl rfl (by omega) (by omega) (by omega) rfl ?_; refine J.name 11 rfl (congrArg (Value.int .i64) (show ((64 * n : Nat) : Int) / 64 = (n : Int) by omega)) ?_
   exact J.finP rfl
  ·refine Fin.consE rfl (Fin.nil ?_); refine J.subN rfl rfl (by omega) (by omega) rfl ?_
   exact J.finP rfl
  ·refine Fin.nil ?_; refine J.move rfl rfl ?_
   exact J.finP rfl
  ·refine Fin.consE rfl (Fin.nil ?_); refine J.nilCheck rfl rfl ?_
   exact J.finP rfl
  ·refine Fin.consE rfl (Fin.nil ?_); refine J.fieldAddr Ty.fd83_2 rfl rfl ?_
   exact J.finP rfl
  ·refine Fin.consE rfl (Fin.nil ?_); refine J.load1 Ty.a3 rfl (fun w hw => (cell_of (hw.2.own (_, _) zm)).trans (by exact rfl)) rfl ?_
   exact J.finP rfl
  ·refine Fin.consE rfl (Fin.consE rfl (Fin.nil ?_))
   refine J.subN rfl rfl (by omega) (by omega) rfl ?_
   exact J.finP rfl
 case htail =>
  refine Fin.consE rfl (Fin.consE rfl (Fin.consE rfl (Fin.consE rfl (Fin.consE rfl (Fin.consE rfl (Fin.consE rfl (Fin.consE rfl (Fin.consE rfl (Fin.consE rfl (Fin.consE rfl (Fin.consE rfl (Fin.consE rfl (Fin.consE rfl (Fin.consE rfl (Fin.nil ?_)))))))))))))))
  refine J.assign rfl rfl ?_; refine J.nil ?_; refine JX.thenN (hK1 _ _ ?_); refine JC.ret ?_; refine JX.ret1 rfl rfl (fun w1 hw => ?_)
  exact ⟨rfl, hw.same hw0 (fun p hp => hp)⟩

theorem lo_byte' (m : Nat) : Value.int .u8 (IntKind.u8.wrap ((m : Nat) : Int)) = u8 (UInt8.ofNat m) := by
 rw [wrap_u8m]
 show Value.int .u8 _ = Value.int .u8 _
 congr 1
theorem Up.app {l l' L : List (Nat × Obj)} {b : Nat} {o o' : Obj} (h : Up l b o o' l') : Up (L ++ l) b o o' (L ++ l') := by
 induction L with
 | nil => exact h
 | cons x L ih => exact .there ih
theorem if_neg_add {c41 q : Nat} {a41 : Option Addr} : (if c41 - q = 0 then (if c41 = q then a41 else a41.map (·.add (q * 1))) else (if c41 = q then a41 else a41.map (·.add (q * 1))).map (·.add (0 * 1))) = (if c41 = q then a41 else a41.map (·.add (q * 1))) := by
 have h0 : ∀ x : Addr, x.add (0 * 1) = x := by intro x; simp [Addr.add]
 split
 ·rfl
 ·generalize (if c41 = q then a41 else a41.map (·.add (q * 1))) = y
  cases y with
  | none => rfl
  | some y => rw [Option.map_some, h0]

theorem rappend_spec (lb r n : Nat) (q : LogP) (down : Bool) (v : Value) (lp : List (Nat × Obj)) (B rec_ : List UInt8) (p k : Int) (a : Option Addr) (m c : Nat) (w : World) (hw0 : Own w ((lb, rlO r q down) :: (r, rfO v p k) :: lp)) (hv : Vec 5 1 v (64 * n) (B.map u8) lp) (hB : B.length = 64 * n) (hn : n ≤ 4096) (hn3 : 3 ≤ n) (hg : q.gen < 9223372036854775808) (hu : q.used ≤ n - 2) (hcn : q.cnt ≤ q.used) (hk : 0 ≤ k) (hk2 : k < 4611686018427380000) (hp : p < 9223372036854775808) (hml : rec_.length = m) (hm47 : m ≤ 140737488351232) (hr : Row w (.slice a m c) m (rec_.map u8)) (hoff : Off (lb :: r :: lp.map (·.1)) (.slice a m c) (rec_.map u8)) :
  Calls Try.prog 28 [.pointer (some ⟨lb, 0, none⟩), .slice a m c].toArray w fun ρ w' => match appendP n q down ⟨B, p, k⟩ rec_ with
   | (e, q', down', σ') => ∃ lp', ρ = .returned (.int .i64 e) ∧ Vec 5 1 v (64 * n) (σ'.B.map u8) lp' ∧ St w (lb :: r :: lp.map (·.1)) ((lb, rlO r q' down') :: (r, rfO v σ'.p σ'.k) :: lp') w' := by
 obtain ⟨gen, used, cnt_, recs⟩ := q
 simp only at hg hu hcn
 subst hml
 obtain ⟨a0, c0, rfl, hc0⟩ := hv.form
 refine calls_of_J (args := [.pointer (some ⟨lb, 0, none⟩), .slice a rec_.length c]) (e := [(0, .pointer (some ⟨lb, 0, none⟩)), (1, .slice a rec_.length c)]) Try.func28 rfl rfl ⟨rfl, rfl, trivial⟩ (show St w (lb :: r :: lp.map (·.1)) ((lb, cb [.pointer (some ⟨r, 0, none⟩), .int .u64 ((gen : Nat) : Int), .int .i64 ((used : Nat) : Int), .int .i64 ((cnt_ : Nat) : Int), .bool down] 83) :: (r, rfO (.slice a0 (64 * n) c0) (p) (k)) :: lp) w from hw0.st) ?_; refine JC.seq (fun K0 hK0 => ?_); refine JC.region ?_; refine J.assign rfl rfl ?_; refine J.nil ?_; refine JX.thenN (hK0 _ _ ?_); refine JC.seq (fun K1 hK1 => ?_); refine JC.seq (fun K2 hK2 => ?_); refine JC.region ?_; refine J.move rfl rfl ?_; refine J.nilCheck rfl rfl ?_; refine J.fieldAddr Ty.fd83_4 rfl rfl ?_; refine J.loadO Ty.a4 rfl zm (by exact rfl) rfl ?_; refine J.nil ?_; refine JX.thenN (hK2 _ _ ?_); refine JC.cond rfl (fun h0 => ?_) (fun h0 => ?_)
 ·have happ := @appendP_down n ⟨gen, used, cnt_, recs⟩ ⟨B, p, k⟩ rec_
  subst h0
  refine JC.seq (fun K3 hK3 => ?_); refine JC.region ?_; refine J.assign rfl rfl ?_; refine J.nil ?_; refine JX.thenN (hK3 _ _ ?_); refine JC.ret ?_; refine JX.thenR ?_; refine JX.ret1 rfl rfl (fun w1 hw => ?_)
  rw [happ]
  first
  | exact ⟨lp, rfl, hv, hw⟩
  | exact ⟨lp1, rfl, hv1, hw.drop (.cons_cons _ (.cons_cons _ (List.sublist_append_left _ _)))⟩
  | exact ⟨lp2, rfl, hv2, hw.drop (.cons_cons _ (.cons_cons _ (List.sublist_append_left _ _)))⟩
 ·subst h0
  refine JC.skip ?_; refine JX.thenN (hK1 _ _ ?_); refine JC.seq (fun K4 hK4 => ?_); refine JC.seq (fun K5 hK5 => ?_); refine JC.region ?_; refine J.move rfl rfl ?_; refine J.lenS rfl Ty.u26 rfl rfl ?_; refine J.bin rfl rfl rfl rfl ?_; refine J.nil ?_; refine JX.thenN (hK5 _ _ ?_); refine JC.cond rfl (fun h1 => ?_) (fun h1 => ?_)
  ·have happ := appendP_long (n := n) (q := ⟨gen, used, cnt_, recs⟩) (σ := ⟨B, p, k⟩) (rec_ := rec_) (by simp at h1; omega)
   refine JC.seq (fun K6 hK6 => ?_); refine JC.region ?_; refine J.assign rfl rfl ?_; refine J.nil ?_; refine JX.thenN (hK6 _ _ ?_); refine JC.ret ?_; refine JX.thenR ?_; refine JX.ret1 rfl rfl (fun w1 hw => ?_)
   rw [happ]
   first
   | exact ⟨lp, rfl, hv, hw⟩
   | exact ⟨lp1, rfl, hv1, hw.drop (.cons_cons _ (.cons_cons _ (List.sublist_append_left _ _)))⟩
   | exact ⟨lp2, rfl, hv2, hw.drop (.cons_cons _ (.cons_cons _ (List.sublist_append_left _ _)))⟩
  ·have hlong : ¬ 1024 < rec_.length := by simp at h1; omega
   have hnd : 1 ≤ needN rec_.length ∧ needN rec_.length ≤ 18 := by unfold needN; omega
   have hpl := payload_length rec_
   refine JC.skip ?_; refine JX.thenN (hK4 _ _ ?_); refine JC.seq (fun K7 hK7 => ?_); refine JC.region ?_; refine J.move rfl rfl ?_; refine J.callB (fun w1 w2 hw hb => hw.step hb) Ty.bd53 rfl rfl (fun w1 hw => rsectors_spec a rec_.length c w1 (by omega)) ?_; refine J.assign rfl rfl ?_; refine J.nil ?_; refine JX.thenN (hK7 _ _ ?_); refine JC.seq (fun K8 hK8 => ?_); refine JC.seq (fun K9 hK9 => ?_); refine JC.region ?_; refine J.move rfl rfl ?_; refine J.move rfl rfl ?_; refine J.callB (fun w1 w2 hw hb => hw.step hb) Ty.bd54 rfl rfl (fun w1 hw => rroom_spec lb r n ⟨gen, used, cnt_, recs⟩ false a0 c0 p k w1 hw.owns' hn (by simp only; omega)) ?_; refine J.bin rfl rfl rfl rfl ?_; refine J.nil ?_; refine JX.thenN (hK9 _ _ ?_); refine JC.cond rfl (fun h2 => ?_) (fun h2 => ?_)
   ·have happ := appendP_full (n := n) (q := ⟨gen, used, cnt_, recs⟩) (σ := ⟨B, p, k⟩) (rec_ := rec_) hlong (by simp at h2 ⊢; omega)
    refine JC.seq (fun K10 hK10 => ?_); refine JC.region ?_; refine J.assign rfl rfl ?_; refine J.nil ?_; refine JX.thenN (hK10 _ _ ?_); refine JC.ret ?_; refine JX.thenR ?_; refine JX.ret1 rfl rfl (fun w1 hw => ?_)
    rw [happ]
    first
    | exact ⟨lp, rfl, hv, hw⟩
    | exact ⟨lp1, rfl, hv1, hw.drop (.cons_cons _ (.cons_cons _ (List.sublist_append_left _ _)))⟩
    | exact ⟨lp2, rfl, hv2, hw.drop (.cons_cons _ (.cons_cons _ (List.sublist_append_left _ _)))⟩
   ·have hfull : ¬ n - 2 - used < needN rec_.length := by simp at h2; omega
    refine JC.skip ?_; refine JX.thenN (hK8 _ _ ?_); refine JC.seq (fun K11 hK11 => ?_); refine JC.region ?_; refine J.move rfl rfl ?_; refine J.lenS rfl Ty.u26 rfl rfl ?_; refine J.quoN rfl rfl (by omega) (by omega) (by omega) rfl ?_; refine J.convInt Ty.u3 Ty.u5 rfl rfl ?_; refine J.name 34 rfl (show _ = u8 (UInt8.ofNat (rec_.length / 256)) from lo_byte' _) ?_; refine J.move rfl rfl ?_; refine J.lenS rfl Ty.u26 rfl rfl ?_; refine J.remN rfl rfl (by omega) (by omega) rfl ?_; refine J.convInt Ty.u3 Ty.u5 rfl rfl ?_; refine J.name 38 rfl (show _ = u8 (UInt8.ofNat (rec_.length % 256)) from lo_byte' _) ?_; refine J.buildSl Ty.el26 Ty.s5 Ty.z5 rfl rfl rfl rfl rfl rfl rfl (fun b39 => ?_); refine J.move rfl rfl ?_; refine J.append (lp := [(b39, cb [u8 (UInt8.ofNat (rec_.length / 256)), u8 (UInt8.ofNat (rec_.length % 256))] 5)]) (xs := [u8 (UInt8.ofNat (rec_.length / 256)), u8 (UInt8.ofNat (rec_.length % 256))]) (ys := rec_.map u8) (k := 2) (m := rec_.length) Ty.el26 Ty.s5 Ty.b5 Ty.z5 rfl (.inl ⟨5, Ty.u26⟩) rfl rfl ⟨rfl, .inr ⟨b39, 2, [], rfl, rfl, rfl, Nat.le_refl _⟩⟩ (fun w1 hw => .inl (hr.st hoff hw)) (by simp) (one_u8 _) (by omega) (by omega) rfl (fun v41 lp41 hv41 => ?_)
    obtain ⟨a41, c41, rfl, hc41⟩ := hv41.form
    have hv41 : Vec 5 1 (.slice a41 (2 + rec_.length) c41) (2 + rec_.length) ((payload rec_).map u8) lp41 := hv41
    refine J.perm ((lb, cb [.pointer (some ⟨r, 0, none⟩), .int .u64 ((gen : Nat) : Int), .int .i64 ((used : Nat) : Int), .int .i64 ((cnt_ : Nat) : Int), .bool false] 83) :: (r, rfO (.slice a0 (64 * n) c0) (p) (k)) :: (lp ++ lp41)) zp ?_; refine J.assign rfl rfl ?_; refine J.nil ?_; refine JX.thenN (hK11 _ _ ?_); refine JC.seq (fun K12 hK12 => ?_); refine JC.seq (fun K13 hK13 => ?_); refine JC.region ?_; refine J.assign rfl rfl ?_; refine J.nil ?_; refine JX.thenN (hK13 _ _ ?_); refine JC.block ?_
    refine JC.conseq (JC.cov (f := (fun st => [(0, .pointer (some ⟨lb, 0, none⟩)), (1, .slice a rec_.length c), (5, .int .i64 ((needN rec_.length : Nat) : Int)), (6, .slice a41 (2 + rec_.length) c41), (7, .int .i64 ((st.1 : Nat) : Int))]) ((0, B, p, k, lp) : Nat × List UInt8 × Int × Int × List (Nat × Obj))) ⟨rfl, rfl, rfl, rfl, rfl, trivial⟩ (JC.loop (α := Nat × List UInt8 × Int × Int × List (Nat × Obj)) (fun st => [(0, .pointer (some ⟨lb, 0, none⟩)), (1, .slice a rec_.length c), (5, .int .i64 ((needN rec_.length : Nat) : Int)), (6, .slice a41 (2 + rec_.length) c41), (7, .int .i64 ((st.1 : Nat) : Int))]) (fun st w' => (st.1 ≤ needN rec_.length ∧ st.2.1.length = 64 * n ∧ 0 ≤ st.2.2.2.1 ∧ st.2.2.2.1 ≤ k + st.1 ∧ st.2.2.1 < 9223372036854775808 ∧ Vec 5 1 (.slice a0 (64 * n) c0) (64 * n) (st.2.1.map u8) st.2.2.2.2 ∧ dws ⟨B, p, k⟩ (planP gen used cnt_ rec_) = dws ⟨st.2.1, st.2.2.1, st.2.2.2.1⟩ ((planP gen used cnt_ rec_).drop st.1)) ∧ St w (lb :: r :: lp.map (·.1)) ((lb, cb [.pointer (some ⟨r, 0, none⟩), .int .u64 ((gen : Nat) : Int), .int .i64 ((used : Nat) : Int), .int .i64 ((cnt_ : Nat) : Int), .bool false] 83) :: (r, rfO (.slice a0 (64 * n) c0) (st.2.2.1) (st.2.2.2.1)) :: (st.2.2.2.2 ++ lp41)) w') (fun st => needN rec_.length - st.1) ((0, B, p, k, lp) : Nat × List UInt8 × Int × Int × List (Nat × Obj)) (fun st => ?_))) (fun w hw => ⟨⟨Nat.zero_le _, hB, hk, by simp, hp, hv, rfl⟩, hw⟩)
    obtain ⟨i, B1, p1, k1, lp1⟩ := st
    refine JC.pr (fun hx => ?_)
    obtain ⟨hi, hB1, hk10, hk11, hp1, hv1, hdw⟩ := hx
    simp only at hi hB1 hk10 hk11 hp1 hv1 hdw ⊢
    refine JC.seq (fun K14 hK14 => ?_); refine JC.seq (fun K15 hK15 => ?_); refine JC.region ?_; refine J.move rfl rfl ?_; refine J.move rfl rfl ?_; refine J.bin rfl rfl rfl rfl ?_; refine J.nil ?_; refine JX.thenN (hK15 _ _ ?_); refine JC.cond rfl (fun h3 => ?_) (fun h3 => ?_)
    ·have hlt : i < needN rec_.length := by simp at h3; omega
     have hlt64 : 64 * i < 2 + rec_.length := by unfold needN at hlt; omega
     refine JC.skip ?_; refine JX.thenN (hK14 _ _ ?_); refine JC.seq (fun K16 hK16 => ?_); refine JC.block ?_; refine JC.seq (fun K17 hK17 => ?_); refine JC.region ?_; refine J.move rfl rfl ?_; refine J.move rfl rfl ?_; refine J.mulN rfl rfl (by omega) (by omega) rfl ?_; refine J.sliceS (i := 64 * i) (j := 2 + rec_.length) Ty.el26 Ty.s5 rfl rfl rfl (by simp only [bnd]; rw [if_pos (by omega)]; congr 1 <;> omega) rfl (by omega) (by omega) (by omega) rfl ?_; refine J.assign rfl rfl ?_; refine J.nil ?_; refine JX.thenN (hK17 _ _ ?_); refine JC.seqCut (α := Unit) (fun _ => [(0, .pointer (some ⟨lb, 0, none⟩)), (1, .slice a rec_.length c), (5, .int .i64 ((needN rec_.length : Nat) : Int)), (6, .slice a41 (2 + rec_.length) c41), (7, .int .i64 ((i : Nat) : Int)), (8, .slice (if c41 = 64 * i then a41 else a41.map (·.add (64 * i * 1))) (min (64 * (i + 1)) (2 + rec_.length) - 64 * i) (c41 - 64 * i))]) (fun _ w' => St w (lb :: r :: lp.map (·.1)) ((lb, cb [.pointer (some ⟨r, 0, none⟩), .int .u64 ((gen : Nat) : Int), .int .i64 ((used : Nat) : Int), .int .i64 ((cnt_ : Nat) : Int), .bool false] 83) :: (r, rfO (.slice a0 (64 * n) c0) (p1) (k1)) :: (lp1 ++ lp41)) w') (fun _ => ?_) (fun K18 hK18 => ?_)
     ·refine JC.seq (fun K19 hK19 => ?_)
      by_cases hp0 : p1 = 0
      ·subst hp0
       have happ := appendP_torn (n := n) (q := ⟨gen, used, cnt_, recs⟩) (σ := ⟨B, p, k⟩) hlong hfull (hdw.trans (by rw [plan_at hlt]; exact dws_cons_torn))
       apply JC.drawL 12 [Eqv (_), Eqv (_), Eqv (_), Eqv (_), Eqv (_), Eqv (_), Eqv (_), Eqv (_), Eqv (_), Eqv (_), Eqv (_), Eqv (_)] Ty.mixed rfl rfl rfl (by kernel_rfl) rfl rfl (fun w w' hw hb => hw.step hb) ⟨fun _ _ _ h _ => h, fun _ _ _ h _ => h, fun _ _ _ h _ => h, fun _ _ _ h _ => h, fun _ _ _ h _ => h, fun _ _ _ h _ => h, fun _ _ _ h _ => h, fun _ _ _ h _ => h, fun _ _ _ h _ => h, fun _ _ _ h _ => h, fun _ _ _ h _ => h, fun _ _ _ h _ => h, trivial⟩ ?hstep ?htail
       case hstep =>
        refine ⟨fun wi => ?_, fun wi => ?_, fun wi => ?_, fun wi => ?_, fun wi => ?_, fun wi => ?_, fun wi => ?_, fun wi => ?_, fun wi => ?_, fun wi => ?_, fun wi => ?_, fun wi => ?_, trivial⟩
        ·refine Fin.nil ?_; refine J.move rfl rfl ?_
         exact J.finP rfl
        ·refine Fin.consE rfl (Fin.nil ?_); refine J.nilCheck rfl rfl ?_
         exact J.finP rfl
        ·refine Fin.consE rfl (Fin.nil ?_); refine J.fieldAddr Ty.fd83_0 rfl rfl ?_
         exact J.finP rfl
        ·refine Fin.consE rfl (Fin.nil ?_); refine J.load1 Ty.a58 rfl (fun w hw => (cell_of (hw.2.own (_, _) zm)).trans (by exact rfl)) rfl ?_
         exact J.finP rfl
        ·refine Fin.nil ?_; refine J.move rfl rfl ?_
         exact J.finP rfl
        ·refine Fin.consE rfl (Fin.nil ?_); refine J.nilCheck rfl rfl ?_
         exact J.finP rfl
        ·refine Fin.consE rfl (Fin.nil ?_); refine J.fieldAddr Ty.fd83_2 rfl rfl ?_
         exact J.finP rfl
        ·refine Fin.consE rfl (Fin.nil ?_); refine J.load1 Ty.a3 rfl (fun w hw => (cell_of (hw.2.own (_, _) zm)).trans (by exact rfl)) rfl ?_
         exact J.finP rfl
        ·refine Fin.consE rfl (Fin.nil ?_); refine J.addN rfl rfl (by omega) (by omega) rfl ?_
         exact J.finP rfl
        ·refine Fin.nil ?_; refine J.move rfl rfl ?_
         exact J.finP rfl
        ·refine Fin.consE rfl (Fin.consE rfl (Fin.nil ?_))
         refine J.addN rfl rfl (by omega) (by omega) rfl ?_; refine J.name 66 rfl (show Value.int .i64 _ = .int .i64 ((2 + used + i : Nat) : Int) by congr 1) ?_
         exact J.finP rfl
        ·refine Fin.nil ?_; refine J.move rfl rfl ?_
         exact J.finP rfl
       case htail =>
        refine Fin.consE rfl (Fin.consE rfl (Fin.consE rfl (Fin.consE rfl (Fin.consE rfl (Fin.consE rfl (Fin.consE rfl (Fin.consE rfl (Fin.consE rfl (Fin.consE rfl (Fin.consE rfl (Fin.consE rfl (Fin.nil ?_))))))))))))
        refine J.perm ((r, rfO (.slice a0 (64 * n) c0) (0) (k1)) :: (lp1 ++ ((lb, cb [.pointer (some ⟨r, 0, none⟩), .int .u64 ((gen : Nat) : Int), .int .i64 ((used : Nat) : Int), .int .i64 ((cnt_ : Nat) : Int), .bool false] 83) :: lp41))) zp ?_; refine J.callB (fun w1 w2 hw hb => hw.step hb) Ty.bd55 rfl rfl (fun w1 hw => rwrite_down r n _ lp1 B1 k1 w1 (St.owns (l1 := (r, rfO (.slice a0 (64 * n) c0) (0) (k1)) :: lp1) hw) hv1 hn ((2 + used + i : Nat) : Int) _ (min (64 * (i + 1)) (2 + rec_.length) - 64 * i) (c41 - 64 * i) (by omega) (by omega) (by omega)) ?_; refine J.perm ((lb, cb [.pointer (some ⟨r, 0, none⟩), .int .u64 ((gen : Nat) : Int), .int .i64 ((used : Nat) : Int), .int .i64 ((cnt_ : Nat) : Int), .bool false] 83) :: (r, rfO (.slice a0 (64 * n) c0) (0) (k1)) :: (lp1 ++ lp41)) zp ?_; refine J.assign rfl rfl ?_; refine J.nil ?_; refine JX.thenN (hK19 _ _ ?_); refine JC.seq (fun K20 hK20 => ?_); refine JC.region ?_; refine J.move rfl rfl ?_; refine J.bin rfl rfl rfl rfl ?_; refine J.nil ?_; refine JX.thenN (hK20 _ _ ?_)
        first | refine JC.condT rfl ?_ | refine JC.cond rfl (fun _ => ?_) (fun h => by first | (exfalso; simp at h; omega) | (simp at h))
        refine JC.seq (fun K21 hK21 => ?_); refine JC.region ?_; refine J.move rfl rfl ?_; refine J.nilCheck rfl rfl ?_; refine J.fieldAddr Ty.fd83_4 rfl rfl ?_; refine J.storeO Ty.s4 rfl rfl rfl rfl (by simp [Value.oneCell']) zu (by simp) ?_; refine J.nil ?_; refine JX.thenN (hK21 _ _ ?_); refine JC.seq (fun K22 hK22 => ?_); refine JC.region ?_; refine J.move rfl rfl ?_; refine J.assign rfl rfl ?_; refine J.nil ?_; refine JX.thenN (hK22 _ _ ?_); refine JC.ret ?_; refine JX.blockR ?_; refine JX.thenR ?_; refine JX.thenR ?_; refine JX.blockR ?_; refine JX.thenR ?_; refine JX.ret1 rfl rfl (fun w1 hw => ?_)
        rw [happ]
        first
        | exact ⟨lp, rfl, hv, hw⟩
        | exact ⟨lp1, rfl, hv1, hw.drop (.cons_cons _ (.cons_cons _ (List.sublist_append_left _ _)))⟩
        | exact ⟨lp2, rfl, hv2, hw.drop (.cons_cons _ (.cons_cons _ (List.sublist_append_left _ _)))⟩
      ·apply JC.drawL 12 [Eqv (_), Eqv (_), Eqv (_), Eqv (_), Eqv (_), Eqv (_), Eqv (_), Eqv (_), Eqv (_), Eqv (_), Eqv (_), Eqv (_)] Ty.mixed rfl rfl rfl (by kernel_rfl) rfl rfl (fun w w' hw hb => hw.step hb) ⟨fun _ _ _ h _ => h, fun _ _ _ h _ => h, fun _ _ _ h _ => h, fun _ _ _ h _ => h, fun _ _ _ h _ => h, fun _ _ _ h _ => h, fun _ _ _ h _ => h, fun _ _ _ h _ => h, fun _ _ _ h _ => h, fun _ _ _ h _ => h, fun _ _ _ h _ => h, fun _ _ _ h _ => h, trivial⟩ ?hstep ?htail
       case hstep =>
        refine ⟨fun wi => ?_, fun wi => ?_, fun wi => ?_, fun wi => ?_, fun wi => ?_, fun wi => ?_, fun wi => ?_, fun wi => ?_, fun wi => ?_, fun wi => ?_, fun wi => ?_, fun wi => ?_, trivial⟩
        ·refine Fin.nil ?_; refine J.move rfl rfl ?_
         exact J.finP rfl
        ·refine Fin.consE rfl (Fin.nil ?_); refine J.nilCheck rfl rfl ?_
         exact J.finP rfl
        ·refine Fin.consE rfl (Fin.nil ?_); refine J.fieldAddr Ty.fd83_0 rfl rfl ?_
         exact J.finP rfl
        ·refine Fin.consE rfl (Fin.nil ?_); refine J.load1 Ty.a58 rfl (fun w hw => (cell_of (hw.2.own (_, _) zm)).trans (by exact rfl)) rfl ?_
         exact J.finP rfl
        ·refine Fin.nil ?_; refine J.move rfl rfl ?_
         exact J.finP rfl
        ·refine Fin.consE rfl (Fin.nil ?_); refine J.nilCheck rfl rfl ?_
         exact J.finP rfl
        ·refine Fin.consE rfl (Fin.nil ?_); refine J.fieldAddr Ty.fd83_2 rfl rfl ?_
         exact J.finP rfl
        ·refine Fin.consE rfl (Fin.nil ?_); refine J.load1 Ty.a3 rfl (fun w hw => (cell_of (hw.2.own (_, _) zm)).trans (by exact rfl)) rfl ?_
         exact J.finP rfl
        ·refine Fin.consE rfl (Fin.nil ?_); refine J.addN rfl rfl (by omega) (by omega) rfl ?_
         exact J.finP rfl
        ·refine Fin.nil ?_; refine J.move rfl rfl ?_
         exact J.finP rfl
        ·refine Fin.consE rfl (Fin.consE rfl (Fin.nil ?_))
         refine J.addN rfl rfl (by omega) (by omega) rfl ?_; refine J.name 66 rfl (show Value.int .i64 _ = .int .i64 ((2 + used + i : Nat) : Int) by congr 1) ?_
         exact J.finP rfl
        ·refine Fin.nil ?_; refine J.move rfl rfl ?_
         exact J.finP rfl
       case htail =>
        refine Fin.consE rfl (Fin.consE rfl (Fin.consE rfl (Fin.consE rfl (Fin.consE rfl (Fin.consE rfl (Fin.consE rfl (Fin.consE rfl (Fin.consE rfl (Fin.consE rfl (Fin.consE rfl (Fin.consE rfl (Fin.nil ?_))))))))))))
        refine J.perm (((r, rfO (.slice a0 (64 * n) c0) (p1) (k1)) :: lp1) ++ ((lb, cb [.pointer (some ⟨r, 0, none⟩), .int .u64 ((gen : Nat) : Int), .int .i64 ((used : Nat) : Int), .int .i64 ((cnt_ : Nat) : Int), .bool false] 83) :: lp41)) zp ?_
        refine J.callS (α := List (Nat × Obj)) (V := fun _ => .int .i64 0) (Pr := fun x => Vec 5 1 (.slice a0 (64 * n) c0) (64 * n) ((put B1 (2 + used + i) (piece (payload rec_) i)).map u8) x) (L := fun x => (r, rfO (.slice a0 (64 * n) c0) (if 0 < p1 then p1 - 1 else p1) (k1 + 1)) :: x) (l1 := (r, rfO (.slice a0 (64 * n) c0) (p1) (k1)) :: lp1) Ty.bd55 rfl rfl
         (fun w1 hw => rwrite_done r n _ lp1 B1 (piece (payload rec_) i) p1 k1 (2 + used + i) (if c41 = 64 * i then a41 else a41.map (·.add (64 * i * 1))) (min (64 * (i + 1)) (2 + rec_.length) - 64 * i) (c41 - 64 * i) w1 hw.owns hv1 hn hB1 hk10 (by omega) (by omega) (by omega) (by rw [piece_length, payload_length]) (by
          have h1 := (hv41.row (l := ((lb, cb [.pointer (some ⟨r, 0, none⟩), .int .u64 ((gen : Nat) : Int), .int .i64 ((used : Nat) : Int), .int .i64 ((cnt_ : Nat) : Int), .bool false] 83) :: (r, rfO (.slice a0 (64 * n) c0) (p1) (k1)) :: lp1)) (hw.perm zp)).slice (sz := 1) (i := 64 * i) (j := min (64 * (i + 1)) (2 + rec_.length)) (by rw [List.length_map, payload_length, Nat.mul_one]) (by omega) (by omega)
          have h2 : ((payload rec_).drop (64 * i)).take (min (64 * (i + 1)) (2 + rec_.length) - 64 * i) = piece (payload rec_) i := by
           have h3 : (payload rec_).length = 2 + rec_.length := payload_length rec_
           rw [piece]
           by_cases h4 : 64 * (i + 1) ≤ 2 + rec_.length
           ·congr 1; omega
           ·rw [List.take_of_length_le (by simp; omega), List.take_of_length_le (by simp; omega)]
          have h5 : List.take ((min (64 * (i + 1)) (2 + rec_.length) - 64 * i) * 1) (List.drop (64 * i * 1) ((payload rec_).map u8)) = (piece (payload rec_) i).map u8 := by
           rw [Nat.mul_one, Nat.mul_one, ← List.map_drop, ← List.map_take, h2]
          rw [h5] at h1
          exact h1) (vec_off (l1 := (r, rfO (.slice a0 (64 * n) c0) (p1) (k1)) :: lp1) (l := [(lb, cb [.pointer (some ⟨r, 0, none⟩), .int .u64 ((gen : Nat) : Int), .int .i64 ((used : Nat) : Int), .int .i64 ((cnt_ : Nat) : Int), .bool false] 83)]) hv41 (hw.perm zp) _ _ _ _) hp1 hp0) (fun lp2 hv2 => ?_)
        refine J.perm ((lb, cb [.pointer (some ⟨r, 0, none⟩), .int .u64 ((gen : Nat) : Int), .int .i64 ((used : Nat) : Int), .int .i64 ((cnt_ : Nat) : Int), .bool false] 83) :: (r, rfO (.slice a0 (64 * n) c0) (if 0 < p1 then p1 - 1 else p1) (k1 + 1)) :: (lp2 ++ lp41)) zp ?_; refine J.assign rfl rfl ?_; refine J.nil ?_; refine JX.thenN (hK19 _ _ ?_); refine JC.seq (fun K23 hK23 => ?_); refine JC.region ?_; refine J.move rfl rfl ?_; refine J.bin rfl rfl rfl rfl ?_; refine J.nil ?_; refine JX.thenN (hK23 _ _ ?_)
        first | refine JC.condF rfl ?_ | refine JC.cond rfl (fun h => by first | (exfalso; simp at h; omega) | (simp at h)) (fun _ => ?_)
        refine JC.skip ?_; refine JX.blockN ?_; refine JX.thenN (hK16 _ _ ?_); refine JC.region ?_; refine J.move rfl rfl ?_
        (first | refine J.addN rfl rfl (by omega) (by omega) rfl ?_ | refine J.bin rfl rfl rfl rfl ?_)
        refine J.assign rfl rfl ?_; refine J.nil ?_; refine JX.thenN ?_; refine JX.again (i + 1, put B1 (2 + used + i) (piece (payload rec_) i), if 0 < p1 then p1 - 1 else p1, k1 + 1, lp2) ?_ ?_ ?_
        ·simp only; omega
        ·exact ⟨rfl, rfl, rfl, rfl, rfl, trivial⟩
        ·exact fun w1 hw => ⟨⟨hlt, put_length hB1 (by omega) (by rw [piece_length]; omega), by simp only; omega, by simp only; omega, by simp only; split <;> omega, hv2, by simp only; rw [hdw, plan_at hlt, dws_cons hp0]; rfl⟩, hw⟩
     ·refine JC.seq (fun K24 hK24 => ?_); refine JC.region ?_; refine J.move rfl rfl ?_; refine J.lenS rfl Ty.u26 rfl rfl ?_; refine J.bin rfl rfl rfl rfl ?_; refine J.nil ?_; refine JX.thenN (hK24 _ _ ?_); refine JC.cond rfl (fun h4 => ?_) (fun h4 => ?_)
      ·try simp only [decide_eq_true_eq, decide_eq_false_iff_not, beq_iff_eq, bne_iff_ne, bne_eq_false_iff_eq, ne_eq, beq_eq_false_iff_ne, Bool.not_eq_true, Bool.not_eq_false, Int.not_lt, Int.not_le] at h4
       refine JC.region ?_; refine J.move rfl rfl ?_; refine J.sliceS (i := 0) (j := 64) Ty.el26 Ty.s5 rfl rfl rfl rfl (by simp [bnd]) (by omega) (by first | omega | (simp at h4; omega)) (by omega) rfl ?_; refine J.assign rfl rfl ?_; refine J.nil ?_; refine JX.thenN ?_
       exact JX.cut (hK18 ()) ⟨rfl, rfl, rfl, rfl, rfl, congrArg some (show Value.slice _ _ _ = Value.slice _ _ _ by
        rw [show min (64 * (i + 1)) (2 + rec_.length) - 64 * i = 64 by first | omega | (simp at h4; omega), if_neg_add]; rfl), trivial⟩ (fun w1 hw => hw)
      ·try simp only [decide_eq_true_eq, decide_eq_false_iff_not, beq_iff_eq, bne_iff_ne, bne_eq_false_iff_eq, ne_eq, beq_eq_false_iff_ne, Bool.not_eq_true, Bool.not_eq_false, Int.not_lt, Int.not_le] at h4
       refine JC.skip ?_; refine JX.thenN ?_
       exact JX.cut (hK18 ()) ⟨rfl, rfl, rfl, rfl, rfl, congrArg some (show Value.slice _ _ _ = Value.slice _ _ _ by
        rw [show min (64 * (i + 1)) (2 + rec_.length) - 64 * i = 2 + rec_.length - 64 * i by first | omega | (simp at h4; omega)]), trivial⟩ (fun w1 hw => hw)
    ·obtain rfl : i = needN rec_.length := by simp at h3; omega
     refine JC.exit ?_; refine JX.thenE ?_; refine JX.thenE ?_; refine JX.blockE ?_; refine JX.thenN (hK12 _ _ ?_); refine JC.seq (fun K25 hK25 => ?_); refine JC.region ?_; refine J.make Ty.el26 Ty.s5 Ty.b5 Ty.z5 rfl rfl rfl rfl (by omega) (by omega) (by omega) rfl (fun b75 => ?_); refine J.perm ((b75, cb ((hst ([] : List UInt8) ((gen + 1)) 0 16).map u8) 5) :: (lb, cb [.pointer (some ⟨r, 0, none⟩), .int .u64 ((gen : Nat) : Int), .int .i64 ((used : Nat) : Int), .int .i64 ((cnt_ : Nat) : Int), .bool false] 83) :: (r, rfO (.slice a0 (64 * n) c0) (p1) (k1)) :: (lp1 ++ lp41)) (by rw [hst_zero]; exact .refl _) ?_; refine J.perm ((lb, cb [.pointer (some ⟨r, 0, none⟩), .int .u64 ((gen : Nat) : Int), .int .i64 ((used : Nat) : Int), .int .i64 ((cnt_ : Nat) : Int), .bool false] 83) :: (r, rfO (.slice a0 (64 * n) c0) (p1) (k1)) :: (lp1 ++ (lp41 ++ [(b75, cb ((hst ([] : List UInt8) ((gen + 1)) 0 16).map u8) 5)]))) zp ?_; refine J.assign rfl rfl ?_; refine J.nil ?_; refine JX.thenN (hK25 _ _ ?_); refine JC.seq (fun K26 hK26 => ?_); refine JC.seq (fun K27 hK27 => ?_)
     apply JC.drawL 7 [Eqv (_), Eqv (_), Eqv (_), Eqv (_), Eqv (_), Eqv (_), Eqv (_)] Ty.mixed rfl rfl rfl (by kernel_rfl) rfl rfl (fun w w' hw hb => hw.step hb) ⟨fun _ _ _ h _ => h, fun _ _ _ h _ => h, fun _ _ _ h _ => h, fun _ _ _ h _ => h, fun _ _ _ h _ => h, fun _ _ _ h _ => h, fun _ _ _ h _ => h, trivial⟩ ?hstep ?htail
     case hstep =>
      refine ⟨fun wi => ?_, fun wi => ?_, fun wi => ?_, fun wi => ?_, fun wi => ?_, fun wi => ?_, fun wi => ?_, trivial⟩
      ·refine Fin.nil ?_; refine J.move rfl rfl ?_
       exact J.finP rfl
      ·refine Fin.consE rfl (Fin.nil ?_); refine J.nilCheck rfl rfl ?_
       exact J.finP rfl
      ·refine Fin.consE rfl (Fin.nil ?_); refine J.fieldAddr Ty.fd83_1 rfl rfl ?_
       exact J.finP rfl
      ·refine Fin.consE rfl (Fin.nil ?_); refine J.load1 Ty.a81 rfl (fun w hw => (cell_of (hw.2.own (_, _) zm)).trans (by exact rfl)) rfl ?_
       exact J.finP rfl
      ·refine Fin.consE rfl (Fin.nil ?_); refine J.bin rfl rfl rfl rfl ?_; refine J.name 80 rfl (congrArg (Value.int .u64) (show _ = ((gen + 1 : Nat) : Int) from wrap_u64 (by omega) (by omega))) ?_
       exact J.finP rfl
      ·refine Fin.nil ?_; refine J.assign rfl rfl ?_
       exact J.finP rfl
      ·refine Fin.consE rfl (Fin.consE rfl (Fin.consE rfl (Fin.consE rfl (Fin.consE rfl (Fin.consE rfl (Fin.consE rfl (Fin.consE rfl (Fin.nil ?_))))))))
       refine J.assign rfl rfl ?_
       exact J.finP rfl
     case htail =>
      refine Fin.consE rfl (Fin.consE rfl (Fin.consE rfl (Fin.consE rfl (Fin.consE rfl (Fin.consE rfl (Fin.consE rfl (Fin.nil ?_)))))))
      refine J.nil ?_; refine JX.thenN (hK27 _ _ ?_); refine JC.block ?_
      refine JC.conseq (JC.cov (f := (fun j => [(0, .pointer (some ⟨lb, 0, none⟩)), (1, .slice a rec_.length c), (5, .int .i64 ((needN rec_.length : Nat) : Int)), (10, .slice (some ⟨b75, 0, none⟩) 24 24), (11, .int .i64 ((j : Nat) : Int)), (12, .int .u64 (((gen + 1) / 256 ^ j : Nat) : Int))]) 0) ⟨rfl, rfl, rfl, rfl, rfl, congrArg some (congrArg (Value.int .u64) (by rw [Nat.pow_zero, Nat.div_one]; try rfl)), trivial⟩ (JC.loop (α := Nat) (fun j => [(0, .pointer (some ⟨lb, 0, none⟩)), (1, .slice a rec_.length c), (5, .int .i64 ((needN rec_.length : Nat) : Int)), (10, .slice (some ⟨b75, 0, none⟩) 24 24), (11, .int .i64 ((j : Nat) : Int)), (12, .int .u64 (((gen + 1) / 256 ^ j : Nat) : Int))]) (fun j w' => j ≤ 8 ∧ St w (lb :: r :: lp.map (·.1)) ((lb, cb [.pointer (some ⟨r, 0, none⟩), .int .u64 ((gen : Nat) : Int), .int .i64 ((used : Nat) : Int), .int .i64 ((cnt_ : Nat) : Int), .bool false] 83) :: (r, rfO (.slice a0 (64 * n) c0) (p1) (k1)) :: (lp1 ++ (lp41 ++ [(b75, cb ((hst (([] : List UInt8)) ((gen + 1)) j 16).map u8) 5)]))) w') (fun j => 8 - j) 0 (fun j => ?_))) (fun w hw => ⟨Nat.zero_le _, hw⟩)
      refine JC.pr (fun hj => ?_); refine JC.seq (fun K28 hK28 => ?_); refine JC.seq (fun K29 hK29 => ?_); refine JC.region ?_; refine J.move rfl rfl ?_; refine J.bin rfl rfl rfl rfl ?_; refine J.nil ?_; refine JX.thenN (hK29 _ _ ?_); refine JC.cond rfl (fun h6 => ?_) (fun h6 => ?_)
      ·have hltj : j < 8 := by simp at h6; omega
       refine JC.skip ?_; refine JX.thenN (hK28 _ _ ?_); refine JC.seq (fun K30 hK30 => ?_); refine JC.block ?_; refine JC.region ?_; refine J.move rfl rfl ?_; refine J.move rfl rfl ?_; refine J.subN rfl rfl (by omega) (by omega) rfl ?_; refine J.move rfl rfl ?_; refine J.bin rfl rfl rfl rfl ?_; refine J.name 91 rfl (congrArg (Value.int .u64) (show _ = (((gen + 1) / 256 ^ j % 256 : Nat) : Int) from by first | rfl | (rw [Int.tmod_eq_emod_of_nonneg (Int.natCast_nonneg _)]; rfl))) ?_; refine J.convInt Ty.u81 Ty.u5 rfl rfl ?_; refine J.name 92 rfl (byte_u64 ((gen + 1)) j hltj) ?_; refine J.indexAddrS Ty.el26 Ty.s5 rfl rfl (by omega) (by omega) rfl ?_; refine J.storeO (cs := (hst (([] : List UInt8)) ((gen + 1)) j 16).map u8) (vs := [u8 ((be8 ((gen + 1)))[7 - j]'(by rw [be8_length]; omega))]) Ty.s5 rfl rfl rfl rfl (by simp [Value.oneCell']) (.there (.there (Up.app (Up.app .here)))) (by rw [List.length_map, hst_length (by omega)]; simp only [List.length_append, List.length_nil, be8_length]; omega) ?_
       refine J.conseq (I' := St w (lb :: r :: lp.map (·.1)) ((lb, cb [.pointer (some ⟨r, 0, none⟩), .int .u64 ((gen : Nat) : Int), .int .i64 ((used : Nat) : Int), .int .i64 ((cnt_ : Nat) : Int), .bool false] 83) :: (r, rfO (.slice a0 (64 * n) c0) (p1) (k1)) :: (lp1 ++ (lp41 ++ [(b75, cb ((hst (([] : List UInt8)) ((gen + 1)) (j + 1) 16).map u8) 5)])))) ?_ (fun w1 hw => by
        have e : setMany ((hst (([] : List UInt8)) ((gen + 1)) j 16).map u8) (0 + ((7 : Int) - (j : Int)).toNat * 1) [u8 ((be8 ((gen + 1)))[7 - j]'(by rw [be8_length]; omega))] = (hst (([] : List UInt8)) ((gen + 1)) (j + 1) 16).map u8 := by
         rw [← hst_set hltj, show 0 + ((7 : Int) - (j : Int)).toNat * 1 = (([] : List UInt8) : List UInt8).length + (7 - j) by simp only [List.length_append, List.length_nil, be8_length]; omega]
         simp only [setMany, List.map_set]
        rw [e] at hw
        exact hw)
       refine J.nil ?_; refine JX.blockN ?_; refine JX.thenN (hK30 _ _ ?_); refine JC.region ?_; refine J.move rfl rfl ?_
       (first | refine J.addN rfl rfl (by omega) (by omega) rfl ?_ | refine J.bin rfl rfl rfl rfl ?_)
       refine J.move rfl rfl ?_; refine J.bin rfl rfl rfl rfl ?_; refine J.name 86 rfl (congrArg (Value.int .u64) (show _ = (((gen + 1) / 256 ^ (j + 1) : Nat) : Int) from by rw [← div_pow]; exact wrap_u64 (n := (((gen + 1) / 256 ^ j / 256 : Nat) : Int)) (Int.natCast_nonneg _) (by have := Nat.div_le_self ((gen + 1) / 256 ^ j) 256; have := Nat.div_le_self ((gen + 1)) (256 ^ j); omega))) ?_; refine J.assign rfl rfl ?_; refine J.assign rfl rfl ?_; refine J.nil ?_; refine JX.thenN ?_; refine JX.again (j + 1) ?_ ?_ ?_
       ·omega
       ·exact ⟨rfl, rfl, rfl, rfl, rfl, rfl, trivial⟩
       ·exact fun w1 hw => ⟨hltj, hw⟩
      ·obtain rfl : j = 8 := by simp at h6; omega
       rw [hst_all, ← hst_zero (N := (used + needN rec_.length)) (z := 8)]
       refine JC.exit ?_; refine JX.thenE ?_; refine JX.thenE ?_; refine JX.blockE ?_; refine JX.thenN (hK26 _ _ ?_); refine JC.seq (fun K31 hK31 => ?_); refine JC.seq (fun K32 hK32 => ?_)
       apply JC.drawL 8 [Eqv (_), Eqv (_), Eqv (_), Eqv (_), Eqv (_), Eqv (_), Eqv (_), Eqv (_)] Ty.mixed rfl rfl rfl (by kernel_rfl) rfl rfl (fun w w' hw hb => hw.step hb) ⟨fun _ _ _ h _ => h, fun _ _ _ h _ => h, fun _ _ _ h _ => h, fun _ _ _ h _ => h, fun _ _ _ h _ => h, fun _ _ _ h _ => h, fun _ _ _ h _ => h, fun _ _ _ h _ => h, trivial⟩ ?hstep ?htail
       case hstep =>
        refine ⟨fun wi => ?_, fun wi => ?_, fun wi => ?_, fun wi => ?_, fun wi => ?_, fun wi => ?_, fun wi => ?_, fun wi => ?_, trivial⟩
        ·refine Fin.nil ?_; refine J.move rfl rfl ?_
         exact J.finP rfl
        ·refine Fin.consE rfl (Fin.nil ?_); refine J.nilCheck rfl rfl ?_
         exact J.finP rfl
        ·refine Fin.consE rfl (Fin.nil ?_); refine J.fieldAddr Ty.fd83_2 rfl rfl ?_
         exact J.finP rfl
        ·refine Fin.consE rfl (Fin.nil ?_); refine J.load1 Ty.a3 rfl (fun w hw => (cell_of (hw.2.own (_, _) zm)).trans (by exact rfl)) rfl ?_
         exact J.finP rfl
        ·refine Fin.nil ?_; refine J.move rfl rfl ?_
         exact J.finP rfl
        ·refine Fin.consE rfl (Fin.consE rfl (Fin.nil ?_))
         refine J.addN rfl rfl (by omega) (by omega) rfl ?_
         exact J.finP rfl
        ·refine Fin.nil ?_; refine J.assign rfl rfl ?_
         exact J.finP rfl
        ·refine Fin.consE rfl (Fin.consE rfl (Fin.consE rfl (Fin.consE rfl (Fin.consE rfl (Fin.consE rfl (Fin.consE rfl (Fin.consE rfl (Fin.consE rfl (Fin.nil ?_)))))))))
         refine J.assign rfl rfl ?_
         exact J.finP rfl
       case htail =>
        refine Fin.consE rfl (Fin.consE rfl (Fin.consE rfl (Fin.consE rfl (Fin.consE rfl (Fin.consE rfl (Fin.consE rfl (Fin.consE rfl (Fin.nil ?_))))))))
        refine J.nil ?_; refine JX.thenN (hK32 _ _ ?_); refine JC.block ?_
        refine JC.conseq (JC.cov (f := (fun j => [(0, .pointer (some ⟨lb, 0, none⟩)), (1, .slice a rec_.length c), (5, .int .i64 ((needN rec_.length : Nat) : Int)), (10, .slice (some ⟨b75, 0, none⟩) 24 24), (13, .int .i64 ((j : Nat) : Int)), (14, .int .i64 (((used + needN rec_.length) / 256 ^ j : Nat) : Int))]) 0) ⟨rfl, rfl, rfl, rfl, rfl, congrArg some (congrArg (Value.int .i64) (by rw [Nat.pow_zero, Nat.div_one]; try rfl)), trivial⟩ (JC.loop (α := Nat) (fun j => [(0, .pointer (some ⟨lb, 0, none⟩)), (1, .slice a rec_.length c), (5, .int .i64 ((needN rec_.length : Nat) : Int)), (10, .slice (some ⟨b75, 0, none⟩) 24 24), (13, .int .i64 ((j : Nat) : Int)), (14, .int .i64 (((used + needN rec_.length) / 256 ^ j : Nat) : Int))]) (fun j w' => j ≤ 8 ∧ St w (lb :: r :: lp.map (·.1)) ((lb, cb [.pointer (some ⟨r, 0, none⟩), .int .u64 ((gen : Nat) : Int), .int .i64 ((used : Nat) : Int), .int .i64 ((cnt_ : Nat) : Int), .bool false] 83) :: (r, rfO (.slice a0 (64 * n) c0) (p1) (k1)) :: (lp1 ++ (lp41 ++ [(b75, cb ((hst ((([] : List UInt8) ++ be8 ((gen + 1)))) ((used + needN rec_.length)) j 8).map u8) 5)]))) w') (fun j => 8 - j) 0 (fun j => ?_))) (fun w hw => ⟨Nat.zero_le _, hw⟩)
        refine JC.pr (fun hj => ?_); refine JC.seq (fun K33 hK33 => ?_); refine JC.seq (fun K34 hK34 => ?_); refine JC.region ?_; refine J.move rfl rfl ?_; refine J.bin rfl rfl rfl rfl ?_; refine J.nil ?_; refine JX.thenN (hK34 _ _ ?_); refine JC.cond rfl (fun h7 => ?_) (fun h7 => ?_)
        ·have hltj : j < 8 := by simp at h7; omega
         refine JC.skip ?_; refine JX.thenN (hK33 _ _ ?_); refine JC.seq (fun K35 hK35 => ?_); refine JC.block ?_; refine JC.region ?_; refine J.move rfl rfl ?_; refine J.move rfl rfl ?_; refine J.subN rfl rfl (by omega) (by omega) rfl ?_; refine J.move rfl rfl ?_; refine J.remN rfl rfl (Int.natCast_nonneg _) (by omega) rfl ?_; refine J.name 110 rfl (congrArg (Value.int .i64) (show _ = (((used + needN rec_.length) / 256 ^ j % 256 : Nat) : Int) from by first | rfl | (rw [Int.tmod_eq_emod_of_nonneg (Int.natCast_nonneg _)]; rfl))) ?_; refine J.convInt Ty.u3 Ty.u5 rfl rfl ?_; refine J.name 111 rfl (byte_u64 ((used + needN rec_.length)) j hltj) ?_; refine J.indexAddrS Ty.el26 Ty.s5 rfl rfl (by omega) (by omega) rfl ?_; refine J.storeO (cs := (hst ((([] : List UInt8) ++ be8 ((gen + 1)))) ((used + needN rec_.length)) j 8).map u8) (vs := [u8 ((be8 ((used + needN rec_.length)))[7 - j]'(by rw [be8_length]; omega))]) Ty.s5 rfl rfl rfl rfl (by simp [Value.oneCell']) (.there (.there (Up.app (Up.app .here)))) (by rw [List.length_map, hst_length (by omega)]; simp only [List.length_append, List.length_nil, be8_length]; omega) ?_
         refine J.conseq (I' := St w (lb :: r :: lp.map (·.1)) ((lb, cb [.pointer (some ⟨r, 0, none⟩), .int .u64 ((gen : Nat) : Int), .int .i64 ((used : Nat) : Int), .int .i64 ((cnt_ : Nat) : Int), .bool false] 83) :: (r, rfO (.slice a0 (64 * n) c0) (p1) (k1)) :: (lp1 ++ (lp41 ++ [(b75, cb ((hst ((([] : List UInt8) ++ be8 ((gen + 1)))) ((used + needN rec_.length)) (j + 1) 8).map u8) 5)])))) ?_ (fun w1 hw => by
          have e : setMany ((hst ((([] : List UInt8) ++ be8 ((gen + 1)))) ((used + needN rec_.length)) j 8).map u8) (0 + ((15 : Int) - (j : Int)).toNat * 1) [u8 ((be8 ((used + needN rec_.length)))[7 - j]'(by rw [be8_length]; omega))] = (hst ((([] : List UInt8) ++ be8 ((gen + 1)))) ((used + needN rec_.length)) (j + 1) 8).map u8 := by
           rw [← hst_set hltj, show 0 + ((15 : Int) - (j : Int)).toNat * 1 = ((([] : List UInt8) ++ be8 ((gen + 1))) : List UInt8).length + (7 - j) by simp only [List.length_append, List.length_nil, be8_length]; omega]
           simp only [setMany, List.map_set]
          rw [e] at hw
          exact hw)
         refine J.nil ?_; refine JX.blockN ?_; refine JX.thenN (hK35 _ _ ?_); refine JC.region ?_; refine J.move rfl rfl ?_
         (first | refine J.addN rfl rfl (by omega) (by omega) rfl ?_ | refine J.bin rfl rfl rfl rfl ?_)
         refine J.move rfl rfl ?_; refine J.quoN rfl rfl (Int.natCast_nonneg _) (by have := Nat.div_le_self ((used + needN rec_.length)) (256 ^ j); omega) (by omega) rfl ?_; refine J.name 105 rfl (congrArg (Value.int .i64) (show _ = (((used + needN rec_.length) / 256 ^ (j + 1) : Nat) : Int) from by rw [← div_pow]; rfl)) ?_; refine J.assign rfl rfl ?_; refine J.assign rfl rfl ?_; refine J.nil ?_; refine JX.thenN ?_; refine JX.again (j + 1) ?_ ?_ ?_
         ·omega
         ·exact ⟨rfl, rfl, rfl, rfl, rfl, rfl, trivial⟩
         ·exact fun w1 hw => ⟨hltj, hw⟩
        ·obtain rfl : j = 8 := by simp at h7; omega
         rw [hst_all, ← hst_zero (N := (cnt_ + 1)) (z := 0)]
         refine JC.exit ?_; refine JX.thenE ?_; refine JX.thenE ?_; refine JX.blockE ?_; refine JX.thenN (hK31 _ _ ?_); refine JC.seq (fun K36 hK36 => ?_); refine JC.seq (fun K37 hK37 => ?_)
         apply JC.drawL 7 [Eqv (_), Eqv (_), Eqv (_), Eqv (_), Eqv (_), Eqv (_), Eqv (_)] Ty.mixed rfl rfl rfl (by kernel_rfl) rfl rfl (fun w w' hw hb => hw.step hb) ⟨fun _ _ _ h _ => h, fun _ _ _ h _ => h, fun _ _ _ h _ => h, fun _ _ _ h _ => h, fun _ _ _ h _ => h, fun _ _ _ h _ => h, fun _ _ _ h _ => h, trivial⟩ ?hstep ?htail
         case hstep =>
          refine ⟨fun wi => ?_, fun wi => ?_, fun wi => ?_, fun wi => ?_, fun wi => ?_, fun wi => ?_, fun wi => ?_, trivial⟩
          ·refine Fin.nil ?_; refine J.move rfl rfl ?_
           exact J.finP rfl
          ·refine Fin.consE rfl (Fin.nil ?_); refine J.nilCheck rfl rfl ?_
           exact J.finP rfl
          ·refine Fin.consE rfl (Fin.nil ?_); refine J.fieldAddr Ty.fd83_3 rfl rfl ?_
           exact J.finP rfl
          ·refine Fin.consE rfl (Fin.nil ?_); refine J.load1 Ty.a3 rfl (fun w hw => (cell_of (hw.2.own (_, _) zm)).trans (by exact rfl)) rfl ?_
           exact J.finP rfl
          ·refine Fin.consE rfl (Fin.nil ?_); refine J.addN rfl rfl (by omega) (by omega) rfl ?_
           exact J.finP rfl
          ·refine Fin.nil ?_; refine J.assign rfl rfl ?_
           exact J.finP rfl
          ·refine Fin.consE rfl (Fin.consE rfl (Fin.consE rfl (Fin.consE rfl (Fin.consE rfl (Fin.consE rfl (Fin.consE rfl (Fin.consE rfl (Fin.nil ?_))))))))
           refine J.assign rfl rfl ?_
           exact J.finP rfl
         case htail =>
          refine Fin.consE rfl (Fin.consE rfl (Fin.consE rfl (Fin.consE rfl (Fin.consE rfl (Fin.consE rfl (Fin.consE rfl (Fin.nil ?_)))))))
          refine J.nil ?_; refine JX.thenN (hK37 _ _ ?_); refine JC.block ?_
          refine JC.conseq (JC.cov (f := (fun j => [(0, .pointer (some ⟨lb, 0, none⟩)), (1, .slice a rec_.length c), (5, .int .i64 ((needN rec_.length : Nat) : Int)), (10, .slice (some ⟨b75, 0, none⟩) 24 24), (15, .int .i64 ((j : Nat) : Int)), (16, .int .i64 (((cnt_ + 1) / 256 ^ j : Nat) : Int))]) 0) ⟨rfl, rfl, rfl, rfl, rfl, congrArg some (congrArg (Value.int .i64) (by rw [Nat.pow_zero, Nat.div_one]; try rfl)), trivial⟩ (JC.loop (α := Nat) (fun j => [(0, .pointer (some ⟨lb, 0, none⟩)), (1, .slice a rec_.length c), (5, .int .i64 ((needN rec_.length : Nat) : Int)), (10, .slice (some ⟨b75, 0, none⟩) 24 24), (15, .int .i64 ((j : Nat) : Int)), (16, .int .i64 (((cnt_ + 1) / 256 ^ j : Nat) : Int))]) (fun j w' => j ≤ 8 ∧ St w (lb :: r :: lp.map (·.1)) ((lb, cb [.pointer (some ⟨r, 0, none⟩), .int .u64 ((gen : Nat) : Int), .int .i64 ((used : Nat) : Int), .int .i64 ((cnt_ : Nat) : Int), .bool false] 83) :: (r, rfO (.slice a0 (64 * n) c0) (p1) (k1)) :: (lp1 ++ (lp41 ++ [(b75, cb ((hst (((([] : List UInt8) ++ be8 ((gen + 1))) ++ be8 ((used + needN rec_.length)))) ((cnt_ + 1)) j 0).map u8) 5)]))) w') (fun j => 8 - j) 0 (fun j => ?_))) (fun w hw => ⟨Nat.zero_le _, hw⟩)
          refine JC.pr (fun hj => ?_); refine JC.seq (fun K38 hK38 => ?_); refine JC.seq (fun K39 hK39 => ?_); refine JC.region ?_; refine J.move rfl rfl ?_; refine J.bin rfl rfl rfl rfl ?_; refine J.nil ?_; refine JX.thenN (hK39 _ _ ?_); refine JC.cond rfl (fun h8 => ?_) (fun h8 => ?_)
          ·have hltj : j < 8 := by simp at h8; omega
           refine JC.skip ?_; refine JX.thenN (hK38 _ _ ?_); refine JC.seq (fun K40 hK40 => ?_); refine JC.block ?_; refine JC.region ?_; refine J.move rfl rfl ?_; refine J.move rfl rfl ?_; refine J.subN rfl rfl (by omega) (by omega) rfl ?_; refine J.move rfl rfl ?_; refine J.remN rfl rfl (Int.natCast_nonneg _) (by omega) rfl ?_; refine J.name 128 rfl (congrArg (Value.int .i64) (show _ = (((cnt_ + 1) / 256 ^ j % 256 : Nat) : Int) from by first | rfl | (rw [Int.tmod_eq_emod_of_nonneg (Int.natCast_nonneg _)]; rfl))) ?_; refine J.convInt Ty.u3 Ty.u5 rfl rfl ?_; refine J.name 129 rfl (byte_u64 ((cnt_ + 1)) j hltj) ?_; refine J.indexAddrS Ty.el26 Ty.s5 rfl rfl (by omega) (by omega) rfl ?_; refine J.storeO (cs := (hst (((([] : List UInt8) ++ be8 ((gen + 1))) ++ be8 ((used + needN rec_.length)))) ((cnt_ + 1)) j 0).map u8) (vs := [u8 ((be8 ((cnt_ + 1)))[7 - j]'(by rw [be8_length]; omega))]) Ty.s5 rfl rfl rfl rfl (by simp [Value.oneCell']) (.there (.there (Up.app (Up.app .here)))) (by rw [List.length_map, hst_length (by omega)]; simp only [List.length_append, List.length_nil, be8_length]; omega) ?_
           refine J.conseq (I' := St w (lb :: r :: lp.map (·.1)) ((lb, cb [.pointer (some ⟨r, 0, none⟩), .int .u64 ((gen : Nat) : Int), .int .i64 ((used : Nat) : Int), .int .i64 ((cnt_ : Nat) : Int), .bool false] 83) :: (r, rfO (.slice a0 (64 * n) c0) (p1) (k1)) :: (lp1 ++ (lp41 ++ [(b75, cb ((hst (((([] : List UInt8) ++ be8 ((gen + 1))) ++ be8 ((used + needN rec_.length)))) ((cnt_ + 1)) (j + 1) 0).map u8) 5)])))) ?_ (fun w1 hw => by
            have e : setMany ((hst (((([] : List UInt8) ++ be8 ((gen + 1))) ++ be8 ((used + needN rec_.length)))) ((cnt_ + 1)) j 0).map u8) (0 + ((23 : Int) - (j : Int)).toNat * 1) [u8 ((be8 ((cnt_ + 1)))[7 - j]'(by rw [be8_length]; omega))] = (hst (((([] : List UInt8) ++ be8 ((gen + 1))) ++ be8 ((used + needN rec_.length)))) ((cnt_ + 1)) (j + 1) 0).map u8 := by
             rw [← hst_set hltj, show 0 + ((23 : Int) - (j : Int)).toNat * 1 = (((([] : List UInt8) ++ be8 ((gen + 1))) ++ be8 ((used + needN rec_.length))) : List UInt8).length + (7 - j) by simp only [List.length_append, List.length_nil, be8_length]; omega]
             simp only [setMany, List.map_set]
            rw [e] at hw
            exact hw)
           refine J.nil ?_; refine JX.blockN ?_; refine JX.thenN (hK40 _ _ ?_); refine JC.region ?_; refine J.move rfl rfl ?_
           (first | refine J.addN rfl rfl (by omega) (by omega) rfl ?_ | refine J.bin rfl rfl rfl rfl ?_)
           refine J.move rfl rfl ?_; refine J.quoN rfl rfl (Int.natCast_nonneg _) (by have := Nat.div_le_self ((cnt_ + 1)) (256 ^ j); omega) (by omega) rfl ?_; refine J.name 123 rfl (congrArg (Value.int .i64) (show _ = (((cnt_ + 1) / 256 ^ (j + 1) : Nat) : Int) from by rw [← div_pow]; rfl)) ?_; refine J.assign rfl rfl ?_; refine J.assign rfl rfl ?_; refine J.nil ?_; refine JX.thenN ?_; refine JX.again (j + 1) ?_ ?_ ?_
           ·omega
           ·exact ⟨rfl, rfl, rfl, rfl, rfl, rfl, trivial⟩
           ·exact fun w1 hw => ⟨hltj, hw⟩
          ·obtain rfl : j = 8 := by simp at h8; omega
           rw [hst_all, List.replicate_zero, List.append_nil, List.nil_append, flat3]
           refine JC.exit ?_; refine JX.thenE ?_; refine JX.thenE ?_; refine JX.blockE ?_; refine JX.thenN (hK36 _ _ ?_); refine JC.seq (fun K41 hK41 => ?_); refine JC.seq (fun K42 hK42 => ?_)
           by_cases hp0 : p1 = 0
           ·subst hp0
            have happ := appendP_torn (n := n) (q := ⟨gen, used, cnt_, recs⟩) (σ := ⟨B, p, k⟩) hlong hfull (hdw.trans (by rw [plan_last]; exact dws_cons_torn))
            apply JC.drawL 12 [Eqv (_), Eqv (_), Eqv (_), Eqv (_), Eqv (_), Eqv (_), Eqv (_), Eqv (_), Eqv (_), Eqv (_), Eqv (_), Eqv (_)] Ty.mixed rfl rfl rfl (by kernel_rfl) rfl rfl (fun w w' hw hb => hw.step hb) ⟨fun _ _ _ h _ => h, fun _ _ _ h _ => h, fun _ _ _ h _ => h, fun _ _ _ h _ => h, fun _ _ _ h _ => h, fun _ _ _ h _ => h, fun _ _ _ h _ => h, fun _ _ _ h _ => h, fun _ _ _ h _ => h, fun _ _ _ h _ => h, fun _ _ _ h _ => h, fun _ _ _ h _ => h, trivial⟩ ?hstep ?htail
            case hstep =>
             refine ⟨fun wi => ?_, fun wi => ?_, fun wi => ?_, fun wi => ?_, fun wi => ?_, fun wi => ?_, fun wi => ?_, fun wi => ?_, fun wi => ?_, fun wi => ?_, fun wi => ?_, fun wi => ?_, trivial⟩
             ·refine Fin.nil ?_; refine J.move rfl rfl ?_
              exact J.finP rfl
             ·refine Fin.consE rfl (Fin.nil ?_); refine J.nilCheck rfl rfl ?_
              exact J.finP rfl
             ·refine Fin.consE rfl (Fin.nil ?_); refine J.fieldAddr Ty.fd83_0 rfl rfl ?_
              exact J.finP rfl
             ·refine Fin.consE rfl (Fin.nil ?_); refine J.load1 Ty.a58 rfl (fun w hw => (cell_of (hw.2.own (_, _) zm)).trans (by exact rfl)) rfl ?_
              exact J.finP rfl
             ·refine Fin.nil ?_; refine J.move rfl rfl ?_
              exact J.finP rfl
             ·refine Fin.consE rfl (Fin.nil ?_); refine J.nilCheck rfl rfl ?_
              exact J.finP rfl
             ·refine Fin.consE rfl (Fin.nil ?_); refine J.fieldAddr Ty.fd83_1 rfl rfl ?_
              exact J.finP rfl
             ·refine Fin.consE rfl (Fin.nil ?_); refine J.load1 Ty.a81 rfl (fun w hw => (cell_of (hw.2.own (_, _) zm)).trans (by exact rfl)) rfl ?_
              exact J.finP rfl
             ·refine Fin.consE rfl (Fin.nil ?_); refine J.bin rfl rfl rfl rfl ?_; refine J.name 139 rfl (congrArg (Value.int .u64) (show _ = ((gen + 1 : Nat) : Int) from wrap_u64 (by omega) (by omega))) ?_
              exact J.finP rfl
             ·refine Fin.consE rfl (Fin.nil ?_); refine J.bin rfl rfl rfl rfl ?_; refine J.name 140 rfl (congrArg (Value.int .u64) (show _ = (((gen + 1) % 2 : Nat) : Int) from rfl)) ?_
              exact J.finP rfl
             ·refine Fin.consE rfl (Fin.nil ?_); refine J.convInt Ty.u81 Ty.u3 rfl rfl ?_; refine J.name 141 rfl (congrArg (Value.int .i64) (show _ = (((gen + 1) % 2 : Nat) : Int) from wrap_i64 (by omega) (by omega))) ?_
              exact J.finP rfl
             ·refine Fin.nil ?_; refine J.move rfl rfl ?_
              exact J.finP rfl
            case htail =>
             refine Fin.consE rfl (Fin.consE rfl (Fin.consE rfl (Fin.consE rfl (Fin.consE rfl (Fin.consE rfl (Fin.consE rfl (Fin.consE rfl (Fin.consE rfl (Fin.consE rfl (Fin.consE rfl (Fin.consE rfl (Fin.nil ?_))))))))))))
             refine J.perm ((r, rfO (.slice a0 (64 * n) c0) (0) (k1)) :: (lp1 ++ ((lb, cb [.pointer (some ⟨r, 0, none⟩), .int .u64 ((gen : Nat) : Int), .int .i64 ((used : Nat) : Int), .int .i64 ((cnt_ : Nat) : Int), .bool false] 83) :: (lp41 ++ [(b75, cb (([gen + 1, used + needN rec_.length, cnt_ + 1].flatMap be8).map u8) 5)])))) zp ?_; refine J.callB (fun w1 w2 hw hb => hw.step hb) Ty.bd55 rfl rfl (fun w1 hw => rwrite_down r n _ lp1 B1 k1 w1 (St.owns (l1 := (r, rfO (.slice a0 (64 * n) c0) (0) (k1)) :: lp1) hw) hv1 hn (((gen + 1) % 2 : Nat) : Int) _ 24 24 (by omega) (by omega) (by omega)) ?_; refine J.perm ((lb, cb [.pointer (some ⟨r, 0, none⟩), .int .u64 ((gen : Nat) : Int), .int .i64 ((used : Nat) : Int), .int .i64 ((cnt_ : Nat) : Int), .bool false] 83) :: (r, rfO (.slice a0 (64 * n) c0) (0) (k1)) :: (lp1 ++ (lp41 ++ [(b75, cb (([gen + 1, used + needN rec_.length, cnt_ + 1].flatMap be8).map u8) 5)]))) zp ?_; refine J.assign rfl rfl ?_; refine J.nil ?_; refine JX.thenN (hK42 _ _ ?_); refine JC.seq (fun K43 hK43 => ?_); refine JC.region ?_; refine J.move rfl rfl ?_; refine J.bin rfl rfl rfl rfl ?_; refine J.nil ?_; refine JX.thenN (hK43 _ _ ?_)
             first | refine JC.condT rfl ?_ | refine JC.cond rfl (fun _ => ?_) (fun h => by first | (exfalso; simp at h; omega) | (simp at h))
             refine JC.seq (fun K44 hK44 => ?_); refine JC.region ?_; refine J.move rfl rfl ?_; refine J.nilCheck rfl rfl ?_; refine J.fieldAddr Ty.fd83_4 rfl rfl ?_; refine J.storeO Ty.s4 rfl rfl rfl rfl (by simp [Value.oneCell']) zu (by simp) ?_; refine J.nil ?_; refine JX.thenN (hK44 _ _ ?_); refine JC.seq (fun K45 hK45 => ?_); refine JC.region ?_; refine J.move rfl rfl ?_; refine J.assign rfl rfl ?_; refine J.nil ?_; refine JX.thenN (hK45 _ _ ?_); refine JC.ret ?_; refine JX.thenR ?_; refine JX.ret1 rfl rfl (fun w1 hw => ?_)
             rw [happ]
             first
             | exact ⟨lp, rfl, hv, hw⟩
             | exact ⟨lp1, rfl, hv1, hw.drop (.cons_cons _ (.cons_cons _ (List.sublist_append_left _ _)))⟩
             | exact ⟨lp2, rfl, hv2, hw.drop (.cons_cons _ (.cons_cons _ (List.sublist_append_left _ _)))⟩
           ·have happ := appendP_ok (n := n) (q := ⟨gen, used, cnt_, recs⟩) (σ := ⟨B, p, k⟩) hlong hfull (hdw.trans (by rw [plan_last, dws_cons hp0]; exact dws_nil))
            apply JC.drawL 12 [Eqv (_), Eqv (_), Eqv (_), Eqv (_), Eqv (_), Eqv (_), Eqv (_), Eqv (_), Eqv (_), Eqv (_), Eqv (_), Eqv (_)] Ty.mixed rfl rfl rfl (by kernel_rfl) rfl rfl (fun w w' hw hb => hw.step hb) ⟨fun _ _ _ h _ => h, fun _ _ _ h _ => h, fun _ _ _ h _ => h, fun _ _ _ h _ => h, fun _ _ _ h _ => h, fun _ _ _ h _ => h, fun _ _ _ h _ => h, fun _ _ _ h _ => h, fun _ _ _ h _ => h, fun _ _ _ h _ => h, fun _ _ _ h _ => h, fun _ _ _ h _ => h, trivial⟩ ?hstep ?htail
            case hstep =>
             refine ⟨fun wi => ?_, fun wi => ?_, fun wi => ?_, fun wi => ?_, fun wi => ?_, fun wi => ?_, fun wi => ?_, fun wi => ?_, fun wi => ?_, fun wi => ?_, fun wi => ?_, fun wi => ?_, trivial⟩
             ·refine Fin.nil ?_; refine J.move rfl rfl ?_
              exact J.finP rfl
             ·refine Fin.consE rfl (Fin.nil ?_); refine J.nilCheck rfl rfl ?_
              exact J.finP rfl
             ·refine Fin.consE rfl (Fin.nil ?_); refine J.fieldAddr Ty.fd83_0 rfl rfl ?_
              exact J.finP rfl
             ·refine Fin.consE rfl (Fin.nil ?_); refine J.load1 Ty.a58 rfl (fun w hw => (cell_of (hw.2.own (_, _) zm)).trans (by exact rfl)) rfl ?_
              exact J.finP rfl
             ·refine Fin.nil ?_; refine J.move rfl rfl ?_
              exact J.finP rfl
             ·refine Fin.consE rfl (Fin.nil ?_); refine J.nilCheck rfl rfl ?_
              exact J.finP rfl
             ·refine Fin.consE rfl (Fin.nil ?_); refine J.fieldAddr Ty.fd83_1 rfl rfl ?_
              exact J.finP rfl
             ·refine Fin.consE rfl (Fin.nil ?_); refine J.load1 Ty.a81 rfl (fun w hw => (cell_of (hw.2.own (_, _) zm)).trans (by exact rfl)) rfl ?_
              exact J.finP rfl
             ·refine Fin.consE rfl (Fin.nil ?_); refine J.bin rfl rfl rfl rfl ?_; refine J.name 139 rfl (congrArg (Value.int .u64) (show _ = ((gen + 1 : Nat) : Int) from wrap_u64 (by omega) (by omega))) ?_
              exact J.finP rfl
             ·refine Fin.consE rfl (Fin.nil ?_); refine J.bin rfl rfl rfl rfl ?_; refine J.name 140 rfl (congrArg (Value.int .u64) (show _ = (((gen + 1) % 2 : Nat) : Int) from rfl)) ?_
              exact J.finP rfl
             ·refine Fin.consE rfl (Fin.nil ?_); refine J.convInt Ty.u81 Ty.u3 rfl rfl ?_; refine J.name 141 rfl (congrArg (Value.int .i64) (show _ = (((gen + 1) % 2 : Nat) : Int) from wrap_i64 (by omega) (by omega))) ?_
              exact J.finP rfl
             ·refine Fin.nil ?_; refine J.move rfl rfl ?_
              exact J.finP rfl
            case htail =>
             refine Fin.consE rfl (Fin.consE rfl (Fin.consE rfl (Fin.consE rfl (Fin.consE rfl (Fin.consE rfl (Fin.consE rfl (Fin.consE rfl (Fin.consE rfl (Fin.consE rfl (Fin.consE rfl (Fin.consE rfl (Fin.nil ?_))))))))))))
             refine J.perm (((r, rfO (.slice a0 (64 * n) c0) (p1) (k1)) :: lp1) ++ ((lb, cb [.pointer (some ⟨r, 0, none⟩), .int .u64 ((gen : Nat) : Int), .int .i64 ((used : Nat) : Int), .int .i64 ((cnt_ : Nat) : Int), .bool false] 83) :: (lp41 ++ [(b75, cb (([gen + 1, used + needN rec_.length, cnt_ + 1].flatMap be8).map u8) 5)]))) zp ?_
             refine J.callS (α := List (Nat × Obj)) (V := fun _ => .int .i64 0) (Pr := fun x => Vec 5 1 (.slice a0 (64 * n) c0) (64 * n) ((put B1 ((gen + 1) % 2) ([gen + 1, used + needN rec_.length, cnt_ + 1].flatMap be8)).map u8) x) (L := fun x => (r, rfO (.slice a0 (64 * n) c0) (if 0 < p1 then p1 - 1 else p1) (k1 + 1)) :: x) (l1 := (r, rfO (.slice a0 (64 * n) c0) (p1) (k1)) :: lp1) Ty.bd55 rfl rfl
              (fun w1 hw => rwrite_done r n _ lp1 B1 ([gen + 1, used + needN rec_.length, cnt_ + 1].flatMap be8) p1 k1 ((gen + 1) % 2) (some ⟨b75, 0, none⟩) 24 24 w1 hw.owns hv1 hn hB1 hk10 (by omega) (by omega) (by omega) (by rw [flat_length]; rfl) (Row.own (cs := ([gen + 1, used + needN rec_.length, cnt_ + 1].flatMap be8).map u8) (tb := 5) (fr := (0, 0)) hw (List.mem_append_right _ (.tail _ (List.mem_append_right _ (.head _)))) (List.take_of_length_le (Nat.le_refl _)) (Nat.le_refl _)) (Off.mk (hw.off (.tail _ (List.mem_append_right _ (.head _))))) hp1 hp0) (fun lp2 hv2 => ?_)
             refine J.perm ((lb, cb [.pointer (some ⟨r, 0, none⟩), .int .u64 ((gen : Nat) : Int), .int .i64 ((used : Nat) : Int), .int .i64 ((cnt_ : Nat) : Int), .bool false] 83) :: (r, rfO (.slice a0 (64 * n) c0) (if 0 < p1 then p1 - 1 else p1) (k1 + 1)) :: (lp2 ++ (lp41 ++ [(b75, cb (([gen + 1, used + needN rec_.length, cnt_ + 1].flatMap be8).map u8) 5)]))) zp ?_; refine J.assign rfl rfl ?_; refine J.nil ?_; refine JX.thenN (hK42 _ _ ?_); refine JC.seq (fun K46 hK46 => ?_); refine JC.region ?_; refine J.move rfl rfl ?_; refine J.bin rfl rfl rfl rfl ?_; refine J.nil ?_; refine JX.thenN (hK46 _ _ ?_)
             first | refine JC.condF rfl ?_ | refine JC.cond rfl (fun h => by first | (exfalso; simp at h; omega) | (simp at h)) (fun _ => ?_)
             refine JC.skip ?_; refine JX.thenN (hK41 _ _ ?_); refine JC.seq (fun K47 hK47 => ?_); refine JC.region ?_; refine J.move rfl rfl ?_; refine J.nilCheck rfl rfl ?_; refine J.fieldAddr Ty.fd83_1 rfl rfl ?_; refine J.loadO Ty.a81 rfl zm (by exact rfl) rfl ?_; refine J.bin rfl rfl rfl rfl ?_; refine J.name 154 rfl (congrArg (Value.int .u64) (show _ = ((gen + 1 : Nat) : Int) from wrap_u64 (by omega) (by omega))) ?_; refine J.nilCheck rfl rfl ?_; refine J.fieldAddr Ty.fd83_1 rfl rfl ?_; refine J.storeO Ty.s81 rfl rfl rfl rfl (by simp [Value.oneCell']) zu (by simp) ?_; refine J.nil ?_; refine JX.thenN (hK47 _ _ ?_); refine JC.seq (fun K48 hK48 => ?_); refine JC.region ?_; refine J.move rfl rfl ?_; refine J.nilCheck rfl rfl ?_; refine J.fieldAddr Ty.fd83_2 rfl rfl ?_; refine J.loadO Ty.a3 rfl zm (by exact rfl) rfl ?_; refine J.move rfl rfl ?_
             (first | refine J.addN rfl rfl (by omega) (by omega) rfl ?_ | refine J.bin rfl rfl rfl rfl ?_)
             refine J.nilCheck rfl rfl ?_; refine J.fieldAddr Ty.fd83_2 rfl rfl ?_; refine J.storeO Ty.s3 rfl rfl rfl rfl (by simp [Value.oneCell']) zu (by simp) ?_; refine J.nil ?_; refine JX.thenN (hK48 _ _ ?_); refine JC.seq (fun K49 hK49 => ?_); refine JC.region ?_; refine J.move rfl rfl ?_; refine J.nilCheck rfl rfl ?_; refine J.fieldAddr Ty.fd83_3 rfl rfl ?_; refine J.loadO Ty.a3 rfl zm (by exact rfl) rfl ?_
             (first | refine J.addN rfl rfl (by omega) (by omega) rfl ?_ | refine J.bin rfl rfl rfl rfl ?_)
             refine J.nilCheck rfl rfl ?_; refine J.fieldAddr Ty.fd83_3 rfl rfl ?_; refine J.storeO Ty.s3 rfl rfl rfl rfl (by simp [Value.oneCell']) zu (by simp) ?_; refine J.nil ?_; refine JX.thenN (hK49 _ _ ?_); refine JC.seq (fun K50 hK50 => ?_); refine JC.region ?_; refine J.assign rfl rfl ?_; refine J.nil ?_; refine JX.thenN (hK50 _ _ ?_); refine JC.ret ?_; refine JX.ret1 rfl rfl (fun w1 hw => ?_)
             rw [happ]
             first
             | exact ⟨lp, rfl, hv, hw⟩
             | exact ⟨lp1, rfl, hv1, hw.drop (.cons_cons _ (.cons_cons _ (List.sublist_append_left _ _)))⟩
             | exact ⟨lp2, rfl, hv2, hw.drop (.cons_cons _ (.cons_cons _ (List.sublist_append_left _ _)))⟩

end Go.Proofs.Ytoaenmlhehcjfaa
/-
 What an argument that can be read as data looks like in memory; and the frame of a law's row. Proved over any program.
-/
namespace Go.J
open Go.ChangeShapes Go.WideShapes Go.ChangeAt Go.RowKit
set_option linter.unusedVariables false
set_option linter.unusedSimpArgs false

def Decodes (P : Program) (t : TypeId) {α : Type} (R : World → List Value → α → Prop) : Prop :=
 ∀ (H : Type) (enc : TypeId × Value → H) (w : World) (fuel : Nat) (cs : List Value) (x : DataW H × List MemPlace),
  DataW.trod enc P w 0 (fun _ => true) true fuel t cs = some x → (∀ n, n ∈ x.1.weights P t → n ≤ reachBytes) → ∃ y : α, R w cs y

def RInt (k : IntKind) : World → List Value → Int → Prop := fun _ cs n => cs = [.int k n] ∧ (Lit.int k n).wf = true
def RU8 : World → List Value → UInt8 → Prop := fun _ cs b => cs = [u8 b]
def RBool : World → List Value → Bool → Prop := fun _ cs b => cs = [.bool b]
def RStr : World → List Value → ByteArray → Prop := fun _ cs s => cs = [.string s] ∧ s.size ≤ reachBytes
structure Sl (α : Type) where
 a : Option Addr
 c : Nat
 xs : List α
/-- the slice's own value -/
abbrev Sl.v {α : Type} (s : Sl α) : Value := .slice s.a s.xs.length s.c
def RSl {α : Type} (sz by_ : Nat) (R : World → List Value → α → Prop) : World → List Value → Sl α → Prop := fun w cs s =>
 cs = [s.v] ∧ s.xs.length ≤ s.c ∧ s.c * by_ ≤ reachBytes ∧
  (s.xs = [] ∨ ∃ b o, s.a = some ⟨b, o, none⟩ ∧ ∀ i x, s.xs[i]? = some x → ∃ cs', cs'.length = sz ∧ Cells w b (o + i * sz) cs' ∧ R w cs' x)

theorem dec_u8 {P : Program} {t : TypeId} (hu : P.underlying t = some (.int .u8)) : Decodes P t RU8 := by
 intro H enc w fuel cs x h _
 obtain ⟨n, rfl, _, hw⟩ := DataW.trod_int hu h
 have := bounds_u8 hw
 exact ⟨UInt8.ofNat n.toNat, by
  show [Value.int .u8 n] = [Value.int .u8 ((UInt8.ofNat n.toNat).toNat : Int)]
  have h2 : (UInt8.ofNat n.toNat).toNat = n.toNat := by simp; omega
  rw [h2]; congr 2; omega⟩
theorem cells_none {w : World} {a : Addr} {k : Nat} {cs : List Value} (h : w.cells? 0 a k = some cs) (hk : 0 < k) : ∃ b o, a = ⟨b, o, none⟩ ∧ cs.length = k ∧ Cells w b o cs := by
 unfold World.cells? at h
 rw [if_pos (Nat.zero_le _)] at h
 have hl := mapM_some_length h
 have hg := fun i (hi : i < k) => mapM_some_get h i i (by simp [hi])
 obtain ⟨b, o, s⟩ := a
 have h0 : w.cell? (⟨b, o, s⟩ : Addr) = cs[0]? := by simpa [Addr.add] using hg 0 hk
 have hs : s = none := World.cell?_spot (a := ⟨b, o, s⟩) (v := cs[0]'(by simp at hl; omega)) (by rw [h0, List.getElem?_eq_getElem])
 subst hs
 refine ⟨b, o, rfl, by simpa using hl, fun j hj => ?_⟩
 have := hg j (by simp at hl; omega)
 rw [addr_add] at this
 exact this

theorem weights_all {H : Type} {P : Program} {e : TypeId} : ∀ {ds : List (DataW H)} {d : DataW H}, d ∈ ds → ∀ n, n ∈ d.weights P e → n ∈ DataW.weightsAll P e ds := by
 intro ds
 induction ds with
 | nil => intro d h; cases h
 | cons d0 ds ih =>
  intro d h n hn
  simp only [DataW.weightsAll, List.mem_append]
  cases h with
  | head => exact .inl hn
  | tail _ h => exact .inr (ih h n hn)

theorem list_of {α : Type} {p : Nat → α → Prop} : ∀ (k : Nat), (∀ i, i < k → ∃ x, p i x) → ∃ xs : List α, xs.length = k ∧ ∀ i x, xs[i]? = some x → p i x := by
 intro k
 induction k with
 | zero => intro _; exact ⟨[], rfl, fun i x h => by simp at h⟩
 | succ k ih =>
  intro h
  obtain ⟨xs, hl, hx⟩ := ih (fun i hi => h i (by omega))
  obtain ⟨y, hy⟩ := h k (by omega)
  refine ⟨xs ++ [y], by simp [hl], fun i x hi => ?_⟩
  by_cases h1 : i < k
  ·rw [List.getElem?_append_left (by omega)] at hi; exact hx i x hi
  ·rw [List.getElem?_append_right (by omega)] at hi
   have : i - xs.length = 0 := by
    have := (List.getElem?_eq_some_iff.1 hi).1
    simp at this; omega
   rw [this] at hi
   simp at hi
   subst hi
   rw [show i = k by omega]; exact hy

theorem dec_slice {P : Program} {t e : TypeId} {sz by_ : Nat} {α : Type} {R : World → List Value → α → Prop} (he : elemT P t = some e) (hs : sizeT P e = some sz) (hb : bytesT P e = some by_) (hsz : 0 < sz) (D : Decodes P e R) : Decodes P t (RSl sz by_ R) := by
 intro H enc w fuel cs x h hn
 have hu := elem_u he
 have hcz : P.cellsOf e = sz := by
  unfold Program.cellsOf; unfold sizeT at hs; rw [hs]; rfl
 have hbz : P.bytesOf e = by_ := by
  unfold Program.bytesOf; unfold bytesT at hb; rw [hb]; rfl
 rcases Deep.open_slice hu h with ⟨rfl, rfl⟩ | ⟨a, len, cap, m, n, Dd, Pl, rfl, _, hl, _, hm, rfl, hel⟩
 ·exact ⟨⟨none, 0, []⟩, rfl, Nat.le_refl _, by simp, .inl rfl⟩
 ·simp only [if_true] at hm
  subst hm
  have hw1 : m * by_ ≤ reachBytes := by
   have := hn (((List.range len).map Dd).length + ((List.range (m - len)).map fun j => Dd (len + j)).length |> (· * P.bytesOf e)) (by simp [DataW.weights, hu])
   simp only [List.length_map, List.length_range, hbz] at this
   rwa [show len + (m - len) = m by omega] at this
  have hwe : ∀ i, i < len → ∀ k, k ∈ (Dd i).weights P e → k ≤ reachBytes := by
   intro i hi k hk
   refine hn k ?_
   simp only [DataW.weights, hu, List.mem_cons, List.mem_append]
   exact .inr (.inl (weights_all (List.mem_map.2 ⟨i, List.mem_range.2 hi, rfl⟩) k hk))
  obtain ⟨xs, hxl, hx⟩ := list_of (p := fun i (y : α) => ∃ cs', w.cells? 0 (a.add (i * sz)) sz = some cs' ∧ R w cs' y) len (fun i hi => by
   obtain ⟨cs', h1, h2⟩ := hel i (by omega)
   obtain ⟨y, hy⟩ := D H enc w n cs' _ h2 (hwe i hi)
   exact ⟨y, cs', by rw [← hcz]; exact h1, hy⟩)
  refine ⟨⟨some a, m, xs⟩, by simp [Sl.v, hxl], by simp only [hxl]; exact hl, hw1, ?_⟩
  by_cases h0 : xs = []
  ·exact .inl h0
  ·right
   have h0l : 0 < xs.length := List.length_pos_iff.2 h0
   obtain ⟨cs0, hc0, _⟩ := hx 0 xs[0] (List.getElem?_eq_getElem h0l)
   have ha0 : a.add (0 * sz) = a := by simp [Addr.add]
   rw [ha0] at hc0
   obtain ⟨b, o, rfl, _, _⟩ := cells_none hc0 hsz
   refine ⟨b, o, rfl, fun i y hi => ?_⟩
   obtain ⟨cs', hc, hr⟩ := hx i y hi
   rw [addr_add] at hc
   obtain ⟨b', o', he', hl', hcc⟩ := cells_none hc hsz
   simp only [Addr.mk.injEq] at he'
   obtain ⟨rfl, rfl, _⟩ := he'
   exact ⟨cs', hl', hcc, hr⟩

/-- the fields of a struct: types, places, sizes -/
def fieldsL (P : Program) : List Field → Option (List (TypeId × Nat × Nat))
 | [] => some []
 | f :: fs => match sizeT P f.type, fieldsL P fs with
  | some k, some r => some ((f.type, f.offset, k) :: r)
  | _, _ => none
def fieldsT (P : Program) (t : TypeId) : Option (List (TypeId × Nat × Nat)) := match P.underlying t with
 | some (.struct fs) => fieldsL P fs.toList
 | _ => none
/-- an array of bytes -/
def RBytes (k : Nat) : World → List Value → List UInt8 → Prop := fun _ cs bs => bs.length = k ∧ cs = bs.map u8
/- arguments -/
theorem arg_slice {P : Program} {W : World} {base t : Nat} {v : Value} {sz by_ : Nat} {α : Type} {R : World → List Value → α → Prop} {e : Nat} (he : elemT P t = some e) (hval : Value.okWide P W .any base t v) (D : Decodes P t (RSl sz by_ R))
  {H : Type} {enc : TypeId × Value → H} {d : DataW H} {ps : List MemPlace} (h : DataW.Trod enc P W 0 (fun _ => true) true t v d ps) (hn : ∀ n, n ∈ d.weights P t → n ≤ reachBytes) : ∃ s : Sl α, v = s.v ∧ RSl sz by_ R W [s.v] s := by
 obtain ⟨a, len, cap, rfl⟩ := okWide_slice (elem_u he) hval
 obtain ⟨fuel, hf⟩ := h
 obtain ⟨s, hs⟩ := D H enc W fuel _ _ hf hn
 have h1 : [Value.slice a len cap] = [s.v] := hs.1
 simp only [List.cons.injEq, and_true] at h1
 exact ⟨s, h1, rfl, hs.2⟩
theorem sized_arg {H : Type} {P : Program} {ts : List TypeId} {ds : List (DataW H)} (h : (DataW.weightsEach P ts ds).all (· ≤ reachBytes) = true) {j : Nat} {t : TypeId} {d : DataW H} (ht : ts[j]? = some t) (hd : ds[j]? = some d) :
  ∀ n, n ∈ d.weights P t → n ≤ reachBytes := fun n hn => by
 have := List.all_eq_true.1 h _ (DataW.weights_mem_each ht hd n hn)
 simpa using this
/-- bytes that came in -/
theorem RSl.row {W : World} {by_ : Nat} {s : Sl UInt8} {cs : List Value} (h : RSl 1 by_ RU8 W cs s) : Row W s.v s.xs.length (s.xs.map u8) := by
 obtain ⟨_, h1, _, h2⟩ := h
 refine ⟨s.a, s.c, rfl, h1, ?_⟩
 rcases h2 with h2 | ⟨b, o, ha, h2⟩
 ·left; rw [h2]; rfl
 ·right
  refine ⟨b, o, ha, fun j hj => ?_⟩
  simp only [List.length_map] at hj
  obtain ⟨cs', hl, hc, hr⟩ := h2 j s.xs[j] (List.getElem?_eq_getElem hj)
  have hr' : cs' = [u8 s.xs[j]] := hr
  subst hr'
  have := hc 0 (by simp)
  rw [show o + j = o + j * 1 + 0 by omega, this]
  simp [List.getElem?_eq_getElem hj]
theorem RSl.at {α : Type} {W : World} {sz by_ : Nat} {R : World → List Value → α → Prop} {s : Sl α} {cs : List Value} (h : RSl sz by_ R W cs s) {i : Nat} (hi : i < s.xs.length) :
  ∃ b o cs', s.a = some ⟨b, o, none⟩ ∧ cs'.length = sz ∧ Cells W b (o + (i : Int).toNat * sz) cs' ∧ R W cs' s.xs[i] := by
 obtain ⟨_, _, _, h2⟩ := h
 rcases h2 with h2 | ⟨b, o, ha, h2⟩
 ·rw [h2] at hi; simp at hi
 ·obtain ⟨cs', h3, h4, h5⟩ := h2 i s.xs[i] (List.getElem?_eq_getElem hi)
  exact ⟨b, o, cs', ha, h3, by simpa using h4, h5⟩
end Go.J
/-
 Slate's small methods, the law's helpers, the chapter's example.
-/
namespace Go.Proofs.Ytoaenmlhehcjfaa
open Go.J Go.RowKit
set_option linter.unusedVariables false
set_option linter.unusedSimpArgs false
set_option maxRecDepth 8000
/-- appending, told by parts -/
theorem append_all (lb d s n : Nat) (q : LogP) (down : Bool) (B rec_ : List UInt8) (p k : Int) (a : Option Addr) (m c : Nat) (w : World) (hw0 : Own w [(lb, lgO d q down), (d, dkO s n p k), (s, dkS B)]) (hB : B.length = 64 * n) (hn : n ≤ 4096) (hn3 : 3 ≤ n) (hg : q.gen < 9223372036854775808) (hu : q.used ≤ n - 2) (hcn : q.cnt ≤ q.used) (hk : 0 ≤ k) (hk2 : k < 4611686018427380000) (hp : p < 9223372036854775808) (hml : rec_.length = m) (hm47 : m ≤ 140737488351232) (hr : Row w (.slice a m c) m (rec_.map u8)) (hoff : Off [lb, d, s] (.slice a m c) (rec_.map u8)) {x : Int × LogP × Bool × DS} (hx : appendP n q down ⟨B, p, k⟩ rec_ = x) :
  Calls Try.prog 46 [.pointer (some ⟨lb, 0, none⟩), .slice a m c].toArray w fun r w' => r = .returned (.int .i64 x.1) ∧ St w [lb, d, s] [(lb, lgO d x.2.1 x.2.2.1), (d, dkO s n x.2.2.2.p x.2.2.2.k), (s, dkS x.2.2.2.B)] w' := by
 subst hx
 exact append_spec lb d s n q down B rec_ p k a m c w hw0 hB hn hn3 hg hu hcn hk hk2 hp hml hm47 hr hoff

theorem down_spec (lb d : Nat) (q : LogP) (down : Bool) (w : World) {l : List (Nat × Obj)} (hw0 : Own w ((lb, lgO d q down) :: l)) :
  Calls Try.prog 51 [.pointer (some ⟨lb, 0, none⟩)].toArray w fun r w' => r = .returned (.bool down) ∧ Bel w w' := by
 refine calls_of_J (args := [.pointer (some ⟨lb, 0, none⟩)]) (e := [(0, .pointer (some ⟨lb, 0, none⟩))]) Try.func51 rfl rfl ⟨rfl, trivial⟩ (hw0.st) ?_; refine JC.seq (fun K0 hK0 => ?_); refine JC.region ?_; refine J.assign rfl rfl ?_; refine J.nil ?_; refine JX.thenN (hK0 _ _ ?_); refine JC.seq (fun K1 hK1 => ?_); refine JC.region ?_; refine J.move rfl rfl ?_; refine J.neNil Ty.u94 rfl rfl rfl ?_; refine J.move rfl rfl ?_
 first | refine J.skip rfl rfl rfl rfl rfl ?_ | refine J.skipU rfl rfl rfl rfl ?_ | (refine J.unguard rfl rfl rfl ?_; refine J.move rfl rfl ?_)
 first | refine J.skip rfl rfl rfl rfl rfl ?_ | refine J.skipU rfl rfl rfl rfl ?_ | (refine J.unguard rfl rfl rfl ?_; refine J.nilCheck rfl rfl ?_)
 first | refine J.skip rfl rfl rfl rfl rfl ?_ | refine J.skipU rfl rfl rfl rfl ?_ | (refine J.unguard rfl rfl rfl ?_; refine J.fieldAddr Ty.fd124_4 rfl rfl ?_)
 first | refine J.skip rfl rfl rfl rfl rfl ?_ | refine J.skipU rfl rfl rfl rfl ?_ | (refine J.unguard rfl rfl rfl ?_; refine J.loadO Ty.a4 rfl zm (by exact rfl) rfl ?_)
 (first | refine J.pickT rfl rfl rfl ?_ | refine J.pickF rfl rfl rfl ?_)
 refine J.assign rfl rfl ?_; refine J.nil ?_; refine JX.thenN (hK1 _ _ ?_); refine JC.ret ?_; refine JX.ret1 rfl rfl (fun w hw => ?_)
 exact ⟨rfl, hw.same hw0 (fun p hp => hp)⟩

theorem append_nil (bv : Value) (w : World) :
  Calls Try.prog 46 [.pointer none, bv].toArray w fun r w' => r = .returned (.int .i64 1) ∧ Bel w w' := by
 refine calls_of_J (args := [.pointer none, bv]) (e := [(0, .pointer none), (1, bv)]) Try.func46 rfl rfl ⟨rfl, rfl, trivial⟩ (St.start w) ?_; refine JC.seq (fun K0 hK0 => ?_); refine JC.region ?_; refine J.assign rfl rfl ?_; refine J.nil ?_; refine JX.thenN (hK0 _ _ ?_); refine JC.seq (fun K1 hK1 => ?_); refine JC.block ?_; refine JC.seq (fun K2 hK2 => ?_); refine JC.region ?_; refine J.move rfl rfl ?_; refine J.eqNil Ty.u94 rfl rfl rfl ?_; refine J.assign rfl rfl ?_; refine J.nil ?_; refine JX.thenN (hK2 _ _ ?_)
 first | refine JC.condT rfl ?_ | refine JC.cond rfl (fun _ => ?_) (fun h => by first | (exfalso; simp at h; omega) | (simp at h))
 refine JC.seq (fun K3 hK3 => ?_); refine JC.region ?_; refine J.assign rfl rfl ?_; refine J.nil ?_; refine JX.thenN (hK3 _ _ ?_); refine JC.ret ?_; refine JX.blockR ?_; refine JX.thenR ?_; refine JX.ret1 rfl rfl (fun w hw => ?_)
 exact ⟨rfl, hw.below⟩

def fa1 : Int × LogP × Bool × DS := appendP 5 ⟨0, 0, 0, []⟩ false ⟨List.replicate 320 0, -1, 0⟩ [97, 98, 99]
def fa2 : Int × LogP × Bool × DS := appendP 5 fa1.2.1 fa1.2.2.1 fa1.2.2.2 (List.replicate 63 0)
def fa3 : Int × LogP × Bool × DS := appendP 5 fa2.2.1 fa2.2.2.1 fa2.2.2.2 []
end Go.Proofs.Ytoaenmlhehcjfaa
/-
 The calculus: maps, interfaces, function values, values of many cells. Proved over any program.
-/
namespace Go.J
open Go.RowKit
set_option linter.unusedVariables false
set_option linter.unusedSimpArgs false

/-- equality at a type of many cells -/
structure EqL (P : Program) (t : TypeId) : Prop where
 guard : P.eqGuardType P.depth t = false
 eq : ∀ (w : World) (x y : Value) (lx ly : Lit), keyOf P t x = some lx → keyOf P t y = some ly → ∃ r : Bool, (Op.equal t x y).run P w = .ok r w ∧ (r = true ↔ x = y)
theorem EqL.of {P : Program} {m : Nat} {t : TypeId} (hg : P.eqGuardType P.depth t = false) (hm : m + 1 ≤ 10000) (hk : P.keyTypeAt m t = true) (ht : P.tiled m t = true)
  (hw : (match P.underlying t with | some (.array _ _) | some (.struct _) => true | _ => false) = true) : EqL P t :=
 ⟨hg, fun w x y lx ly hx hy => by
  obtain ⟨r, h1, h2⟩ := run_equal_deep w (by omega) hk hw hx hy
  refine ⟨r, h1, h2.trans ⟨fun h => ?_, fun h => ?_⟩⟩
  ·subst h; exact keyOf_inj_deep ht hw hx hy
  ·subst h; rw [hx] at hy; exact Option.some.inj hy⟩
theorem binOp_eql_agg (P : Program) (t : TypeId) (a b : Array Value) (w : World) : (binOp .eql t (.agg a) (.agg b)).run P w = ((Op.equal t (.agg a) (.agg b)).run P w).andThen fun r w' => .ok (.bool r) w' := by
 simp only [binOp, Sem.run_bind, Sem.run_pure]
theorem binOp_neq_agg (P : Program) (t : TypeId) (a b : Array Value) (w : World) : (binOp .neq t (.agg a) (.agg b)).run P w = ((Op.equal t (.agg a) (.agg b)).run P w).andThen fun r w' => .ok (.bool !r) w' := by
 simp only [binOp, Sem.run_bind, Sem.run_pure]
theorem run_eqGuard_agg {P : Program} {op : BinOp} {t : TypeId} {x y : Operand} {a b : Array Value} (w : World) (hg : P.eqGuardType P.depth t = false) : (eqGuard op t x y (.agg a) (.agg b)).run P w = .ok () w := by
 unfold eqGuard
 cases op <;> simp [hg]

theorem run_key {P : Program} {w : World} {b clock : Nat} {es : Array MapEntry} (hb : w.heap[b]? = some (.map es clock)) : (getObj b).run P w = .ok (.map es clock) w := by simp [getObj, Sem.run, hb]
theorem run_keyset {P : Program} {w : World} {b clock : Nat} {es : Array MapEntry} (o : Obj) (hb : w.heap[b]? = some (.map es clock)) : (setObj b o).run P w = .ok () { w with heap := w.heap.setIfInBounds b o } := by simp [setObj, Sem.run, hb]

/-- the value of a key in a list of entries -/
inductive Look (L : List MapEntry) (k z : Value) : Value → Bool → Prop
 | no : (∀ e, e ∈ L → e.key ≠ k) → Look L k z z false
 | yes (j : Nat) (e : MapEntry) : L[j]? = some e → e.key = k → Look L k z e.val true
theorem run_lookup {P : Program} {w : World} {mt kt et : TypeId} {b clock : Nat} {es : Array MapEntry} {k z : Value} {l : Lit} (hm : P.underlying mt = some (.map kt et)) (K : WideMaps.KeyLaw P kt) (hz : zeroT P et = some z)
  (hb : w.heap[b]? = some (.map es clock)) (hk : keyOf P kt k = some l) (hes : ∀ e, e ∈ es.toList → ∃ l, keyOf P kt e.key = some l) :
  ∃ v ok, (Instr.lookup mt (.map (some b)) k true).run P w = .ok (.tuple #[v, .bool ok]) w ∧ Look es.toList k z v ok := by
 rcases K.find w hk es.toList hes with ⟨h1, h2⟩ | ⟨j, e0, h1, h2, h3⟩
 ·refine ⟨z, false, ?_, .no h2⟩
  simp [Instr.lookup, run_underlying' hm, run_key hb, K.check w _ hk, h1, run_zeroValue' hz]
 ·refine ⟨e0.val, true, ?_, .yes j e0 h2 h3⟩
  simp [Instr.lookup, run_underlying' hm, run_key hb, K.check w _ hk, h1]
theorem run_lookup1 {P : Program} {w : World} {mt kt et : TypeId} {b clock : Nat} {es : Array MapEntry} {k z : Value} {l : Lit} (hm : P.underlying mt = some (.map kt et)) (K : WideMaps.KeyLaw P kt) (hz : zeroT P et = some z)
  (hb : w.heap[b]? = some (.map es clock)) (hk : keyOf P kt k = some l) (hes : ∀ e, e ∈ es.toList → ∃ l, keyOf P kt e.key = some l) :
  ∃ v ok, (Instr.lookup mt (.map (some b)) k false).run P w = .ok v w ∧ Look es.toList k z v ok := by
 rcases K.find w hk es.toList hes with ⟨h1, h2⟩ | ⟨j, e0, h1, h2, h3⟩
 ·refine ⟨z, false, ?_, .no h2⟩
  simp [Instr.lookup, run_underlying' hm, run_key hb, K.check w _ hk, h1, run_zeroValue' hz]
 ·refine ⟨e0.val, true, ?_, .yes j e0 h2 h3⟩
  simp [Instr.lookup, run_underlying' hm, run_key hb, K.check w _ hk, h1]
theorem wrote_set {w : World} {b : Nat} {o o' : Obj} (hb : w.heap[b]? = some o) : Wrote w { w with heap := w.heap.setIfInBounds b o' } b o' :=
 ⟨rfl, rfl, rfl, by simp, rfl, by
  have := lt_of_some hb
  simp [this], fun k hk => by
  simp only [Array.getElem?_setIfInBounds]
  rw [if_neg (fun e => hk e.symm)]⟩

section
variable {P : Program} {ops : Array Oper} {Q : Exit → Act → World → Prop} {n : Nat} {e : Env} {I I' : World → Prop} {rest : List Oper}
variable {d t yt : Nat} {p : String} {af : Array Edge} {x y z : Operand} {v v1 v2 : Value} {w0 : World} {S : List Nat} {l l' : List (Nat × Obj)}

theorem J.eqA {ty : TypeId} {a b : Array Value} {la lb : Lit} (K : EqL P ty) (hx : ev e x = some (.agg a)) (hy : ev e y = some (.agg b)) (ha : keyOf P ty (.agg a) = some la) (hb : keyOf P ty (.agg b) = some lb) (hd : Nat.blt d n = true)
  (h : ∀ r : Bool, (r = true ↔ a = b) → J P ops Q n rest ((d, .bool r) :: e) I) : J P ops Q n (⟨some d, .binOp .eql ty x y yt, t, p, af, none⟩ :: rest) e I := by
 intro T w ht hw
 obtain ⟨r, h1, h2⟩ := K.eq w _ _ la lb ha hb
 refine (J.value (I := fun w' => w' = w) hd (fun T w' ht hw' => ?_) (h r (h2.trans (by simp)))) T w ht rfl
 subst hw'
 refine ⟨w', ?_, hw⟩
 simp only [execOp, ht.eval hx, ht.eval hy, Sem.run_bind, Sem.run_pure]
 rw [run_eqGuard_agg w' K.guard, Result.andThen_ok, binOp_eql_agg, h1]; rfl
theorem J.neA {ty : TypeId} {a b : Array Value} {la lb : Lit} (K : EqL P ty) (hx : ev e x = some (.agg a)) (hy : ev e y = some (.agg b)) (ha : keyOf P ty (.agg a) = some la) (hb : keyOf P ty (.agg b) = some lb) (hd : Nat.blt d n = true)
  (h : ∀ r : Bool, (r = true ↔ a = b) → J P ops Q n rest ((d, .bool (!r)) :: e) I) : J P ops Q n (⟨some d, .binOp .neq ty x y yt, t, p, af, none⟩ :: rest) e I := by
 intro T w ht hw
 obtain ⟨r, h1, h2⟩ := K.eq w _ _ la lb ha hb
 refine (J.value (I := fun w' => w' = w) hd (fun T w' ht hw' => ?_) (h r (h2.trans (by simp)))) T w ht rfl
 subst hw'
 refine ⟨w', ?_, hw⟩
 simp only [execOp, ht.eval hx, ht.eval hy, Sem.run_bind, Sem.run_pure]
 rw [run_eqGuard_agg w' K.guard, Result.andThen_ok, binOp_neq_agg, h1]; rfl

theorem setMany_all {cs vs : List Value} (h : vs.length = cs.length) : setMany cs 0 vs = vs := by
 rw [setMany_eq _ _ _ (by omega)]
 simp [h]
/-- a variable is written whole -/
theorem J.storeW {ty k b : Nat} {cs vs : List Value} {tb : TypeId} (hs : sizeT P ty = some k) (hx : ev e x = some (.pointer (some ⟨b, 0, none⟩))) (hy : ev e y = some v) (hv : v.cells = vs.toArray) (hk : vs.length = k) (hk' : cs.length = k) (h1 : ∀ v, v ∈ vs → v.oneCell' = true)
  (hu : Up l b (cb cs tb) (cb vs tb) l') (h : J P ops Q n rest e (St w0 S l')) : J P ops Q n (⟨none, .store ty x y, t, p, af, none⟩ :: rest) e (St w0 S l) :=
 J.storeO (cs := cs) hs hx hy hv hk h1 (by rw [setMany_all (by omega)]; exact hu) (by omega) h

/- maps -/
theorem J.makeMap {ty : TypeId} (hd : Nat.blt d n = true)
  (h : ∀ b, J P ops Q n rest ((d, .map (some b)) :: e) (St w0 S ((b, .map #[] 0) :: l))) : J P ops Q n (⟨some d, .makeMap ty none, t, p, af, none⟩ :: rest) e (St w0 S l) := by
 refine J.valueEx (V := fun b => .map (some b)) hd (fun T w ht hw => ⟨w.heap.size, w.alloc (.map #[] 0), ?_, ?_⟩) h
 ·simp [execOp, Instr.makeMap, run_newObj]
 ·exact hw.new (below_alloc' w _) (Nat.le_refl _) (alloc_at w _)
theorem J.lookup2 {mt kt et : TypeId} {b clock : Nat} {es : Array MapEntry} {k zv : Value} {lk : Lit} (hm : P.underlying mt = some (.map kt et)) (K : WideMaps.KeyLaw P kt) (hz : zeroT P et = some zv) (hx : ev e x = some (.map (some b))) (hy : ev e y = some k)
  (hb : ∀ w, I w → w.heap[b]? = some (.map es clock)) (hk : keyOf P kt k = some lk) (hes : ∀ e, e ∈ es.toList → ∃ l, keyOf P kt e.key = some l) (hd : Nat.blt d n = true)
  (h : ∀ u ok, Look es.toList k zv u ok → J P ops Q n rest ((d, .tuple #[u, .bool ok]) :: e) I) : J P ops Q n (⟨some d, .lookup mt x y true, t, p, af, none⟩ :: rest) e I := by
 intro T w ht hw
 obtain ⟨u, ok, h1, h2⟩ := run_lookup hm K hz (hb w hw) hk hes
 refine (J.value (I := fun w' => w' = w) hd (fun T w' ht hw' => ?_) (h u ok h2)) T w ht rfl
 subst hw'
 exact ⟨w', by simp [execOp, ht.eval hx, ht.eval hy, h1], hw⟩
theorem J.lookup1 {mt kt et : TypeId} {b clock : Nat} {es : Array MapEntry} {k zv : Value} {lk : Lit} (hm : P.underlying mt = some (.map kt et)) (K : WideMaps.KeyLaw P kt) (hz : zeroT P et = some zv) (hx : ev e x = some (.map (some b))) (hy : ev e y = some k)
  (hb : ∀ w, I w → w.heap[b]? = some (.map es clock)) (hk : keyOf P kt k = some lk) (hes : ∀ e, e ∈ es.toList → ∃ l, keyOf P kt e.key = some l) (hd : Nat.blt d n = true)
  (h : ∀ u ok, Look es.toList k zv u ok → J P ops Q n rest ((d, u) :: e) I) : J P ops Q n (⟨some d, .lookup mt x y false, t, p, af, none⟩ :: rest) e I := by
 intro T w ht hw
 obtain ⟨u, ok, h1, h2⟩ := run_lookup1 hm K hz (hb w hw) hk hes
 refine (J.value (I := fun w' => w' = w) hd (fun T w' ht hw' => ?_) (h u ok h2)) T w ht rfl
 subst hw'
 exact ⟨w', by simp [execOp, ht.eval hx, ht.eval hy, h1], hw⟩
def isStructT (P : Program) (t : TypeId) : Bool := match P.underlying t with | some (.struct _) => true | _ => false
theorem isStructT.ex {P : Program} {t : TypeId} (h : isStructT P t = true) : ∃ fs, P.underlying t = some (.struct fs) := by
 unfold isStructT at h
 split at h
 ·exact ⟨_, by assumption⟩
 ·cases h
/- interfaces -/
/- function values -/
end

/- results that lie in a variable -/
theorem results_cell {fn : Func} {t : Tmp} {ty : TypeId} {tmps : Array Value} {a : Addr} {v : Value} {P : Program} {w : World} (h : fn.results = #[.cell t ty]) (ht : tmps.getD t undef = .pointer (some a)) (hl : (loadVar ty a).run P w = .ok v w) :
  (results fn tmps).run P w = .ok v w := by
 have ha : (asAddr (.pointer (some a))).run P w = .ok a w := by simp [asAddr]
 rw [Array.getD_eq_getD_getElem?] at ht
 simp only [results, h, Sem.run_bind]
 simp [ht, ha, hl]
theorem results_cell_tmp {fn : Func} {t u : Tmp} {ty : TypeId} {tmps : Array Value} {a : Addr} {v : Value} {P : Program} {w : World} (h : fn.results = #[.cell t ty, .tmp u]) (ht : tmps.getD t undef = .pointer (some a)) (hl : (loadVar ty a).run P w = .ok v w) :
  (results fn tmps).run P w = .ok (.tuple #[v, tmps.getD u undef]) w := by
 have ha : (asAddr (.pointer (some a))).run P w = .ok a w := by simp [asAddr]
 rw [Array.getD_eq_getD_getElem?] at ht
 simp only [results, h, Sem.run_bind]
 simp [ht, ha, hl]
theorem JX.retC {P : Program} {fn : Func} {R : Ending → World → Prop} {n : Nat} {e : Env} {I : World → Prop} {t ty k b o : Nat} {vs : List Value} (hr : fn.results = #[.cell t ty]) (hv : get e t = some (.pointer (some ⟨b, o, none⟩)))
  (ha : aggT P ty = some true) (hs : sizeT P ty = some k) (hl : vs.length = k) (hc : ∀ w, I w → Cells w b o vs) (h : ∀ w, I w → R (.returned (.agg vs.toArray)) w) :
  JX (bodyPost P fn R) n .ret e I := by
 intro T w ht hw
 refine ⟨rfl, .agg vs.toArray, ?_, h w hw⟩
 exact results_cell hr (by rw [Array.getD_eq_getD_getElem?, ht.2 t _ hv]; rfl) (run_loadVar_agg ha hs hl (hc w hw))
theorem JX.retCT {P : Program} {fn : Func} {R : Ending → World → Prop} {n : Nat} {e : Env} {I : World → Prop} {t u ty k b o : Nat} {vs : List Value} {v : Value} (hr : fn.results = #[.cell t ty, .tmp u]) (hv : get e t = some (.pointer (some ⟨b, o, none⟩))) (hv' : get e u = some v)
  (ha : aggT P ty = some true) (hs : sizeT P ty = some k) (hl : vs.length = k) (hc : ∀ w, I w → Cells w b o vs) (h : ∀ w, I w → R (.returned (.tuple #[.agg vs.toArray, v])) w) :
  JX (bodyPost P fn R) n .ret e I := by
 intro T w ht hw
 refine ⟨rfl, .tuple #[.agg vs.toArray, v], ?_, h w hw⟩
 have := results_cell_tmp (u := u) hr (by rw [Array.getD_eq_getD_getElem?, ht.2 t _ hv]; rfl) (run_loadVar_agg ha hs hl (hc w hw))
 rw [this, Array.getD_eq_getD_getElem?, ht.2 u v hv']; rfl
/- values that can be keys -/
theorem lits_int {P : Program} {t d : Nat} {q : IntKind} {n : Int} (hu : P.underlying t = some (.int q)) (hw : (Lit.int q n).wf = true) : P.keyLits (d + 1) t [.int q n] = some [.int q n] := by
 unfold Program.keyLits
 rw [hu]
 simp [hw]
theorem lits_u8 {P : Program} {t d : Nat} {b : UInt8} (hu : P.underlying t = some (.int .u8)) : P.keyLits (d + 1) t [u8 b] = some [.int .u8 (b.toNat : Int)] :=
 lits_int hu (by
  have := b.toNat_lt
  simp [Lit.wf, IntKind.min, IntKind.max, IntKind.signed, IntKind.bits]
  omega)
def fieldsK (P : Program) (t : TypeId) : Option (List (Nat × Nat)) := match P.underlying t with
 | some (.struct fs) => if fs.all (·.name != "_") then some (fs.toList.map fun f => (f.type, f.offset)) else none
 | _ => none
theorem mapM_map {α β γ : Type} (g : β → Option γ) (f : α → β) : ∀ l : List α, l.mapM (fun a => g (f a)) = (l.map f).mapM g
 | [] => rfl
 | a :: l => by simp [List.mapM_cons, mapM_map g f l]
theorem lits_struct {P : Program} {t d : Nat} {fs : List (Nat × Nat)} {cs : List Value} {ls : List (List Lit)} (h : fieldsK P t = some fs) (hl : cs.length = P.cellsOf t)
  (hm : fs.mapM (fun q => P.keyLits d q.1 ((cs.drop q.2).take (P.cellsOf q.1))) = some ls) : P.keyLits (d + 1) t cs = some ls.flatten := by
 unfold fieldsK at h
 split at h
 ·rename_i gs hu
  split at h
  ·rename_i ha
   simp only [Option.some.injEq] at h
   subst h
   unfold Program.keyLits
   rw [hu]
   simp only
   rw [if_pos ⟨hl, ha⟩, mapM_map (fun q : Nat × Nat => P.keyLits d q.1 ((cs.drop q.2).take (P.cellsOf q.1))) (fun f : Field => (f.type, f.offset)), hm]
   rfl
  ·cases h
 ·cases h
theorem lits_arr {P : Program} {t d n e : Nat} {cs : List Value} {ls : List (List Lit)} (hu : P.underlying t = some (.array n e)) (hl : cs.length = P.cellsOf t)
  (hm : (List.range n).mapM (fun i => P.keyLits d e ((cs.drop (i * P.cellsOf e)).take (P.cellsOf e))) = some ls) : P.keyLits (d + 1) t cs = some ls.flatten := by
 unfold Program.keyLits
 rw [hu]
 simp only
 rw [if_pos hl, hm]
 rfl
theorem key_of {P : Program} {t d : Nat} {cs : List Value} {ls : List Lit} (hd : P.types.size + 1 = d) (hk : P.keyType t = true) (hw : (match P.underlying t with | some (.array _ _) | some (.struct _) => true | _ => false) = true) (hl : cs.length = P.cellsOf t)
  (h : P.keyLits d t cs = some ls) : ∃ l, keyOf P t (.agg cs.toArray) = some l := by
 subst hd
 unfold keyOf
 split
 ·rename_i hu
  rw [if_pos (by simp [hk, Value.formed, hu, hl])]
  exact ⟨_, by simp only [Value.cells]; rw [h]; rfl⟩
 ·rename_i hu
  rw [if_pos (by simp [hk, Value.formed, hu, hl])]
  exact ⟨_, by simp only [Value.cells]; rw [h]; rfl⟩
 ·split at hw <;> simp_all

/-- an identity, and its cells -/
abbrev IDV := _root_.Fin 16 → UInt8
abbrev cI (a : IDV) : List Value := [u8 (a 0), u8 (a 1), u8 (a 2), u8 (a 3), u8 (a 4), u8 (a 5), u8 (a 6), u8 (a 7), u8 (a 8), u8 (a 9), u8 (a 10), u8 (a 11), u8 (a 12), u8 (a 13), u8 (a 14), u8 (a 15)]
def lI (a : IDV) : List (List Lit) := [[.int .u8 ((a 0).toNat : Int)], [.int .u8 ((a 1).toNat : Int)], [.int .u8 ((a 2).toNat : Int)], [.int .u8 ((a 3).toNat : Int)], [.int .u8 ((a 4).toNat : Int)], [.int .u8 ((a 5).toNat : Int)], [.int .u8 ((a 6).toNat : Int)], [.int .u8 ((a 7).toNat : Int)], [.int .u8 ((a 8).toNat : Int)], [.int .u8 ((a 9).toNat : Int)], [.int .u8 ((a 10).toNat : Int)], [.int .u8 ((a 11).toNat : Int)], [.int .u8 ((a 12).toNat : Int)], [.int .u8 ((a 13).toNat : Int)], [.int .u8 ((a 14).toNat : Int)], [.int .u8 ((a 15).toNat : Int)]]
theorem lits_id {P : Program} {t e d : Nat} {a : IDV} (hu : P.underlying t = some (.array 16 e)) (he : P.underlying e = some (.int .u8)) (hc : P.cellsOf t = 16) (hc' : P.cellsOf e = 1) : P.keyLits (d + 2) t (cI a) = some (lI a).flatten := by
 refine lits_arr (d := d + 1) hu (by rw [hc]; rfl) ?_
 rw [hc', show List.range 16 = [0, 1, 2, 3, 4, 5, 6, 7, 8, 9, 10, 11, 12, 13, 14, 15] from rfl]
 simp only [List.mapM_cons, List.mapM_nil]
 simp only [Nat.mul_one, List.drop_succ_cons, List.drop_zero, List.take_succ_cons, List.take_zero, lits_u8 he]
 rfl
/-- a path's key, and an entry -/
structure PV where
 who : IDV
 n : Int
abbrev cP (p : PV) : List Value := cI p.who ++ [.int .i64 p.n]
structure EV where
 p : PV
 a : IDV
 b : IDV
 na : Int
 nb : Int
abbrev cE (x : EV) : List Value := cP x.p ++ cI x.a ++ cI x.b ++ [.int .i64 x.na, .int .i64 x.nb]
abbrev okN (n : Int) : Prop := (Lit.int .i64 n).wf = true
abbrev okE (x : EV) : Prop := okN x.p.n ∧ okN x.na ∧ okN x.nb
theorem u8_inj {a b : UInt8} : u8 a = u8 b ↔ a = b := by
 constructor
 ·intro h
  have : (a.toNat : Int) = (b.toNat : Int) := by injection h
  exact UInt8.toNat_inj.1 (by omega)
 ·intro h; rw [h]
instance : DecidableEq IDV := fun a b => decidable_of_iff (∀ i, a i = b i) ⟨funext, fun h i => by rw [h]⟩
deriving instance DecidableEq for PV, EV
theorem cI_eq {a b : IDV} : cI a = cI b ↔ a = b := by
 constructor
 ·intro h
  simp only [cI, List.cons.injEq, u8_inj, and_true] at h
  obtain ⟨h0, h1, h2, h3, h4, h5, h6, h7, h8, h9, h10, h11, h12, h13, h14, h15⟩ := h
  funext i
  match i with
  | 0 => exact h0 | 1 => exact h1 | 2 => exact h2 | 3 => exact h3 | 4 => exact h4 | 5 => exact h5 | 6 => exact h6 | 7 => exact h7
  | 8 => exact h8 | 9 => exact h9 | 10 => exact h10 | 11 => exact h11 | 12 => exact h12 | 13 => exact h13 | 14 => exact h14 | 15 => exact h15
  | ⟨n + 16, h⟩ => omega
 ·intro h; rw [h]
theorem app_iff {a b c d : List Value} (h : a.length = b.length) : a ++ c = b ++ d ↔ a = b ∧ c = d := ⟨fun e => List.append_inj e h, fun ⟨e1, e2⟩ => by rw [e1, e2]⟩
theorem cP_eq {p q : PV} : cP p = cP q ↔ p = q := by
 obtain ⟨a, n⟩ := p
 obtain ⟨b, m⟩ := q
 show cI a ++ [.int .i64 n] = cI b ++ [.int .i64 m] ↔ _
 rw [app_iff (by rfl), cI_eq]
 simp
/-- what a table's map holds -/
structure Tab (L : List EV) (es : Array MapEntry) (clock : Nat) : Prop where
 st : MapKept.Stamped es clock
 is_ : es.toList.map (fun e => (e.key, e.val)) = L.map (fun x => (Value.agg (cP x.p).toArray, Value.agg (cE x).toArray))
 ok : ∀ x, x ∈ L → okE x
 dist : L.Pairwise (fun x y => x.p ≠ y.p)
theorem Tab.mem {L : List EV} {es : Array MapEntry} {clock : Nat} (h : Tab L es clock) {e : MapEntry} (he : e ∈ es.toList) : ∃ x, x ∈ L ∧ e.key = .agg (cP x.p).toArray ∧ e.val = .agg (cE x).toArray := by
 have : (e.key, e.val) ∈ L.map (fun x => (Value.agg (cP x.p).toArray, Value.agg (cE x).toArray)) := by rw [← h.is_]; exact List.mem_map.2 ⟨e, he, rfl⟩
 obtain ⟨x, hx, h2⟩ := List.mem_map.1 this
 simp only [Prod.mk.injEq] at h2
 exact ⟨x, hx, h2.1.symm, h2.2.symm⟩
theorem Tab.mem' {L : List EV} {es : Array MapEntry} {clock : Nat} (h : Tab L es clock) {x : EV} (hx : x ∈ L) : ∃ e, e ∈ es.toList ∧ e.key = .agg (cP x.p).toArray := by
 have : (Value.agg (cP x.p).toArray, Value.agg (cE x).toArray) ∈ es.toList.map (fun e => (e.key, e.val)) := by rw [h.is_]; exact List.mem_map.2 ⟨x, hx, rfl⟩
 obtain ⟨e, he, h2⟩ := List.mem_map.1 this
 simp only [Prod.mk.injEq] at h2
 exact ⟨e, he, h2.1⟩
theorem Tab.size {L : List EV} {es : Array MapEntry} {clock : Nat} (h : Tab L es clock) : es.size = L.length := by
 have := congrArg List.length h.is_
 simpa using this
theorem arr_inj {a b : List Value} : a.toArray = b.toArray ↔ a = b := by
 constructor
 ·intro h; simpa using h
 ·intro h; rw [h]
theorem agg_inj {a b : List Value} : Value.agg a.toArray = Value.agg b.toArray ↔ a = b := by
 simp
/-- the entry of a key -/
def tget (L : List EV) (p : PV) : Option EV := L.find? (fun x => decide (x.p = p))
theorem tget_some {L : List EV} (hd : L.Pairwise (fun x y => x.p ≠ y.p)) {x : EV} (hx : x ∈ L) : tget L x.p = some x := by
 induction L with
 | nil => cases hx
 | cons y L ih =>
  rw [List.pairwise_cons] at hd
  simp only [tget, List.find?_cons]
  cases hx with
  | head => simp
  | tail _ hx =>
   rw [decide_eq_false (hd.1 x hx)]
   exact ih hd.2 hx
theorem tget_none {L : List EV} {p : PV} : tget L p = none ↔ ∀ x, x ∈ L → x.p ≠ p := by
 simp [tget, List.find?_eq_none]
theorem Tab.look {L : List EV} {es : Array MapEntry} {clock : Nat} (h : Tab L es clock) {p : PV} {z v : Value} {ok : Bool} (hl : Look es.toList (.agg (cP p).toArray) z v ok) :
  (tget L p = none ∧ v = z ∧ ok = false) ∨ ∃ x, tget L p = some x ∧ x ∈ L ∧ x.p = p ∧ v = .agg (cE x).toArray ∧ ok = true := by
 generalize hk : Value.agg (cP p).toArray = k at hl
 cases hl with
 | no hno =>
  refine .inl ⟨tget_none.2 (fun x hx hp => ?_), rfl, rfl⟩
  obtain ⟨e, he, h1⟩ := h.mem' hx
  exact hno e he (by rw [h1, hp, hk])
 | yes j e h1 h2 =>
  obtain ⟨x, hx, h3, h4⟩ := h.mem (List.mem_of_getElem? h1)
  have hp : x.p = p := by
   have := h3.symm.trans (h2.trans hk.symm)
   exact cP_eq.1 (agg_inj.1 this)
  refine .inr ⟨x, ?_, hx, hp, h4, rfl⟩
  rw [← hp]
  exact tget_some h.dist hx
theorem Tab.fresh {L : List EV} {es : Array MapEntry} {clock : Nat} (h : Tab L es clock) {p : PV} (hn : tget L p = none) : ∀ e, e ∈ es.toList → e.key ≠ .agg (cP p).toArray := by
 intro e he hk
 obtain ⟨x, hx, h3, _⟩ := h.mem he
 exact tget_none.1 hn x hx (cP_eq.1 (agg_inj.1 (h3.symm.trans hk)))
theorem Tab.keys {P : Program} {kt : TypeId} {L : List EV} {es : Array MapEntry} {clock : Nat} (h : Tab L es clock) (kp : ∀ p : PV, okN p.n → ∃ l, keyOf P kt (.agg (cP p).toArray) = some l) : ∀ e, e ∈ es.toList → ∃ l, keyOf P kt e.key = some l := by
 intro e he
 obtain ⟨x, hx, h3, _⟩ := h.mem he
 rw [h3]
 exact kp _ (h.ok x hx).1
theorem Tab.nil : Tab [] #[] 0 := ⟨⟨by simp, by simp, by simp⟩, rfl, by simp, .nil⟩
theorem Tab.push {L : List EV} {es : Array MapEntry} {clock : Nat} (h : Tab L es clock) {x : EV} (hx : okE x) (hn : tget L x.p = none) : Tab (L ++ [x]) (es.push { key := .agg (cP x.p).toArray, val := .agg (cE x).toArray, born := clock }) (clock + 1) := by
 refine ⟨MapKept.stamped_push h.st (h.fresh hn), by simp [h.is_], fun y hy => ?_, ?_⟩
 ·rcases List.mem_append.1 hy with hy | hy
  ·exact h.ok y hy
  ·simp at hy; subst hy; exact hx
 ·rw [List.pairwise_append]
  refine ⟨h.dist, by simp, fun y hy z hz => ?_⟩
  simp at hz
  subst hz
  exact tget_none.1 hn y hy
section
variable {P : Program} {ops : Array Oper} {Q : Exit → Act → World → Prop} {n : Nat} {e : Env} {I I' : World → Prop} {rest : List Oper}
variable {d t yt : Nat} {p : String} {af : Array Edge} {x y z : Operand} {v v1 v2 : Value} {w0 : World} {S : List Nat} {l l' : List (Nat × Obj)}
theorem dec_of {r : Bool} {q : Prop} [Decidable q] (h : r = true ↔ q) : r = decide q := by
 rw [Bool.eq_iff_iff, h]; simp
theorem J.eqI {ty : TypeId} {a b : IDV} (K : EqL P ty) (k : ∀ a : IDV, ∃ l, keyOf P ty (.agg (cI a).toArray) = some l) (hx : ev e x = some (.agg (cI a).toArray)) (hy : ev e y = some (.agg (cI b).toArray)) (hd : Nat.blt d n = true)
  (h : J P ops Q n rest ((d, .bool (decide (a = b))) :: e) I) : J P ops Q n (⟨some d, .binOp .eql ty x y yt, t, p, af, none⟩ :: rest) e I := by
 obtain ⟨_, k1⟩ := k a
 obtain ⟨_, k2⟩ := k b
 refine J.eqA K hx hy k1 k2 hd fun r hr => ?_
 rw [arr_inj, cI_eq] at hr
 rw [dec_of hr]; exact h
theorem J.neI {ty : TypeId} {a b : IDV} (K : EqL P ty) (k : ∀ a : IDV, ∃ l, keyOf P ty (.agg (cI a).toArray) = some l) (hx : ev e x = some (.agg (cI a).toArray)) (hy : ev e y = some (.agg (cI b).toArray)) (hd : Nat.blt d n = true)
  (h : J P ops Q n rest ((d, .bool (!decide (a = b))) :: e) I) : J P ops Q n (⟨some d, .binOp .neq ty x y yt, t, p, af, none⟩ :: rest) e I := by
 obtain ⟨_, k1⟩ := k a
 obtain ⟨_, k2⟩ := k b
 refine J.neA K hx hy k1 k2 hd fun r hr => ?_
 rw [arr_inj, cI_eq] at hr
 rw [dec_of hr]; exact h
def zI : IDV := fun _ => 0
def zP : PV := ⟨zI, 0⟩
def zE : EV := ⟨zP, zI, zI, 0, 0⟩
end
end Go.J
