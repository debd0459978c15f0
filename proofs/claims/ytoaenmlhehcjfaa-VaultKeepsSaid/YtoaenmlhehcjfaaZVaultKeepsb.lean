/-
  VaultKeeps: texts that its proof needs, part 2.
-/
import Derived.Test.YtoaenmlhehcjfaaZVaultKeepsa
/-
  Are two lists of bytes one: the document's function; and a log is opened.
-/
namespace Go.Proofs.Ytoaenmlhehcjfaa
open Go.J Go.RowKit
set_option linter.unusedVariables false
set_option linter.unusedSimpArgs false
set_option maxRecDepth 4000
def sizeAt (B : List UInt8) (at_ : Nat) : Nat := (B.getD (64 * at_) 0).toNat * 256 + (B.getD (64 * at_ + 1) 0).toNat
/-- the records that lie in the sectors up to top -/
def parseS (B : List UInt8) (top : Nat) : Nat → Nat → Option (List (List UInt8))
  | 0, at_ => if at_ = top then some [] else none
  | n + 1, at_ => if top ≤ at_ then none else if 1024 < sizeAt B at_ ∨ top - at_ < needN (sizeAt B at_) then none
      else (parseS B top n (at_ + needN (sizeAt B at_))).map (((B.drop (64 * at_ + 2)).take (sizeAt B at_)) :: ·)
structure LogP where
  gen : Nat
  used : Nat
  cnt : Nat
  recs : List (List UInt8)
def badHead (n : Nat) (h : Nat × Nat × Nat) : Prop := 9223372036854775808 ≤ h.1 ∨ n - 2 < h.2.1 ∨ h.2.1 < h.2.2
instance (n : Nat) (h : Nat × Nat × Nat) : Decidable (badHead n h) := by unfold badHead; infer_instance
/-- what opening a log answers -/
def openP (B : List UInt8) (n : Nat) : Int × Option LogP :=
  if n < 3 then (1, none) else
  if badHead n (bestP B 2) then (2, none) else
  match parseS B (2 + (bestP B 2).2.1) (bestP B 2).2.2 2 with
  | none => (2, none)
  | some rs => (0, some ⟨(bestP B 2).1, (bestP B 2).2.1, (bestP B 2).2.2, rs⟩)
abbrev lgO (d : Nat) (q : LogP) (down : Bool) : Obj := cb [.pointer (some ⟨d, 0, none⟩), .int .u64 ((q.gen : Nat) : Int), .int .i64 ((q.used : Nat) : Int), .int .i64 ((q.cnt : Nat) : Int), .bool down] 124
theorem best_two (B : List UInt8) (h : Nat × Nat × Nat) (hh : (if (headP (sec B 0)).1 < (headP (sec B 1)).1 then headP (sec B 1) else headP (sec B 0)) = h) : bestP B 2 = if h.1 = 0 then (0, 0, 0) else h := by
  subst hh
  simp only [bestP]
  by_cases h0 : (headP (sec B 0)).1 = 0
  · simp only [h0]
    by_cases h1 : (headP (sec B 1)).1 = 0
    · simp [h1, h0]
    · simp [h1, show 0 < (headP (sec B 1)).1 by omega]
  · simp only [show 0 < (headP (sec B 0)).1 by omega, if_true]
    by_cases h1 : (headP (sec B 0)).1 < (headP (sec B 1)).1
    · simp only [h1, if_true]; rw [if_neg (by omega)]
    · simp only [h1, if_false]; rw [if_neg h0]
theorem shr63 (g : Nat) (hg : g < 18446744073709551616) : (decide (Int.fdiv ((g : Nat) : Int) (2 ^ (min (63 : Int).toNat IntKind.u64.bits)) > 0)) = decide (9223372036854775808 ≤ g) := by
  have e : ((2 : Int) ^ (min (63 : Int).toNat IntKind.u64.bits)) = 9223372036854775808 := by decide
  rw [e, Int.fdiv_eq_ediv_of_nonneg _ (by omega)]
  by_cases h : 9223372036854775808 ≤ g
  · rw [decide_eq_true h, decide_eq_true (by omega)]
  · rw [decide_eq_false h, decide_eq_false (by omega)]
theorem head_cases (n : Nat) (h : Nat × Nat × Nat) : 9223372036854775808 ≤ h.1 ∨ (¬ 9223372036854775808 ≤ h.1 ∧ n - 2 < h.2.1) ∨ (¬ 9223372036854775808 ≤ h.1 ∧ h.2.1 ≤ n - 2 ∧ h.2.1 < h.2.2) ∨ (¬ 9223372036854775808 ≤ h.1 ∧ h.2.1 ≤ n - 2 ∧ h.2.2 ≤ h.2.1) := by omega
theorem openP_small {B : List UInt8} {n : Nat} (h : n < 3) : openP B n = (1, none) := by rw [openP, if_pos h]
theorem openP_bad {B : List UInt8} {n : Nat} (h : ¬ n < 3) (hb : badHead n (bestP B 2)) : openP B n = (2, none) := by rw [openP, if_neg h, if_pos hb]
theorem openP_none {B : List UInt8} {n : Nat} (h : ¬ n < 3) {b : Nat × Nat × Nat} (hh : bestP B 2 = b) (hp : parseS B (2 + b.2.1) b.2.2 2 = none) : openP B n = (2, none) := by
  rw [openP, if_neg h]
  split
  · rfl
  · rw [hh, hp]
theorem openP_some {B : List UInt8} {n : Nat} (h : ¬ n < 3) {b : Nat × Nat × Nat} (hh : bestP B 2 = b) (hb : ¬ badHead n b) {rs : List (List UInt8)} (hp : parseS B (2 + b.2.1) b.2.2 2 = some rs) : openP B n = (0, some ⟨b.1, b.2.1, b.2.2, rs⟩) := by
  rw [openP, if_neg h, hh, if_neg hb, hp]
theorem or_i64 (a x : Nat) (ha : a < 256) (hx : x < 256) :
    Value.int .i64 (IntKind.i64.wrap ((BitVec.ofInt 64 ((a * 256 : Nat) : Int) ||| BitVec.ofInt 64 ((x : Nat) : Int)).toNat : Int)) = .int .i64 ((a * 256 + x : Nat) : Int) := by
  rw [or_byte a x hx (by omega), wrap_i64 (by omega) (by omega)]
theorem sec_getD {B : List UInt8} {at_ j : Nat} (hj : j < 64) (h : 64 * at_ + 64 ≤ B.length) : (sec B at_)[j]'(by rw [sec_len64 h]; exact hj) = B.getD (64 * at_ + j) 0 := by
  have e : (sec B at_)[j]? = B[64 * at_ + j]? := by rw [sec, List.getElem?_take_of_lt hj, List.getElem?_drop]
  rw [List.getD_eq_getElem?_getD, ← e, List.getElem?_eq_getElem (by rw [sec_len64 h]; exact hj)]; rfl
theorem size_cases (sz top at_ : Nat) : 1024 < sz ∨ (sz ≤ 1024 ∧ top - at_ < needN sz) ∨ (sz ≤ 1024 ∧ needN sz ≤ top - at_) := by omega
theorem need_bounds {sz : Nat} : 1 ≤ needN sz ∧ sz + 2 ≤ 64 * needN sz ∧ 64 * needN sz ≤ sz + 65 := by unfold needN; omega
theorem sec_more {B : List UInt8} {at_ i : Nat} : (B.drop (64 * at_)).take (64 * i) ++ sec B (at_ + i) = (B.drop (64 * at_)).take (64 * (i + 1)) := by
  rw [sec, show 64 * (i + 1) = 64 * i + 64 by omega, List.take_add, List.drop_drop, show 64 * at_ + 64 * i = 64 * (at_ + i) by omega]
theorem rec_of {B : List UInt8} {at_ m sz : Nat} (h : sz + 2 ≤ 64 * m) : (((B.drop (64 * at_)).take (64 * m)).drop 2).take sz = (B.drop (64 * at_ + 2)).take sz := by
  rw [List.drop_take, List.take_take, List.drop_drop, show min sz (64 * m - 2) = sz by omega]


structure OpSt where
  k : Nat
  at_ : Nat
  out : List (List UInt8)
  vs : List Value
  v15 : Value
  lv : List (Nat × Obj)
  lps : List (Nat × Obj)

theorem bestP_lt (B : List UInt8) : ∀ k, (bestP B k).1 < 18446744073709551616 := by
  intro k
  induction k with
  | zero => simp [bestP]
  | succ k ih => unfold bestP; split; exact (headP_lt _).1; exact ih

theorem open_spec (d s n : Nat) (B : List UInt8) (p k : Int) (w : World) (hw0 : Own w [(d, dkO s n p k), (s, dkS B)]) (hB : B.length = 64 * n) (hn : n ≤ 4096) :
    Calls Try.prog 44 [.pointer (some ⟨d, 0, none⟩)].toArray w fun r w' => match openP B n with
      | (e, none) => r = .returned (.tuple #[.pointer none, .slice none 0 0, .int .i64 e]) ∧ Bel w w'
      | (_, some q) => ∃ (b : Nat) (v : Value) (vs : List Value) (lv lps : List (Nat × Obj)), r = .returned (.tuple #[.pointer (some ⟨b, 0, none⟩), v, .int .i64 0]) ∧ Vec 26 1 v q.recs.length vs lv ∧ Recs 5 vs q.recs lps ∧ St w [] ((b, lgO d q false) :: (lv ++ lps)) w' := by
  refine calls_of_J (args := [.pointer (some ⟨d, 0, none⟩)]) (e := [(0, .pointer (some ⟨d, 0, none⟩))]) Try.func44 rfl rfl ⟨rfl, trivial⟩ (St.start w) ?_
  refine JC.seq (fun K0 hK0 => ?_)
  refine JC.region ?_
  refine J.assign rfl rfl ?_
  refine J.assign rfl rfl ?_
  refine J.assign rfl rfl ?_
  refine J.nil ?_
  refine JX.thenN (hK0 _ _ ?_)
  refine JC.seq (fun K1 hK1 => ?_)
  refine JC.seq (fun K2 hK2 => ?_)
  refine JC.region ?_
  refine J.move rfl rfl ?_
  refine J.callB (fun w1 w2 hw hb => hw.step hb) Ty.bd60 rfl rfl (fun w1 hw => size_spec d s n p k w1 (hw0.at hw)) ?_
  refine J.bin rfl rfl rfl rfl ?_
  refine J.nil ?_
  refine JX.thenN (hK2 _ _ ?_)
  refine JC.cond rfl (fun h0 => ?_) (fun h0 => ?_)
  · skip
    have hopen := openP_small (B := B) (show n < 3 by simp at h0; omega)
    refine JC.seq (fun K3 hK3 => ?_)
    refine JC.region ?_
    refine J.assign rfl rfl ?_
    refine J.assign rfl rfl ?_
    refine J.assign rfl rfl ?_
    refine J.nil ?_
    refine JX.thenN (hK3 _ _ ?_)
    refine JC.ret ?_
    refine JX.thenR ?_
    refine JX.ret3 rfl rfl rfl rfl (fun w1 hw => ?_)
    rw [hopen]
    first
    | exact ⟨rfl, hw.below⟩
    | exact ⟨b151, v15, vs, lv, lps, rfl, hol ▸ hvo, hro, hw⟩
  · skip
    have hn3 : ¬ n < 3 := by simp at h0; omega
    obtain ⟨h, hh⟩ : ∃ h, (if (headP (sec B 0)).1 < (headP (sec B 1)).1 then headP (sec B 1) else headP (sec B 0)) = h := ⟨_, rfl⟩
    obtain ⟨⟨gen, used, cnt_⟩, hbest⟩ : ∃ x, bestP B 2 = x := ⟨_, rfl⟩
    have hgl : gen < 18446744073709551616 := by
      have h1 := bestP_lt B 2
      rw [hbest] at h1
      exact h1
    refine JC.skip ?_
    refine JX.thenN (hK1 _ _ ?_)
    refine JC.seq (fun K4 hK4 => ?_)
    refine JC.region ?_
    refine J.move rfl rfl ?_
    refine J.perm ([] ++ ([])) (by (refine perm_cnt (fun _ => ?_)); simp only [cntB_append, cntB_cons, cntB_nil, Nat.add_zero, Nat.zero_add]; try ac_rfl) ?_
    refine J.callS (l1 := []) Ty.bd61 rfl rfl (fun w1 hw => (read_spec d s n B p k 0 w1 (hw0.at hw) hB (by omega) (by omega)).mono fun _ w2 ⟨x, h1, h2, h3⟩ => ⟨x, h1, h2, St.free (hw0.at hw) h3⟩) (fun x hva => ?_)
    obtain ⟨va, lpa⟩ := x
    simp only at hva ⊢
    refine J.move rfl rfl ?_
    refine J.extract rfl rfl rfl ?_
    refine J.extract rfl rfl rfl ?_
    refine J.assign rfl rfl ?_
    refine J.assign rfl rfl ?_
    refine J.nil ?_
    refine JX.thenN (hK4 _ _ ?_)
    refine JC.seq (fun K5 hK5 => ?_)
    refine JC.region ?_
    refine J.move rfl rfl ?_
    refine J.perm ([] ++ (lpa ++ [])) (by (refine perm_cnt (fun _ => ?_)); simp only [cntB_append, cntB_cons, cntB_nil, Nat.add_zero, Nat.zero_add]; try ac_rfl) ?_
    refine J.callS (l1 := []) Ty.bd61 rfl rfl (fun w1 hw => (read_spec d s n B p k 1 w1 (hw0.at hw) hB (by omega) (by omega)).mono fun _ w2 ⟨x, h1, h2, h3⟩ => ⟨x, h1, h2, St.free (hw0.at hw) h3⟩) (fun x hvb => ?_)
    obtain ⟨vb, lpb⟩ := x
    simp only at hvb ⊢
    refine J.move rfl rfl ?_
    refine J.extract rfl rfl rfl ?_
    refine J.extract rfl rfl rfl ?_
    refine J.assign rfl rfl ?_
    refine J.assign rfl rfl ?_
    refine J.nil ?_
    refine JX.thenN (hK5 _ _ ?_)
    refine JC.seq (fun K6 hK6 => ?_)
    refine JC.region ?_
    refine J.move rfl rfl ?_
    refine J.callB (fun w1 w2 hw hb => hw.step hb) Ty.bd62 rfl rfl (fun w1 hw => head_spec _ (sec B 0) w1 (hva.row (l := lpb) (hw.perm (by (refine perm_cnt (fun _ => ?_)); simp only [cntB_append, cntB_cons, cntB_nil, Nat.add_zero, Nat.zero_add]; try ac_rfl))) (sec_len64 (by omega))) ?_
    refine J.move rfl rfl ?_
    refine J.extract rfl rfl rfl ?_
    refine J.extract rfl rfl rfl ?_
    refine J.extract rfl rfl rfl ?_
    refine J.assign rfl rfl ?_
    refine J.assign rfl rfl ?_
    refine J.assign rfl rfl ?_
    refine J.nil ?_
    refine JX.thenN (hK6 _ _ ?_)
    refine JC.seqCut (α := Unit) (fun _ => [(0, .pointer (some ⟨d, 0, none⟩)), (9, .int .u64 ((h.1 : Nat) : Int)), (10, .int .u64 ((h.2.1 : Nat) : Int)), (11, .int .u64 ((h.2.2 : Nat) : Int))]) (fun _ w' => St w [] [] w') (fun _ => ?_) (fun K7 hK7 => ?_)
    · skip
      refine JC.seqCut (α := Unit) (fun _ => [(0, .pointer (some ⟨d, 0, none⟩)), (9, .int .u64 ((gen : Nat) : Int)), (10, .int .u64 ((used : Nat) : Int)), (11, .int .u64 ((cnt_ : Nat) : Int))]) (fun _ w' => St w [] [] w') (fun _ => ?_) (fun K8 hK8 => ?_)
      · skip
        refine JC.seq (fun K9 hK9 => ?_)
        refine JC.seq (fun K10 hK10 => ?_)
        refine JC.region ?_
        rcases head_cases n (gen, used, cnt_) with hc | ⟨hc0, hc⟩ | ⟨hc0, hc1, hc⟩ | ⟨hc0, hc1, hc2⟩
        · skip
          try simp only at hc
          try simp only at hc0
          try simp only at hc1
          try simp only at hc2
          have hopen := openP_bad (B := B) hn3 (by rw [hbest]; exact .inl hc)
          refine J.move rfl rfl ?_
          refine J.bin rfl rfl rfl rfl ?_
          refine J.bin rfl rfl rfl rfl ?_
          refine J.name 58 rfl (congrArg Value.bool ((shr63 gen hgl).trans (decide_eq_true hc))) ?_
          refine J.move rfl rfl ?_
          first | refine J.skip rfl rfl rfl rfl rfl ?_ | refine J.skipU rfl rfl rfl rfl ?_ | (refine J.unguard rfl rfl rfl ?_; refine J.move rfl rfl ?_)
          first | refine J.skip rfl rfl rfl rfl rfl ?_ | refine J.skipU rfl rfl rfl rfl ?_ | (refine J.unguard rfl rfl rfl ?_; refine J.move rfl rfl ?_)
          first | refine J.skip rfl rfl rfl rfl rfl ?_ | refine J.skipU rfl rfl rfl rfl ?_ | (refine J.unguard rfl rfl rfl ?_; refine J.callB (fun w1 w2 hw hb => hw.step hb) Ty.bd60 rfl rfl (fun w1 hw => size_spec d s n p k w1 (hw0.at hw)) ?_)
          first | refine J.skip rfl rfl rfl rfl rfl ?_ | refine J.skipU rfl rfl rfl rfl ?_ | (refine J.unguard rfl rfl rfl ?_; (first | refine J.subN rfl rfl (by omega) (by omega) rfl ?_ | refine J.bin rfl rfl rfl rfl ?_))
          first | refine J.skip rfl rfl rfl rfl rfl ?_ | refine J.skipU rfl rfl rfl rfl ?_ | (refine J.unguard rfl rfl rfl ?_; refine J.convInt Ty.u3 Ty.u81 rfl rfl ?_)
          first | refine J.skip rfl rfl rfl rfl rfl ?_ | refine J.skipU rfl rfl rfl rfl ?_ | (refine J.unguard rfl rfl rfl ?_; refine J.bin rfl rfl rfl rfl ?_)
          (first | refine J.pickT rfl rfl rfl ?_ | refine J.pickF rfl rfl rfl ?_)
          refine J.move rfl rfl ?_
          first | refine J.skip rfl rfl rfl rfl rfl ?_ | refine J.skipU rfl rfl rfl rfl ?_ | (refine J.unguard rfl rfl rfl ?_; refine J.move rfl rfl ?_)
          first | refine J.skip rfl rfl rfl rfl rfl ?_ | refine J.skipU rfl rfl rfl rfl ?_ | (refine J.unguard rfl rfl rfl ?_; refine J.move rfl rfl ?_)
          first | refine J.skip rfl rfl rfl rfl rfl ?_ | refine J.skipU rfl rfl rfl rfl ?_ | (refine J.unguard rfl rfl rfl ?_; refine J.bin rfl rfl rfl rfl ?_)
          (first | refine J.pickT rfl rfl rfl ?_ | refine J.pickF rfl rfl rfl ?_)
          refine J.nil ?_
          refine JX.thenN (hK10 _ _ ?_)
          first | refine JC.condT rfl ?_ | refine JC.cond rfl (fun _ => ?_) (fun h => by first | (exfalso; simp at h; omega) | (simp at h))
          refine JC.seq (fun K11 hK11 => ?_)
          refine JC.region ?_
          refine J.assign rfl rfl ?_
          refine J.assign rfl rfl ?_
          refine J.assign rfl rfl ?_
          refine J.nil ?_
          refine JX.thenN (hK11 _ _ ?_)
          refine JC.ret ?_
          refine JX.thenR ?_
          refine JX.ret3 rfl rfl rfl rfl (fun w1 hw => ?_)
          rw [hopen]
          first
          | exact ⟨rfl, hw.below⟩
          | exact ⟨b151, v15, vs, lv, lps, rfl, hol ▸ hvo, hro, hw⟩
        · skip
          try simp only at hc
          try simp only at hc0
          try simp only at hc1
          try simp only at hc2
          have hopen := openP_bad (B := B) hn3 (by rw [hbest]; exact .inr (.inl hc))
          refine J.move rfl rfl ?_
          refine J.bin rfl rfl rfl rfl ?_
          refine J.bin rfl rfl rfl rfl ?_
          refine J.name 58 rfl (congrArg Value.bool ((shr63 gen hgl).trans (decide_eq_false hc0))) ?_
          refine J.move rfl rfl ?_
          first | refine J.skip rfl rfl rfl rfl rfl ?_ | refine J.skipU rfl rfl rfl rfl ?_ | (refine J.unguard rfl rfl rfl ?_; refine J.move rfl rfl ?_)
          first | refine J.skip rfl rfl rfl rfl rfl ?_ | refine J.skipU rfl rfl rfl rfl ?_ | (refine J.unguard rfl rfl rfl ?_; refine J.move rfl rfl ?_)
          first | refine J.skip rfl rfl rfl rfl rfl ?_ | refine J.skipU rfl rfl rfl rfl ?_ | (refine J.unguard rfl rfl rfl ?_; refine J.callB (fun w1 w2 hw hb => hw.step hb) Ty.bd60 rfl rfl (fun w1 hw => size_spec d s n p k w1 (hw0.at hw)) ?_)
          first | refine J.skip rfl rfl rfl rfl rfl ?_ | refine J.skipU rfl rfl rfl rfl ?_ | (refine J.unguard rfl rfl rfl ?_; (first | refine J.subN rfl rfl (by omega) (by omega) rfl ?_ | refine J.bin rfl rfl rfl rfl ?_))
          refine J.unguard rfl rfl rfl ?_
          refine J.convInt Ty.u3 Ty.u81 rfl rfl ?_
          refine J.name 64 rfl (congrArg (Value.int .u64) (show _ = ((n - 2 : Nat) : Int) by rw [wrap_u64 (by omega) (by omega)]; omega)) ?_
          refine J.unguard rfl rfl rfl ?_
          refine J.bin rfl rfl rfl rfl ?_
          refine J.name 65 rfl (show Value.bool _ = .bool true by simp <;> omega) ?_
          (first | refine J.pickT rfl rfl rfl ?_ | refine J.pickF rfl rfl rfl ?_)
          refine J.move rfl rfl ?_
          first | refine J.skip rfl rfl rfl rfl rfl ?_ | refine J.skipU rfl rfl rfl rfl ?_ | (refine J.unguard rfl rfl rfl ?_; refine J.move rfl rfl ?_)
          first | refine J.skip rfl rfl rfl rfl rfl ?_ | refine J.skipU rfl rfl rfl rfl ?_ | (refine J.unguard rfl rfl rfl ?_; refine J.move rfl rfl ?_)
          first | refine J.skip rfl rfl rfl rfl rfl ?_ | refine J.skipU rfl rfl rfl rfl ?_ | (refine J.unguard rfl rfl rfl ?_; refine J.bin rfl rfl rfl rfl ?_)
          (first | refine J.pickT rfl rfl rfl ?_ | refine J.pickF rfl rfl rfl ?_)
          refine J.nil ?_
          refine JX.thenN (hK10 _ _ ?_)
          first | refine JC.condT rfl ?_ | refine JC.cond rfl (fun _ => ?_) (fun h => by first | (exfalso; simp at h; omega) | (simp at h))
          refine JC.seq (fun K12 hK12 => ?_)
          refine JC.region ?_
          refine J.assign rfl rfl ?_
          refine J.assign rfl rfl ?_
          refine J.assign rfl rfl ?_
          refine J.nil ?_
          refine JX.thenN (hK12 _ _ ?_)
          refine JC.ret ?_
          refine JX.thenR ?_
          refine JX.ret3 rfl rfl rfl rfl (fun w1 hw => ?_)
          rw [hopen]
          first
          | exact ⟨rfl, hw.below⟩
          | exact ⟨b151, v15, vs, lv, lps, rfl, hol ▸ hvo, hro, hw⟩
        · skip
          try simp only at hc
          try simp only at hc0
          try simp only at hc1
          try simp only at hc2
          have hopen := openP_bad (B := B) hn3 (by rw [hbest]; exact .inr (.inr hc))
          refine J.move rfl rfl ?_
          refine J.bin rfl rfl rfl rfl ?_
          refine J.bin rfl rfl rfl rfl ?_
          refine J.name 58 rfl (congrArg Value.bool ((shr63 gen hgl).trans (decide_eq_false hc0))) ?_
          refine J.move rfl rfl ?_
          first | refine J.skip rfl rfl rfl rfl rfl ?_ | refine J.skipU rfl rfl rfl rfl ?_ | (refine J.unguard rfl rfl rfl ?_; refine J.move rfl rfl ?_)
          first | refine J.skip rfl rfl rfl rfl rfl ?_ | refine J.skipU rfl rfl rfl rfl ?_ | (refine J.unguard rfl rfl rfl ?_; refine J.move rfl rfl ?_)
          first | refine J.skip rfl rfl rfl rfl rfl ?_ | refine J.skipU rfl rfl rfl rfl ?_ | (refine J.unguard rfl rfl rfl ?_; refine J.callB (fun w1 w2 hw hb => hw.step hb) Ty.bd60 rfl rfl (fun w1 hw => size_spec d s n p k w1 (hw0.at hw)) ?_)
          first | refine J.skip rfl rfl rfl rfl rfl ?_ | refine J.skipU rfl rfl rfl rfl ?_ | (refine J.unguard rfl rfl rfl ?_; (first | refine J.subN rfl rfl (by omega) (by omega) rfl ?_ | refine J.bin rfl rfl rfl rfl ?_))
          refine J.unguard rfl rfl rfl ?_
          refine J.convInt Ty.u3 Ty.u81 rfl rfl ?_
          refine J.name 64 rfl (congrArg (Value.int .u64) (show _ = ((n - 2 : Nat) : Int) by rw [wrap_u64 (by omega) (by omega)]; omega)) ?_
          refine J.unguard rfl rfl rfl ?_
          refine J.bin rfl rfl rfl rfl ?_
          refine J.name 65 rfl (show Value.bool _ = .bool false by simp <;> omega) ?_
          (first | refine J.pickT rfl rfl rfl ?_ | refine J.pickF rfl rfl rfl ?_)
          refine J.move rfl rfl ?_
          first | refine J.skip rfl rfl rfl rfl rfl ?_ | refine J.skipU rfl rfl rfl rfl ?_ | (refine J.unguard rfl rfl rfl ?_; refine J.move rfl rfl ?_)
          first | refine J.skip rfl rfl rfl rfl rfl ?_ | refine J.skipU rfl rfl rfl rfl ?_ | (refine J.unguard rfl rfl rfl ?_; refine J.move rfl rfl ?_)
          refine J.unguard rfl rfl rfl ?_
          refine J.bin rfl rfl rfl rfl ?_
          refine J.name 70 rfl (show Value.bool _ = .bool true by simp <;> omega) ?_
          (first | refine J.pickT rfl rfl rfl ?_ | refine J.pickF rfl rfl rfl ?_)
          refine J.nil ?_
          refine JX.thenN (hK10 _ _ ?_)
          first | refine JC.condT rfl ?_ | refine JC.cond rfl (fun _ => ?_) (fun h => by first | (exfalso; simp at h; omega) | (simp at h))
          refine JC.seq (fun K13 hK13 => ?_)
          refine JC.region ?_
          refine J.assign rfl rfl ?_
          refine J.assign rfl rfl ?_
          refine J.assign rfl rfl ?_
          refine J.nil ?_
          refine JX.thenN (hK13 _ _ ?_)
          refine JC.ret ?_
          refine JX.thenR ?_
          refine JX.ret3 rfl rfl rfl rfl (fun w1 hw => ?_)
          rw [hopen]
          first
          | exact ⟨rfl, hw.below⟩
          | exact ⟨b151, v15, vs, lv, lps, rfl, hol ▸ hvo, hro, hw⟩
        · skip
          try simp only at hc
          try simp only at hc0
          try simp only at hc1
          try simp only at hc2
          have hgood : ¬ badHead n (gen, used, cnt_) := by unfold badHead; simp only; omega
          have hul : used ≤ 4096 := by omega
          refine J.move rfl rfl ?_
          refine J.bin rfl rfl rfl rfl ?_
          refine J.bin rfl rfl rfl rfl ?_
          refine J.name 58 rfl (congrArg Value.bool ((shr63 gen hgl).trans (decide_eq_false hc0))) ?_
          refine J.move rfl rfl ?_
          first | refine J.skip rfl rfl rfl rfl rfl ?_ | refine J.skipU rfl rfl rfl rfl ?_ | (refine J.unguard rfl rfl rfl ?_; refine J.move rfl rfl ?_)
          first | refine J.skip rfl rfl rfl rfl rfl ?_ | refine J.skipU rfl rfl rfl rfl ?_ | (refine J.unguard rfl rfl rfl ?_; refine J.move rfl rfl ?_)
          first | refine J.skip rfl rfl rfl rfl rfl ?_ | refine J.skipU rfl rfl rfl rfl ?_ | (refine J.unguard rfl rfl rfl ?_; refine J.callB (fun w1 w2 hw hb => hw.step hb) Ty.bd60 rfl rfl (fun w1 hw => size_spec d s n p k w1 (hw0.at hw)) ?_)
          first | refine J.skip rfl rfl rfl rfl rfl ?_ | refine J.skipU rfl rfl rfl rfl ?_ | (refine J.unguard rfl rfl rfl ?_; (first | refine J.subN rfl rfl (by omega) (by omega) rfl ?_ | refine J.bin rfl rfl rfl rfl ?_))
          refine J.unguard rfl rfl rfl ?_
          refine J.convInt Ty.u3 Ty.u81 rfl rfl ?_
          refine J.name 64 rfl (congrArg (Value.int .u64) (show _ = ((n - 2 : Nat) : Int) by rw [wrap_u64 (by omega) (by omega)]; omega)) ?_
          refine J.unguard rfl rfl rfl ?_
          refine J.bin rfl rfl rfl rfl ?_
          refine J.name 65 rfl (show Value.bool _ = .bool false by simp <;> omega) ?_
          (first | refine J.pickT rfl rfl rfl ?_ | refine J.pickF rfl rfl rfl ?_)
          refine J.move rfl rfl ?_
          first | refine J.skip rfl rfl rfl rfl rfl ?_ | refine J.skipU rfl rfl rfl rfl ?_ | (refine J.unguard rfl rfl rfl ?_; refine J.move rfl rfl ?_)
          first | refine J.skip rfl rfl rfl rfl rfl ?_ | refine J.skipU rfl rfl rfl rfl ?_ | (refine J.unguard rfl rfl rfl ?_; refine J.move rfl rfl ?_)
          refine J.unguard rfl rfl rfl ?_
          refine J.bin rfl rfl rfl rfl ?_
          refine J.name 70 rfl (show Value.bool _ = .bool false by simp <;> omega) ?_
          (first | refine J.pickT rfl rfl rfl ?_ | refine J.pickF rfl rfl rfl ?_)
          refine J.nil ?_
          refine JX.thenN (hK10 _ _ ?_)
          first | refine JC.condF rfl ?_ | refine JC.cond rfl (fun h => by first | (exfalso; simp at h; omega) | (simp at h)) (fun _ => ?_)
          refine JC.skip ?_
          refine JX.thenN (hK9 _ _ ?_)
          refine JC.seq (fun K14 hK14 => ?_)
          refine JC.region ?_
          refine J.assign rfl rfl ?_
          refine J.nil ?_
          refine JX.thenN (hK14 _ _ ?_)
          refine JC.seq (fun K15 hK15 => ?_)
          refine JC.region ?_
          refine J.assign rfl rfl ?_
          refine J.nil ?_
          refine JX.thenN (hK15 _ _ ?_)
          refine JC.seq (fun K16 hK16 => ?_)
          refine JC.seq (fun K17 hK17 => ?_)
          refine JC.region ?_
          refine J.move rfl rfl ?_
          refine J.move rfl rfl ?_
          refine J.nil ?_
          refine JX.thenN (hK17 _ _ ?_)
          refine JC.block ?_
          refine JC.conseq (JC.cov (f := (fun st => [(0, .pointer (some ⟨d, 0, none⟩)), (9, .int .u64 ((gen : Nat) : Int)), (10, .int .u64 ((used : Nat) : Int)), (11, .int .u64 ((cnt_ : Nat) : Int)), (15, st.v15), (16, .int .i64 ((st.at_ : Nat) : Int)), (72, .int .u64 ((cnt_ : Nat) : Int)), (73, .int .u64 ((st.k : Nat) : Int))]) (⟨0, 2, [], [], .slice none 0 0, [], []⟩ : OpSt)) ⟨rfl, rfl, rfl, rfl, rfl, rfl, rfl, rfl, trivial⟩ (JC.loop (α := OpSt) (fun st => [(0, .pointer (some ⟨d, 0, none⟩)), (9, .int .u64 ((gen : Nat) : Int)), (10, .int .u64 ((used : Nat) : Int)), (11, .int .u64 ((cnt_ : Nat) : Int)), (15, st.v15), (16, .int .i64 ((st.at_ : Nat) : Int)), (72, .int .u64 ((cnt_ : Nat) : Int)), (73, .int .u64 ((st.k : Nat) : Int))]) (fun st w' => (st.k ≤ cnt_ ∧ 2 ≤ st.at_ ∧ st.at_ ≤ 2 + used ∧ st.out.length = st.k ∧ Vec 26 1 st.v15 st.k st.vs st.lv ∧ Recs 5 st.vs st.out st.lps ∧ parseS B (2 + used) cnt_ 2 = (parseS B (2 + used) (cnt_ - st.k) st.at_).map (st.out ++ ·)) ∧ St w [] (st.lv ++ st.lps) w') (fun st => cnt_ - st.k) (⟨0, 2, [], [], .slice none 0 0, [], []⟩ : OpSt) (fun st => ?_))) (fun w hw => ⟨⟨Nat.zero_le _, Nat.le_refl _, by show 2 ≤ 2 + used; omega, rfl, Vec.nil _ _, .nil, by simp⟩, hw⟩)
          obtain ⟨k1, at_, out, vs, v15, lv, lps⟩ := st
          refine JC.pr (fun hx => ?_)
          obtain ⟨hk, hat, hat2, hol, hvo, hro, hpar⟩ := hx
          simp only at hk hat hat2 hol hvo hro hpar ⊢
          refine JC.seq (fun K18 hK18 => ?_)
          refine JC.region ?_
          refine J.bin rfl rfl rfl rfl ?_
          refine J.nil ?_
          refine JX.thenN (hK18 _ _ ?_)
          refine JC.seq (fun K19 hK19 => ?_)
          refine JC.cond rfl (fun h4 => ?_) (fun h4 => ?_)
          · skip
            have hlt : k1 < cnt_ := by simp at h4; omega
            have hsuc : cnt_ - k1 = (cnt_ - (k1 + 1)) + 1 := by omega
            refine JC.skip ?_
            refine JX.thenN (hK19 _ _ ?_)
            refine JC.seq (fun K20 hK20 => ?_)
            refine JC.block ?_
            refine JC.seq (fun K21 hK21 => ?_)
            refine JC.seq (fun K22 hK22 => ?_)
            refine JC.region ?_
            refine J.move rfl rfl ?_
            refine J.move rfl rfl ?_
            refine J.convInt Ty.u81 Ty.u3 rfl rfl ?_
            refine J.name 77 rfl (congrArg (Value.int .i64) (show _ = ((used : Nat) : Int) from wrap_i64 (by omega) (by omega))) ?_
            (first | refine J.addN rfl rfl (by omega) (by omega) rfl ?_ | refine J.bin rfl rfl rfl rfl ?_)
            refine J.bin rfl rfl rfl rfl ?_
            refine J.nil ?_
            refine JX.thenN (hK22 _ _ ?_)
            refine JC.cond rfl (fun h5 => ?_) (fun h5 => ?_)
            · skip
              have hopen := openP_none (B := B) hn3 hbest (by rw [hpar, hsuc, parseS, if_pos (by simp at h5; omega)]; rfl)
              refine JC.seq (fun K23 hK23 => ?_)
              refine JC.region ?_
              refine J.assign rfl rfl ?_
              refine J.assign rfl rfl ?_
              refine J.assign rfl rfl ?_
              refine J.nil ?_
              refine JX.thenN (hK23 _ _ ?_)
              refine JC.ret ?_
              refine JX.thenR ?_
              refine JX.blockR ?_
              refine JX.thenR ?_
              refine JX.thenR ?_
              refine JX.blockR ?_
              refine JX.thenR ?_
              refine JX.ret3 rfl rfl rfl rfl (fun w1 hw => ?_)
              rw [hopen]
              first
              | exact ⟨rfl, hw.below⟩
              | exact ⟨b151, v15, vs, lv, lps, rfl, hol ▸ hvo, hro, hw⟩
            · skip
              have hlt5 : at_ < 2 + used := by simp at h5; omega
              refine JC.skip ?_
              refine JX.thenN (hK21 _ _ ?_)
              refine JC.seq (fun K24 hK24 => ?_)
              refine JC.region ?_
              refine J.move rfl rfl ?_
              refine J.move rfl rfl ?_
              refine J.perm ([] ++ (lv ++ lps)) (by (refine perm_cnt (fun _ => ?_)); simp only [cntB_append, cntB_cons, cntB_nil, Nat.add_zero, Nat.zero_add]; try ac_rfl) ?_
              refine J.callS (l1 := []) Ty.bd61 rfl rfl (fun w1 hw => (read_spec d s n B p k ((at_ : Nat) : Int) w1 (hw0.at hw) hB (by omega) (by omega)).mono fun _ w2 ⟨x, h1, h2, h3⟩ => ⟨x, h1, h2, St.free (hw0.at hw) h3⟩) (fun x hv84 => ?_)
              obtain ⟨v84, lp84⟩ := x
              simp only at hv84 ⊢
              obtain ⟨a84, c84, rfl, hc84⟩ := hv84.form
              have hsl := sec_len64 (B := B) (k := at_) (by omega)
              obtain ⟨q84, sp84, hq84, rfl, _, _⟩ := hv84.at (j := 0) (by omega)
              subst hq84
              rw [show ((at_ : Nat) : Int).toNat = at_ from rfl] at hv84
              have hv84' : Vec 5 1 (.slice (some ⟨q84, 0, none⟩) 64 c84) (64 * 1) (((B.drop (64 * at_)).take (64 * 1)).map u8) [(q84, cb ((sec B at_).map u8 ++ sp84) 5)] := hv84
              refine J.perm ((q84, cb ((sec B at_).map u8 ++ sp84) 5) :: (lv ++ lps)) (by (refine perm_cnt (fun _ => ?_)); simp only [cntB_append, cntB_cons, cntB_nil, Nat.add_zero, Nat.zero_add]; try ac_rfl) ?_
              refine J.move rfl rfl ?_
              refine J.extract rfl rfl rfl ?_
              refine J.extract rfl rfl rfl ?_
              refine J.assign rfl rfl ?_
              refine J.assign rfl rfl ?_
              refine J.nil ?_
              refine JX.thenN (hK24 _ _ ?_)
              refine JC.seq (fun K25 hK25 => ?_)
              apply JC.drawL 10 [Eqv (_), Eqv (_), Eqv (_), Eqv (_), Eqv (_), Eqv (_), Eqv (_), Eqv (_), Eqv (_), Eqv (_)] Ty.mixed rfl rfl rfl (by kernel_rfl) rfl rfl (fun w w' hw hb => hw.step hb) ⟨fun _ _ _ h _ => h, fun _ _ _ h _ => h, fun _ _ _ h _ => h, fun _ _ _ h _ => h, fun _ _ _ h _ => h, fun _ _ _ h _ => h, fun _ _ _ h _ => h, fun _ _ _ h _ => h, fun _ _ _ h _ => h, fun _ _ _ h _ => h, trivial⟩ ?hstep ?htail
              case hstep =>
                refine ⟨fun wi => ?_, fun wi => ?_, fun wi => ?_, fun wi => ?_, fun wi => ?_, fun wi => ?_, fun wi => ?_, fun wi => ?_, fun wi => ?_, fun wi => ?_, trivial⟩
                · skip
                  refine Fin.nil ?_
                  refine J.move rfl rfl ?_
                  exact J.finP rfl
                · skip
                  refine Fin.consE rfl (Fin.nil ?_)
                  refine J.indexAddrS Ty.el26 Ty.s5 rfl rfl (by omega) (by omega) rfl ?_
                  exact J.finP rfl
                · skip
                  refine Fin.consE rfl (Fin.nil ?_)
                  refine J.load1 (v := u8 ((sec B at_)[0]'(by omega))) Ty.a5 rfl (fun w1 hw => (cell_of (hw.2.own _ (.head _))).trans (at_u8 (j := 0) (by omega))) rfl ?_
                  exact J.finP rfl
                · skip
                  refine Fin.consE rfl (Fin.nil ?_)
                  refine J.convInt Ty.u5 Ty.u3 rfl rfl ?_
                  refine J.name 89 rfl (congrArg (Value.int .i64) (show _ = (((B.getD (64 * at_) 0).toNat : Nat) : Int) by rw [sec_getD (by omega) (by omega), Nat.add_zero]; exact wrap_i64 (by omega) (by have := UInt8.toNat_lt (B.getD (64 * at_) 0); omega))) ?_
                  exact J.finP rfl
                · skip
                  refine Fin.consE rfl (Fin.nil ?_)
                  refine J.bin rfl rfl rfl rfl ?_
                  refine J.name 90 rfl (congrArg (Value.int .i64) (show _ = (((B.getD (64 * at_) 0).toNat * 256 : Nat) : Int) by have := UInt8.toNat_lt (B.getD (64 * at_) 0); rw [show (2 : Int) ^ (min (8 : Int).toNat IntKind.i64.bits) = 256 from rfl, wrap_i64 (by omega) (by omega)]; omega)) ?_
                  exact J.finP rfl
                · skip
                  refine Fin.nil ?_
                  refine J.move rfl rfl ?_
                  exact J.finP rfl
                · skip
                  refine Fin.consE rfl (Fin.nil ?_)
                  refine J.indexAddrS Ty.el26 Ty.s5 rfl rfl (by omega) (by omega) rfl ?_
                  exact J.finP rfl
                · skip
                  refine Fin.consE rfl (Fin.nil ?_)
                  refine J.load1 (v := u8 ((sec B at_)[1]'(by omega))) Ty.a5 rfl (fun w1 hw => (cell_of (hw.2.own _ (.head _))).trans (at_u8 (j := 1) (by omega))) rfl ?_
                  exact J.finP rfl
                · skip
                  refine Fin.consE rfl (Fin.nil ?_)
                  refine J.convInt Ty.u5 Ty.u3 rfl rfl ?_
                  refine J.name 94 rfl (congrArg (Value.int .i64) (show _ = (((B.getD (64 * at_ + 1) 0).toNat : Nat) : Int) by rw [sec_getD (by omega) (by omega)]; exact wrap_i64 (by omega) (by have := UInt8.toNat_lt (B.getD (64 * at_ + 1) 0); omega))) ?_
                  exact J.finP rfl
                · skip
                  refine Fin.consE rfl (Fin.consE rfl (Fin.nil ?_))
                  refine J.bin rfl rfl rfl rfl ?_
                  refine J.name 95 rfl (show _ = Value.int .i64 ((sizeAt B at_ : Nat) : Int) from or_i64 _ _ (UInt8.toNat_lt _) (UInt8.toNat_lt _)) ?_
                  exact J.finP rfl
              case htail =>
                refine Fin.consE rfl (Fin.consE rfl (Fin.consE rfl (Fin.consE rfl (Fin.consE rfl (Fin.consE rfl (Fin.consE rfl (Fin.consE rfl (Fin.consE rfl (Fin.consE rfl (Fin.nil ?_))))))))))
                refine J.assign rfl rfl ?_
                refine J.nil ?_
                refine JX.thenN (hK25 _ _ ?_)
                refine JC.seq (fun K26 hK26 => ?_)
                refine JC.seq (fun K27 hK27 => ?_)
                refine JC.region ?_
                rcases size_cases (sizeAt B at_) (2 + used) at_ with hc | ⟨hz1, hc⟩ | ⟨hz1, hz2⟩
                · skip
                  have hopen := openP_none (B := B) hn3 hbest (by rw [hpar, hsuc, parseS, if_neg (by omega), if_pos (.inl hc)]; rfl)
                  refine J.move rfl rfl ?_
                  refine J.bin rfl rfl rfl rfl ?_
                  refine J.name 97 rfl (show Value.bool _ = .bool true by simp <;> omega) ?_
                  refine J.move rfl rfl ?_
                  first | refine J.skip rfl rfl rfl rfl rfl ?_ | refine J.skipU rfl rfl rfl rfl ?_ | (refine J.unguard rfl rfl rfl ?_; refine J.move rfl rfl ?_)
                  first | refine J.skip rfl rfl rfl rfl rfl ?_ | refine J.skipU rfl rfl rfl rfl ?_ | (refine J.unguard rfl rfl rfl ?_; refine J.callB (fun w1 w2 hw hb => hw.step hb) Ty.bd63 rfl rfl (fun w1 hw => need_spec (sizeAt B at_) w1 (by omega)) ?_)
                  first | refine J.skip rfl rfl rfl rfl rfl ?_ | refine J.skipU rfl rfl rfl rfl ?_ | (refine J.unguard rfl rfl rfl ?_; refine J.move rfl rfl ?_)
                  first | refine J.skip rfl rfl rfl rfl rfl ?_ | refine J.skipU rfl rfl rfl rfl ?_ | (refine J.unguard rfl rfl rfl ?_; refine J.convInt Ty.u81 Ty.u3 rfl rfl ?_)
                  first | refine J.skip rfl rfl rfl rfl rfl ?_ | refine J.skipU rfl rfl rfl rfl ?_ | (refine J.unguard rfl rfl rfl ?_; (first | refine J.addN rfl rfl (by omega) (by omega) rfl ?_ | refine J.bin rfl rfl rfl rfl ?_))
                  first | refine J.skip rfl rfl rfl rfl rfl ?_ | refine J.skipU rfl rfl rfl rfl ?_ | (refine J.unguard rfl rfl rfl ?_; refine J.move rfl rfl ?_)
                  first | refine J.skip rfl rfl rfl rfl rfl ?_ | refine J.skipU rfl rfl rfl rfl ?_ | (refine J.unguard rfl rfl rfl ?_; (first | refine J.subN rfl rfl (by omega) (by omega) rfl ?_ | refine J.bin rfl rfl rfl rfl ?_))
                  first | refine J.skip rfl rfl rfl rfl rfl ?_ | refine J.skipU rfl rfl rfl rfl ?_ | (refine J.unguard rfl rfl rfl ?_; refine J.bin rfl rfl rfl rfl ?_)
                  (first | refine J.pickT rfl rfl rfl ?_ | refine J.pickF rfl rfl rfl ?_)
                  refine J.nil ?_
                  refine JX.thenN (hK27 _ _ ?_)
                  first | refine JC.condT rfl ?_ | refine JC.cond rfl (fun _ => ?_) (fun h => by first | (exfalso; simp at h; omega) | (simp at h))
                  refine JC.seq (fun K28 hK28 => ?_)
                  refine JC.region ?_
                  refine J.assign rfl rfl ?_
                  refine J.assign rfl rfl ?_
                  refine J.assign rfl rfl ?_
                  refine J.nil ?_
                  refine JX.thenN (hK28 _ _ ?_)
                  refine JC.ret ?_
                  refine JX.thenR ?_
                  refine JX.blockR ?_
                  refine JX.thenR ?_
                  refine JX.thenR ?_
                  refine JX.blockR ?_
                  refine JX.thenR ?_
                  refine JX.ret3 rfl rfl rfl rfl (fun w1 hw => ?_)
                  rw [hopen]
                  first
                  | exact ⟨rfl, hw.below⟩
                  | exact ⟨b151, v15, vs, lv, lps, rfl, hol ▸ hvo, hro, hw⟩
                · skip
                  have hopen := openP_none (B := B) hn3 hbest (by rw [hpar, hsuc, parseS, if_neg (by omega), if_pos (.inr hc)]; rfl)
                  refine J.move rfl rfl ?_
                  refine J.bin rfl rfl rfl rfl ?_
                  refine J.name 97 rfl (show Value.bool _ = .bool false by simp <;> omega) ?_
                  refine J.move rfl rfl ?_
                  first | refine J.skip rfl rfl rfl rfl rfl ?_ | refine J.skipU rfl rfl rfl rfl ?_ | (refine J.unguard rfl rfl rfl ?_; refine J.move rfl rfl ?_)
                  first | refine J.skip rfl rfl rfl rfl rfl ?_ | refine J.skipU rfl rfl rfl rfl ?_ | (refine J.unguard rfl rfl rfl ?_; refine J.callB (fun w1 w2 hw hb => hw.step hb) Ty.bd63 rfl rfl (fun w1 hw => need_spec (sizeAt B at_) w1 (by omega)) ?_)
                  first | refine J.skip rfl rfl rfl rfl rfl ?_ | refine J.skipU rfl rfl rfl rfl ?_ | (refine J.unguard rfl rfl rfl ?_; refine J.move rfl rfl ?_)
                  refine J.unguard rfl rfl rfl ?_
                  refine J.convInt Ty.u81 Ty.u3 rfl rfl ?_
                  refine J.name 102 rfl (congrArg (Value.int .i64) (show _ = ((used : Nat) : Int) from wrap_i64 (by omega) (by omega))) ?_
                  first | refine J.skip rfl rfl rfl rfl rfl ?_ | refine J.skipU rfl rfl rfl rfl ?_ | (refine J.unguard rfl rfl rfl ?_; (first | refine J.addN rfl rfl (by omega) (by omega) rfl ?_ | refine J.bin rfl rfl rfl rfl ?_))
                  first | refine J.skip rfl rfl rfl rfl rfl ?_ | refine J.skipU rfl rfl rfl rfl ?_ | (refine J.unguard rfl rfl rfl ?_; refine J.move rfl rfl ?_)
                  first | refine J.skip rfl rfl rfl rfl rfl ?_ | refine J.skipU rfl rfl rfl rfl ?_ | (refine J.unguard rfl rfl rfl ?_; (first | refine J.subN rfl rfl (by omega) (by omega) rfl ?_ | refine J.bin rfl rfl rfl rfl ?_))
                  refine J.unguard rfl rfl rfl ?_
                  refine J.bin rfl rfl rfl rfl ?_
                  refine J.name 106 rfl (show Value.bool _ = .bool true by simp <;> omega) ?_
                  (first | refine J.pickT rfl rfl rfl ?_ | refine J.pickF rfl rfl rfl ?_)
                  refine J.nil ?_
                  refine JX.thenN (hK27 _ _ ?_)
                  first | refine JC.condT rfl ?_ | refine JC.cond rfl (fun _ => ?_) (fun h => by first | (exfalso; simp at h; omega) | (simp at h))
                  refine JC.seq (fun K29 hK29 => ?_)
                  refine JC.region ?_
                  refine J.assign rfl rfl ?_
                  refine J.assign rfl rfl ?_
                  refine J.assign rfl rfl ?_
                  refine J.nil ?_
                  refine JX.thenN (hK29 _ _ ?_)
                  refine JC.ret ?_
                  refine JX.thenR ?_
                  refine JX.blockR ?_
                  refine JX.thenR ?_
                  refine JX.thenR ?_
                  refine JX.blockR ?_
                  refine JX.thenR ?_
                  refine JX.ret3 rfl rfl rfl rfl (fun w1 hw => ?_)
                  rw [hopen]
                  first
                  | exact ⟨rfl, hw.below⟩
                  | exact ⟨b151, v15, vs, lv, lps, rfl, hol ▸ hvo, hro, hw⟩
                · skip
                  have hnb := @need_bounds (sizeAt B at_)
                  have hrl : ((B.drop (64 * at_ + 2)).take (sizeAt B at_)).length = sizeAt B at_ := by simp; omega
                  refine J.move rfl rfl ?_
                  refine J.bin rfl rfl rfl rfl ?_
                  refine J.name 97 rfl (show Value.bool _ = .bool false by simp <;> omega) ?_
                  refine J.move rfl rfl ?_
                  first | refine J.skip rfl rfl rfl rfl rfl ?_ | refine J.skipU rfl rfl rfl rfl ?_ | (refine J.unguard rfl rfl rfl ?_; refine J.move rfl rfl ?_)
                  first | refine J.skip rfl rfl rfl rfl rfl ?_ | refine J.skipU rfl rfl rfl rfl ?_ | (refine J.unguard rfl rfl rfl ?_; refine J.callB (fun w1 w2 hw hb => hw.step hb) Ty.bd63 rfl rfl (fun w1 hw => need_spec (sizeAt B at_) w1 (by omega)) ?_)
                  first | refine J.skip rfl rfl rfl rfl rfl ?_ | refine J.skipU rfl rfl rfl rfl ?_ | (refine J.unguard rfl rfl rfl ?_; refine J.move rfl rfl ?_)
                  refine J.unguard rfl rfl rfl ?_
                  refine J.convInt Ty.u81 Ty.u3 rfl rfl ?_
                  refine J.name 102 rfl (congrArg (Value.int .i64) (show _ = ((used : Nat) : Int) from wrap_i64 (by omega) (by omega))) ?_
                  first | refine J.skip rfl rfl rfl rfl rfl ?_ | refine J.skipU rfl rfl rfl rfl ?_ | (refine J.unguard rfl rfl rfl ?_; (first | refine J.addN rfl rfl (by omega) (by omega) rfl ?_ | refine J.bin rfl rfl rfl rfl ?_))
                  first | refine J.skip rfl rfl rfl rfl rfl ?_ | refine J.skipU rfl rfl rfl rfl ?_ | (refine J.unguard rfl rfl rfl ?_; refine J.move rfl rfl ?_)
                  first | refine J.skip rfl rfl rfl rfl rfl ?_ | refine J.skipU rfl rfl rfl rfl ?_ | (refine J.unguard rfl rfl rfl ?_; (first | refine J.subN rfl rfl (by omega) (by omega) rfl ?_ | refine J.bin rfl rfl rfl rfl ?_))
                  refine J.unguard rfl rfl rfl ?_
                  refine J.bin rfl rfl rfl rfl ?_
                  refine J.name 106 rfl (show Value.bool _ = .bool false by simp <;> omega) ?_
                  (first | refine J.pickT rfl rfl rfl ?_ | refine J.pickF rfl rfl rfl ?_)
                  refine J.nil ?_
                  refine JX.thenN (hK27 _ _ ?_)
                  first | refine JC.condF rfl ?_ | refine JC.cond rfl (fun h => by first | (exfalso; simp at h; omega) | (simp at h)) (fun _ => ?_)
                  refine JC.skip ?_
                  refine JX.thenN (hK26 _ _ ?_)
                  refine JC.seq (fun K30 hK30 => ?_)
                  refine JC.seq (fun K31 hK31 => ?_)
                  refine JC.region ?_
                  refine J.assign rfl rfl ?_
                  refine J.nil ?_
                  refine JX.thenN (hK31 _ _ ?_)
                  refine JC.block ?_
                  refine JC.conseq (JC.cov (f := (fun st => [(0, .pointer (some ⟨d, 0, none⟩)), (9, .int .u64 ((gen : Nat) : Int)), (10, .int .u64 ((used : Nat) : Int)), (11, .int .u64 ((cnt_ : Nat) : Int)), (15, v15), (16, .int .i64 ((at_ : Nat) : Int)), (72, .int .u64 ((cnt_ : Nat) : Int)), (73, .int .u64 ((k1 : Nat) : Int)), (19, .int .i64 ((sizeAt B at_ : Nat) : Int)), (17, st.2.1), (20, .int .i64 ((st.1 : Nat) : Int))]) ((1, _, _) : Nat × Value × List (Nat × Obj))) ⟨rfl, rfl, rfl, rfl, rfl, rfl, rfl, rfl, rfl, rfl, rfl, trivial⟩ (JC.loop (α := Nat × Value × List (Nat × Obj)) (fun st => [(0, .pointer (some ⟨d, 0, none⟩)), (9, .int .u64 ((gen : Nat) : Int)), (10, .int .u64 ((used : Nat) : Int)), (11, .int .u64 ((cnt_ : Nat) : Int)), (15, v15), (16, .int .i64 ((at_ : Nat) : Int)), (72, .int .u64 ((cnt_ : Nat) : Int)), (73, .int .u64 ((k1 : Nat) : Int)), (19, .int .i64 ((sizeAt B at_ : Nat) : Int)), (17, st.2.1), (20, .int .i64 ((st.1 : Nat) : Int))]) (fun st w' => (1 ≤ st.1 ∧ st.1 ≤ needN (sizeAt B at_) ∧ Vec 5 1 st.2.1 (64 * st.1) (((B.drop (64 * at_)).take (64 * st.1)).map u8) st.2.2) ∧ St w [] (st.2.2 ++ (lv ++ lps)) w') (fun st => needN (sizeAt B at_) - st.1) ((1, _, _) : Nat × Value × List (Nat × Obj)) (fun st => ?_))) (fun w hw => ⟨⟨Nat.le_refl _, need_bounds.1, hv84'⟩, hw⟩)
                  obtain ⟨i, v17, lp17⟩ := st
                  refine JC.pr (fun hx => ?_)
                  obtain ⟨hi1, hi2, hv17⟩ := hx
                  simp only at hi1 hi2 hv17 ⊢
                  refine JC.seq (fun K32 hK32 => ?_)
                  refine JC.seq (fun K33 hK33 => ?_)
                  refine JC.region ?_
                  refine J.move rfl rfl ?_
                  refine J.move rfl rfl ?_
                  refine J.callB (fun w1 w2 hw hb => hw.step hb) Ty.bd63 rfl rfl (fun w1 hw => need_spec (sizeAt B at_) w1 (by omega)) ?_
                  refine J.bin rfl rfl rfl rfl ?_
                  refine J.nil ?_
                  refine JX.thenN (hK33 _ _ ?_)
                  refine JC.cond rfl (fun h7 => ?_) (fun h7 => ?_)
                  · skip
                    have hlt2 : i < needN (sizeAt B at_) := by simp at h7; omega
                    refine JC.skip ?_
                    refine JX.thenN (hK32 _ _ ?_)
                    refine JC.seq (fun K34 hK34 => ?_)
                    refine JC.block ?_
                    refine JC.seq (fun K35 hK35 => ?_)
                    refine JC.region ?_
                    refine J.move rfl rfl ?_
                    refine J.move rfl rfl ?_
                    refine J.move rfl rfl ?_
                    (first | refine J.addN rfl rfl (by omega) (by omega) rfl ?_ | refine J.bin rfl rfl rfl rfl ?_)
                    refine J.perm ([] ++ (lp17 ++ (lv ++ lps))) (by (refine perm_cnt (fun _ => ?_)); simp only [cntB_append, cntB_cons, cntB_nil, Nat.add_zero, Nat.zero_add]; try ac_rfl) ?_
                    refine J.callS (l1 := []) Ty.bd61 rfl rfl (fun w1 hw => (read_spec d s n B p k ((at_ + i : Nat) : Int) w1 (hw0.at hw) hB (by omega) (by omega)).mono fun _ w2 ⟨x, h1, h2, h3⟩ => ⟨x, h1, h2, St.free (hw0.at hw) h3⟩) (fun x hv119 => ?_)
                    obtain ⟨v119, lp119⟩ := x
                    simp only at hv119 ⊢
                    rw [show ((at_ + i : Nat) : Int).toNat = at_ + i from rfl] at hv119
                    refine J.move rfl rfl ?_
                    refine J.extract rfl rfl rfl ?_
                    refine J.extract rfl rfl rfl ?_
                    refine J.assign rfl rfl ?_
                    refine J.assign rfl rfl ?_
                    refine J.nil ?_
                    refine JX.thenN (hK35 _ _ ?_)
                    refine JC.region ?_
                    refine J.move rfl rfl ?_
                    refine J.move rfl rfl ?_
                    refine J.perm (lp17 ++ (lp119 ++ (lv ++ lps))) (by (refine perm_cnt (fun _ => ?_)); simp only [cntB_append, cntB_cons, cntB_nil, Nat.add_zero, Nat.zero_add]; try ac_rfl) ?_
                    refine J.append (lp := lp17) (ys := (sec B (at_ + i)).map u8) (m := 64) Ty.el26 Ty.s5 Ty.b5 Ty.z5 rfl (.inl ⟨5, Ty.u26⟩) rfl rfl hv17 (fun w1 hw => .inl (hv119.row (l := lp17 ++ (lv ++ lps)) (hw.perm (by (refine perm_cnt (fun _ => ?_)); simp only [cntB_append, cntB_cons, cntB_nil, Nat.add_zero, Nat.zero_add]; try ac_rfl)))) (by rw [List.length_map, sec_len64 (by omega)]) (one_u8 _) (by omega) (by omega) rfl (fun v124 lp124 hv124 => ?_)
                    refine J.assign rfl rfl ?_
                    refine J.nil ?_
                    refine JX.blockN ?_
                    refine JX.thenN (hK34 _ _ ?_)
                    refine JC.region ?_
                    refine J.move rfl rfl ?_
                    (first | refine J.addN rfl rfl (by omega) (by omega) rfl ?_ | refine J.bin rfl rfl rfl rfl ?_)
                    refine J.assign rfl rfl ?_
                    refine J.nil ?_
                    refine JX.thenN ?_
                    refine JX.again (i + 1, v124, lp124) ?_ ?_ ?_
                    · simp only; omega
                    · exact ⟨rfl, rfl, rfl, rfl, rfl, rfl, rfl, rfl, rfl, rfl, rfl, trivial⟩
                    · exact fun w1 hw => ⟨⟨by simp only; omega, hlt2, by simp only; rw [← sec_more, List.map_append]; exact hv124⟩, St.drop (St.perm (l' := lp119 ++ (lp124 ++ (lv ++ lps))) hw (by (refine perm_cnt (fun _ => ?_)); simp only [cntB_append, cntB_cons, cntB_nil, Nat.add_zero, Nat.zero_add]; try ac_rfl)) (List.sublist_append_right _ _)⟩
                  · skip
                    obtain rfl : i = needN (sizeAt B at_) := by simp at h7; omega
                    obtain ⟨a17, c17, rfl, hc17⟩ := hv17.form
                    refine JC.exit ?_
                    refine JX.thenE ?_
                    refine JX.thenE ?_
                    refine JX.blockE ?_
                    refine JX.thenN (hK30 _ _ ?_)
                    refine JC.seq (fun K36 hK36 => ?_)
                    refine JC.region ?_
                    refine J.move rfl rfl ?_
                    refine J.buildSl Ty.el26 Ty.s5 Ty.z5 rfl rfl rfl rfl rfl rfl rfl (fun b126 => ?_)
                    refine J.move rfl rfl ?_
                    refine J.move rfl rfl ?_
                    refine J.addN rfl rfl (by omega) (by omega) rfl ?_
                    refine J.name 129 rfl (show Value.int .i64 _ = .int .i64 ((2 + sizeAt B at_ : Nat) : Int) by congr 1) ?_
                    refine J.sliceS (i := 2) (j := 2 + sizeAt B at_) Ty.el26 Ty.s5 rfl rfl rfl (by simp [bnd]) rfl (by omega) (by omega) (by omega) rfl ?_
                    refine J.append (lp := [(b126, cb [] 5)]) (xs := []) (ys := ((B.drop (64 * at_ + 2)).take (sizeAt B at_)).map u8) (k := 0) (m := 2 + sizeAt B at_ - 2) Ty.el26 Ty.s5 Ty.b5 Ty.z5 rfl (.inl ⟨5, Ty.u26⟩) rfl rfl ⟨rfl, .inr ⟨b126, 0, [], rfl, rfl, rfl, Nat.le_refl _⟩⟩ (fun w1 hw => .inl ?_) (by rw [List.length_map, hrl]; omega) (one_u8 _) (by omega) (by omega) rfl (fun v131 lp131 hv131 => ?_)
                    · have h1 := (hv17.row (l := lv ++ lps) (hw.drop (List.sublist_append_right _ _))).slice (sz := 1) (i := 2) (j := 2 + sizeAt B at_) (by simp; omega) (by omega) (by omega)
                      rw [Nat.mul_one, Nat.mul_one, ← List.map_drop, ← List.map_take, show 2 + sizeAt B at_ - 2 = sizeAt B at_ by omega, rec_of hnb.2.1] at h1
                      rw [show 2 + sizeAt B at_ - 2 = sizeAt B at_ by omega]
                      exact h1
                    rw [List.nil_append, show 0 + (2 + sizeAt B at_ - 2) = sizeAt B at_ by omega] at hv131
                    obtain ⟨a131, c131, rfl, hc131⟩ := hv131.form
                    refine J.buildSl Ty.el57 Ty.s26 Ty.z26 rfl rfl rfl rfl rfl rfl rfl (fun b132 => ?_)
                    refine J.perm ((b132, cb [.slice a131 (sizeAt B at_) c131] 26) :: (lp131 ++ (lp17 ++ (lv ++ lps)))) (.refl _) ?_
                    refine J.perm (lv ++ ([(b132, cb [.slice a131 (sizeAt B at_) c131] 26)] ++ (lp131 ++ (lp17 ++ lps)))) (by (refine perm_cnt (fun _ => ?_)); simp only [cntB_append, cntB_cons, cntB_nil, Nat.add_zero, Nat.zero_add]; try ac_rfl) ?_
                    refine J.append (lp := lv) (ys := [.slice a131 (sizeAt B at_) c131]) (m := 1) Ty.el57 Ty.s26 Ty.b26 Ty.z26 rfl (.inl ⟨26, Ty.u57⟩) rfl rfl hvo (fun w1 hw => .inl (Row.own (cs := [.slice a131 (sizeAt B at_) c131]) (tb := 26) (fr := (0, 0)) hw (List.mem_append_right _ (.head _)) rfl (Nat.le_refl _))) rfl (by simp [Value.oneCell']) (by omega) (by omega) rfl (fun v133 lv133 hv133 => ?_)
                    have hpar2 : parseS B (2 + used) cnt_ 2 = (parseS B (2 + used) (cnt_ - (k1 + 1)) (at_ + needN (sizeAt B at_))).map (fun x => (out ++ [(B.drop (64 * at_ + 2)).take (sizeAt B at_)]) ++ x) := by
                      rw [hpar, hsuc, parseS, if_neg (by omega), if_neg (by omega), Option.map_map]
                      congr 1
                      funext x
                      simp
                    refine J.assign rfl rfl ?_
                    refine J.nil ?_
                    refine JX.thenN (hK36 _ _ ?_)
                    refine JC.region ?_
                    refine J.move rfl rfl ?_
                    refine J.move rfl rfl ?_
                    refine J.callB (fun w1 w2 hw hb => hw.step hb) Ty.bd63 rfl rfl (fun w1 hw => need_spec (sizeAt B at_) w1 (by omega)) ?_
                    (first | refine J.addN rfl rfl (by omega) (by omega) rfl ?_ | refine J.bin rfl rfl rfl rfl ?_)
                    refine J.assign rfl rfl ?_
                    refine J.nil ?_
                    refine JX.blockN ?_
                    refine JX.thenN (hK20 _ _ ?_)
                    refine JC.region ?_
                    refine J.bin rfl rfl rfl rfl ?_
                    refine J.name 138 rfl (congrArg (Value.int .u64) (show _ = ((k1 + 1 : Nat) : Int) from wrap_u64 (by omega) (by omega))) ?_
                    refine J.move rfl rfl ?_
                    refine J.nil ?_
                    refine JX.thenN ?_
                    refine JX.again (⟨k1 + 1, at_ + needN (sizeAt B at_), out ++ [(B.drop (64 * at_ + 2)).take (sizeAt B at_)], vs ++ [.slice a131 (sizeAt B at_) c131], v133, lv133, lps ++ lp131⟩ : OpSt) ?_ ?_ ?_
                    · simp only; omega
                    · exact ⟨rfl, rfl, rfl, rfl, rfl, rfl, rfl, rfl, trivial⟩
                    · exact fun w1 hw => ⟨⟨hlt, by simp only; omega, by simp only; omega, by simp [hol], hv133, .snoc hro (by rw [hrl]; exact hv131), hpar2⟩, St.drop (St.perm (l' := (lp17 ++ [(b132, cb [.slice a131 (sizeAt B at_) c131] 26)]) ++ (lv133 ++ (lps ++ lp131))) hw (by (refine perm_cnt (fun _ => ?_)); simp only [cntB_append, cntB_cons, cntB_nil, Nat.add_zero, Nat.zero_add]; try ac_rfl)) (List.sublist_append_right _ _)⟩
          · skip
            obtain rfl : cnt_ = k1 := by simp at h4; omega
            rw [Nat.sub_self] at hpar
            refine JC.exit ?_
            refine JX.thenE ?_
            refine JX.thenE ?_
            refine JX.blockE ?_
            refine JX.thenN (hK16 _ _ ?_)
            refine JC.seq (fun K37 hK37 => ?_)
            refine JC.seq (fun K38 hK38 => ?_)
            refine JC.region ?_
            refine J.move rfl rfl ?_
            refine J.move rfl rfl ?_
            refine J.convInt Ty.u81 Ty.u3 rfl rfl ?_
            refine J.name 141 rfl (congrArg (Value.int .i64) (show _ = ((used : Nat) : Int) from wrap_i64 (by omega) (by omega))) ?_
            (first | refine J.addN rfl rfl (by omega) (by omega) rfl ?_ | refine J.bin rfl rfl rfl rfl ?_)
            refine J.bin rfl rfl rfl rfl ?_
            refine J.nil ?_
            refine JX.thenN (hK38 _ _ ?_)
            refine JC.cond rfl (fun h8 => ?_) (fun h8 => ?_)
            · skip
              have hopen := openP_none (B := B) hn3 hbest (by rw [hpar, parseS, if_neg (by simp at h8; omega)]; rfl)
              refine JC.seq (fun K39 hK39 => ?_)
              refine JC.region ?_
              refine J.assign rfl rfl ?_
              refine J.assign rfl rfl ?_
              refine J.assign rfl rfl ?_
              refine J.nil ?_
              refine JX.thenN (hK39 _ _ ?_)
              refine JC.ret ?_
              refine JX.thenR ?_
              refine JX.ret3 rfl rfl rfl rfl (fun w1 hw => ?_)
              rw [hopen]
              first
              | exact ⟨rfl, hw.below⟩
              | exact ⟨b151, v15, vs, lv, lps, rfl, hol ▸ hvo, hro, hw⟩
            · skip
              have hopen := openP_some (B := B) hn3 hbest hgood (rs := out) (by rw [hpar, parseS, if_pos (by simp at h8; omega)]; simp)
              refine JC.skip ?_
              refine JX.thenN (hK37 _ _ ?_)
              refine JC.seq (fun K40 hK40 => ?_)
              refine JC.region ?_
              refine J.move rfl rfl ?_
              refine J.move rfl rfl ?_
              refine J.move rfl rfl ?_
              refine J.convInt Ty.u81 Ty.u3 rfl rfl ?_
              refine J.name 147 rfl (congrArg (Value.int .i64) (show _ = ((used : Nat) : Int) from wrap_i64 (by omega) (by omega))) ?_
              refine J.move rfl rfl ?_
              refine J.convInt Ty.u81 Ty.u3 rfl rfl ?_
              refine J.name 149 rfl (congrArg (Value.int .i64) (show _ = ((cnt_ : Nat) : Int) from wrap_i64 (by omega) (by omega))) ?_
              refine J.buildS Ty.pl124 Ty.z124 rfl rfl rfl ?_
              refine J.box rfl rfl rfl (fun b151 => ?_)
              refine J.move rfl rfl ?_
              refine J.assign rfl rfl ?_
              refine J.assign rfl rfl ?_
              refine J.assign rfl rfl ?_
              refine J.nil ?_
              refine JX.thenN (hK40 _ _ ?_)
              refine JC.ret ?_
              refine JX.ret3 rfl rfl rfl rfl (fun w1 hw => ?_)
              rw [hopen]
              first
              | exact ⟨rfl, hw.below⟩
              | exact ⟨b151, v15, vs, lv, lps, rfl, hol ▸ hvo, hro, hw⟩
      · skip
        refine JC.seq (fun K41 hK41 => ?_)
        refine JC.region ?_
        refine J.move rfl rfl ?_
        refine J.bin rfl rfl rfl rfl ?_
        refine J.nil ?_
        refine JX.thenN (hK41 _ _ ?_)
        refine JC.cond rfl (fun h2 => ?_) (fun h2 => ?_)
        · skip
          try simp only [decide_eq_true_eq, decide_eq_false_iff_not, beq_iff_eq, bne_iff_ne, bne_eq_false_iff_eq, ne_eq, beq_eq_false_iff_ne, Bool.not_eq_true, Bool.not_eq_false, Int.not_lt, Int.not_le] at h2
          refine JC.region ?_
          refine J.assign rfl rfl ?_
          refine J.assign rfl rfl ?_
          refine J.nil ?_
          refine JX.thenN ?_
          have hz : h.1 = 0 := by simp at h2; exact h2
          have hbz : bestP B 2 = (0, 0, 0) := by rw [best_two B h hh, if_pos hz]
          obtain ⟨rfl, rfl, rfl⟩ : gen = 0 ∧ used = 0 ∧ cnt_ = 0 := by rw [hbest] at hbz; simpa using hbz
          exact JX.cut (hK8 ()) ⟨rfl, by simp only [hz]; rfl, rfl, rfl, trivial⟩ (fun w1 hw => hw)
        · skip
          try simp only [decide_eq_true_eq, decide_eq_false_iff_not, beq_iff_eq, bne_iff_ne, bne_eq_false_iff_eq, ne_eq, beq_eq_false_iff_ne, Bool.not_eq_true, Bool.not_eq_false, Int.not_lt, Int.not_le] at h2
          refine JC.skip ?_
          refine JX.thenN ?_
          have hz : h.1 ≠ 0 := by simp at h2; exact h2
          have hbz : bestP B 2 = h := by rw [best_two B h hh, if_neg hz]
          obtain rfl : h = (gen, used, cnt_) := by rw [← hbz, hbest]
          exact JX.cut (hK8 ()) ⟨rfl, rfl, rfl, rfl, trivial⟩ (fun w1 hw => hw)
    · skip
      refine JC.seq (fun K42 hK42 => ?_)
      refine JC.region ?_
      refine J.move rfl rfl ?_
      refine J.callB (fun w1 w2 hw hb => hw.step hb) Ty.bd62 rfl rfl (fun w1 hw => head_spec _ (sec B 1) w1 (hvb.row (l := lpa) (hw.perm (by (refine perm_cnt (fun _ => ?_)); simp only [cntB_append, cntB_cons, cntB_nil, Nat.add_zero, Nat.zero_add]; try ac_rfl))) (sec_len64 (by omega))) ?_
      refine J.move rfl rfl ?_
      refine J.extract rfl rfl rfl ?_
      refine J.extract rfl rfl rfl ?_
      refine J.extract rfl rfl rfl ?_
      refine J.assign rfl rfl ?_
      refine J.assign rfl rfl ?_
      refine J.assign rfl rfl ?_
      refine J.nil ?_
      refine JX.thenN (hK42 _ _ ?_)
      refine JC.seq (fun K43 hK43 => ?_)
      refine JC.region ?_
      refine J.move rfl rfl ?_
      refine J.move rfl rfl ?_
      refine J.bin rfl rfl rfl rfl ?_
      refine J.nil ?_
      refine JX.thenN (hK43 _ _ ?_)
      refine JC.cond rfl (fun h1 => ?_) (fun h1 => ?_)
      · skip
        try simp only [decide_eq_true_eq, decide_eq_false_iff_not, beq_iff_eq, bne_iff_ne, bne_eq_false_iff_eq, ne_eq, beq_eq_false_iff_ne, Bool.not_eq_true, Bool.not_eq_false, Int.not_lt, Int.not_le] at h1
        refine JC.region ?_
        refine J.move rfl rfl ?_
        refine J.move rfl rfl ?_
        refine J.move rfl rfl ?_
        refine J.assign rfl rfl ?_
        refine J.assign rfl rfl ?_
        refine J.assign rfl rfl ?_
        refine J.nil ?_
        refine JX.thenN ?_
        exact JX.cut (hK7 ()) ⟨rfl, by rw [← hh, if_pos (by simp at h1; omega)]; rfl, by rw [← hh, if_pos (by simp at h1; omega)]; rfl, by rw [← hh, if_pos (by simp at h1; omega)]; rfl, trivial⟩ (fun w1 hw => hw.drop (List.nil_sublist _))
      · skip
        try simp only [decide_eq_true_eq, decide_eq_false_iff_not, beq_iff_eq, bne_iff_ne, bne_eq_false_iff_eq, ne_eq, beq_eq_false_iff_ne, Bool.not_eq_true, Bool.not_eq_false, Int.not_lt, Int.not_le] at h1
        refine JC.skip ?_
        refine JX.thenN ?_
        exact JX.cut (hK7 ()) ⟨rfl, by rw [← hh, if_neg (by simp at h1; omega)]; rfl, by rw [← hh, if_neg (by simp at h1; omega)]; rfl, by rw [← hh, if_neg (by simp at h1; omega)]; rfl, trivial⟩ (fun w1 hw => hw.drop (List.nil_sublist _))

end Go.Proofs.Ytoaenmlhehcjfaa
/-
  What the document's own disk (annuletref05) does: contracts. And the contracts of both disks' Write and Read in one piece each.
-/
namespace Go.Proofs.Ytoaenmlhehcjfaa
open Go.J Go.RowKit
set_option linter.unusedVariables false
set_option linter.unusedSimpArgs false
set_option maxRecDepth 4000

abbrev rfO (v : Value) (p k : Int) : Obj := cb [v, .int .i64 p, .int .i64 k] 83
/-- what a write answers -/
def wE (n : Nat) (p i : Int) (m : Nat) : Int := if i < 0 ∨ (n : Int) ≤ i then 1 else if 64 < m then 4 else if p = 0 then 8 else 0
def wP (n : Nat) (p i : Int) (m : Nat) : Int := if wE n p i m = 0 then (if 0 < p then p - 1 else p) else p
def wK (n : Nat) (p i : Int) (m : Nat) (k : Int) : Int := if wE n p i m = 0 then k + 1 else k
def wB (n : Nat) (p i : Int) (B bs : List UInt8) : List UInt8 := if wE n p i bs.length = 0 then put B i.toNat bs else B
/-- the bytes of the document's write, j of them laid -/
def wst (B : List UInt8) (i : Nat) (bs : List UInt8) (j : Nat) : List UInt8 := B.take (64 * i) ++ (bs ++ List.replicate (64 - bs.length) 0).take j ++ B.drop (64 * i + j)
theorem wst_all {B bs : List UInt8} {i : Nat} (h : bs.length ≤ 64) : wst B i bs 64 = put B i bs := by
  have e : (bs ++ List.replicate (64 - bs.length) (0 : UInt8)).take 64 = bs ++ List.replicate (64 - bs.length) 0 := List.take_of_length_le (by simp; omega)
  rw [wst, put, e]
theorem wst_get {B bs : List UInt8} {n i : Nat} (hB : B.length = 64 * n) (hi : i < n) (hb : bs.length ≤ 64) (j q : Nat) (hj : j ≤ 64) : (wst B i bs j)[q]? = if q < 64 * i then B[q]? else if q < 64 * i + j then (bs ++ List.replicate (64 - bs.length) 0)[q - 64 * i]? else B[q]? := by
  have l1 : (B.take (64 * i)).length = 64 * i := by simp; omega
  have l2 : ((bs ++ List.replicate (64 - bs.length) (0 : UInt8)).take j).length = j := by simp; omega
  unfold wst
  by_cases h1 : q < 64 * i
  · rw [if_pos h1, List.append_assoc, List.getElem?_append_left (by omega), List.getElem?_take_of_lt h1]
  · rw [if_neg h1]
    by_cases h2 : q < 64 * i + j
    · rw [if_pos h2, List.append_assoc, List.getElem?_append_right (by omega), List.getElem?_append_left (by omega), l1, List.getElem?_take_of_lt (by omega)]
    · rw [if_neg h2, List.getElem?_append_right (by simp only [List.length_append]; omega), List.length_append, l1, l2, List.getElem?_drop]
      congr 1; omega
end Go.Proofs.Ytoaenmlhehcjfaa
/-
  The document's log is opened.
-/
namespace Go.Proofs.Ytoaenmlhehcjfaa
open Go.J Go.RowKit
set_option linter.unusedVariables false
set_option linter.unusedSimpArgs false
set_option maxRecDepth 4000
abbrev rlO (r : Nat) (q : LogP) (down : Bool) : Obj := cb [.pointer (some ⟨r, 0, none⟩), .int .u64 ((q.gen : Nat) : Int), .int .i64 ((q.used : Nat) : Int), .int .i64 ((q.cnt : Nat) : Int), .bool down] 83
structure OpSt2 where
  k : Nat
  at_ : Nat
  out : List (List UInt8)
  vs : List Value
  v9 : Value
  lv : List (Nat × Obj)
  lps : List (Nat × Obj)
  ar : Option Addr
  cr : Nat
abbrev restP (B : List UInt8) (top at_ : Nat) : List UInt8 := (B.drop (64 * at_)).take (64 * (top - at_))
end Go.Proofs.Ytoaenmlhehcjfaa
/-
  A record is appended: what that does, in plain words; and slate's Append.
-/
namespace Go.Proofs.Ytoaenmlhehcjfaa
open Go.J Go.RowKit
set_option linter.unusedVariables false
set_option linter.unusedSimpArgs false
set_option maxRecDepth 8000
/-- a disk's bytes, power and count -/
structure DS where
  B : List UInt8
  p : Int
  k : Int
def dw (σ : DS) (i : Nat) (bs : List UInt8) : DS := ⟨put σ.B i bs, if 0 < σ.p then σ.p - 1 else σ.p, σ.k + 1⟩
def dws (σ : DS) : List (Nat × List UInt8) → DS × Bool
  | [] => (σ, true)
  | x :: xs => if σ.p = 0 then (σ, false) else dws (dw σ x.1 x.2) xs
def payload (rec_ : List UInt8) : List UInt8 := [UInt8.ofNat (rec_.length / 256), UInt8.ofNat (rec_.length % 256)] ++ rec_
def piece (pay : List UInt8) (i : Nat) : List UInt8 := (pay.drop (64 * i)).take 64
def planP (gen used cnt_ : Nat) (rec_ : List UInt8) : List (Nat × List UInt8) :=
  (List.range (needN rec_.length)).map (fun i => (2 + used + i, piece (payload rec_) i)) ++ [((gen + 1) % 2, [gen + 1, used + needN rec_.length, cnt_ + 1].flatMap be8)]
/-- what appending does -/
def appendP (n : Nat) (q : LogP) (down : Bool) (σ : DS) (rec_ : List UInt8) : Int × LogP × Bool × DS :=
  if down then (8, q, true, σ) else
  if 1024 < rec_.length then (4, q, false, σ) else
  if n - 2 - q.used < needN rec_.length then (5, q, false, σ) else
  match dws σ (planP q.gen q.used q.cnt rec_) with
  | (σ', true) => (0, ⟨q.gen + 1, q.used + needN rec_.length, q.cnt + 1, q.recs ++ [rec_]⟩, false, σ')
  | (σ', false) => (8, q, true, σ')
theorem appendP_down {n : Nat} {q : LogP} {σ : DS} {rec_ : List UInt8} : appendP n q true σ rec_ = (8, q, true, σ) := rfl
theorem appendP_long {n : Nat} {q : LogP} {σ : DS} {rec_ : List UInt8} (h : 1024 < rec_.length) : appendP n q false σ rec_ = (4, q, false, σ) := by
  rw [appendP, if_neg (by simp), if_pos h]
theorem appendP_full {n : Nat} {q : LogP} {σ : DS} {rec_ : List UInt8} (h : ¬ 1024 < rec_.length) (h2 : n - 2 - q.used < needN rec_.length) : appendP n q false σ rec_ = (5, q, false, σ) := by
  rw [appendP, if_neg (by simp), if_neg h, if_pos h2]
theorem appendP_torn {n : Nat} {q : LogP} {σ σ' : DS} {rec_ : List UInt8} (h : ¬ 1024 < rec_.length) (h2 : ¬ n - 2 - q.used < needN rec_.length) (hd : dws σ (planP q.gen q.used q.cnt rec_) = (σ', false)) : appendP n q false σ rec_ = (8, q, true, σ') := by
  rw [appendP, if_neg (by simp), if_neg h, if_neg h2, hd]
theorem appendP_ok {n : Nat} {q : LogP} {σ σ' : DS} {rec_ : List UInt8} (h : ¬ 1024 < rec_.length) (h2 : ¬ n - 2 - q.used < needN rec_.length) (hd : dws σ (planP q.gen q.used q.cnt rec_) = (σ', true)) :
    appendP n q false σ rec_ = (0, ⟨q.gen + 1, q.used + needN rec_.length, q.cnt + 1, q.recs ++ [rec_]⟩, false, σ') := by
  rw [appendP, if_neg (by simp), if_neg h, if_neg h2, hd]
theorem payload_length (rec_ : List UInt8) : (payload rec_).length = 2 + rec_.length := by simp [payload]; omega
theorem piece_length (pay : List UInt8) (i : Nat) : (piece pay i).length = min (64 * (i + 1)) pay.length - 64 * i := by simp [piece]; omega
theorem plan_at {gen used cnt_ : Nat} {rec_ : List UInt8} {i : Nat} (h : i < needN rec_.length) :
    (planP gen used cnt_ rec_).drop i = (2 + used + i, piece (payload rec_) i) :: (planP gen used cnt_ rec_).drop (i + 1) := by
  have hl : i < (planP gen used cnt_ rec_).length := by simp [planP]; omega
  rw [List.drop_eq_getElem_cons hl]
  congr 1
  simp [planP, List.getElem_append, h]
theorem plan_last {gen used cnt_ : Nat} {rec_ : List UInt8} : (planP gen used cnt_ rec_).drop (needN rec_.length) = [((gen + 1) % 2, [gen + 1, used + needN rec_.length, cnt_ + 1].flatMap be8)] := by
  rw [planP, List.drop_left' (by simp)]
theorem dws_cons_torn {B : List UInt8} {k : Int} {x : Nat × List UInt8} {xs : List (Nat × List UInt8)} : dws ⟨B, 0, k⟩ (x :: xs) = (⟨B, 0, k⟩, false) := by simp [dws]
theorem dws_cons {σ : DS} {x : Nat × List UInt8} {xs : List (Nat × List UInt8)} (h : σ.p ≠ 0) : dws σ (x :: xs) = dws (dw σ x.1 x.2) xs := by simp [dws, h]
theorem dws_nil {σ : DS} : dws σ [] = (σ, true) := rfl
/-- a write that is done -/
theorem write_done (d s n : Nat) (B bs : List UInt8) (p k : Int) (i : Nat) (a : Option Addr) (m c : Nat) (w : World) (hw0 : Own w [(d, dkO s n p k), (s, dkS B)]) (hB : B.length = 64 * n) (hk : 0 ≤ k) (hk2 : k < 4611686018427387904) (hi : i < n) (hm : m ≤ 64) (hbl : bs.length = m) (hbv : Row w (.slice a m c) m (bs.map u8)) (hoff : Off [d, s] (.slice a m c) (bs.map u8)) (hp : p < 9223372036854775808) (hp0 : p ≠ 0) :
    Calls Try.prog 68 [.pointer (some ⟨d, 0, none⟩), .int .i64 ((i : Nat) : Int), .slice a m c].toArray w fun r w' => r = .returned (.int .i64 0) ∧ St w [d, s] [(d, dkO s n (if 0 < p then p - 1 else p) (k + 1)), (s, dkS (put B i bs))] w' := by
  by_cases h5 : 0 < p
  · rw [if_pos h5]
    exact write_power d s n B bs p k i a m c w hw0 hB (by omega) (by omega) hk hk2 hm hbl hbv hoff h5 hp
  · rw [if_neg h5]
    exact write_endless d s n B bs p k i a m c w hw0 hB (by omega) (by omega) hk hk2 hm hbl hbv hoff (by omega)
theorem vec_off {w0 w : World} {S : List Nat} {l1 l lp : List (Nat × Obj)} {t sz k c : Nat} {a : Option Addr} {xs ys : List Value} (h : Vec t sz (.slice a k c) k xs lp) (hw : St w0 S (l1 ++ (lp ++ l)) w) (j q k' c' : Nat) :
    Off (l1.map (·.1)) (.slice (if c = j then a else a.map (·.add q)) k' c') ys := by
  obtain ⟨_, h⟩ := h
  rcases h with ⟨he, _, _⟩ | ⟨b, c1, sp, he, rfl, _, _⟩
  · simp only [Value.slice.injEq] at he
    obtain ⟨rfl, _, _⟩ := he
    exact .inr fun b o k c he => by simp at he
  · simp only [Value.slice.injEq, true_and] at he
    obtain ⟨rfl, rfl⟩ := he
    have hb := hw.off (l1 := l1) (List.mem_append_left _ (.head _) : (b, cb (xs ++ sp) t) ∈ _)
    by_cases hc : c = j
    · rw [if_pos hc]; exact Off.mk hb
    · rw [if_neg hc, Option.map_some, addr_add]; exact Off.mk hb


theorem hi_byte (m : Nat) : Value.int .u8 (IntKind.u8.wrap (Int.fdiv ((m : Nat) : Int) (2 ^ (min (8 : Int).toNat IntKind.i64.bits)))) = u8 (UInt8.ofNat (m / 256)) := by
  have e : ((2 : Int) ^ (min (8 : Int).toNat IntKind.i64.bits)) = ((256 : Nat) : Int) := by decide
  rw [e, Int.fdiv_eq_ediv_of_nonneg _ (Int.natCast_nonneg _), wrap_u8m]
  show Value.int .u8 _ = Value.int .u8 _
  congr 1 <;> simp
theorem lo_byte (m : Nat) : Value.int .u8 (IntKind.u8.wrap ((m : Nat) : Int)) = u8 (UInt8.ofNat (m % 256)) := by
  rw [wrap_u8m]
  show Value.int .u8 _ = Value.int .u8 _
  congr 1
  simp

theorem append_spec (lb d s n : Nat) (q : LogP) (down : Bool) (B rec_ : List UInt8) (p k : Int) (a : Option Addr) (m c : Nat) (w : World) (hw0 : Own w [(lb, lgO d q down), (d, dkO s n p k), (s, dkS B)]) (hB : B.length = 64 * n) (hn : n ≤ 4096) (hn3 : 3 ≤ n) (hg : q.gen < 9223372036854775808) (hu : q.used ≤ n - 2) (hcn : q.cnt ≤ q.used) (hk : 0 ≤ k) (hk2 : k < 4611686018427380000) (hp : p < 9223372036854775808) (hml : rec_.length = m) (hm47 : m ≤ 140737488351232) (hr : Row w (.slice a m c) m (rec_.map u8)) (hoff : Off [lb, d, s] (.slice a m c) (rec_.map u8)) :
    Calls Try.prog 46 [.pointer (some ⟨lb, 0, none⟩), .slice a m c].toArray w fun r w' => match appendP n q down ⟨B, p, k⟩ rec_ with
      | (e, q', down', σ') => r = .returned (.int .i64 e) ∧ St w [lb, d, s] [(lb, lgO d q' down'), (d, dkO s n σ'.p σ'.k), (s, dkS σ'.B)] w' := by
  obtain ⟨gen, used, cnt_, recs⟩ := q
  simp only at hg hu hcn
  subst hml
  refine calls_of_J (args := [.pointer (some ⟨lb, 0, none⟩), .slice a rec_.length c]) (e := [(0, .pointer (some ⟨lb, 0, none⟩)), (1, .slice a rec_.length c)]) Try.func46 rfl rfl ⟨rfl, rfl, trivial⟩ (show St w [lb, d, s] [(lb, cb [.pointer (some ⟨d, 0, none⟩), .int .u64 ((gen : Nat) : Int), .int .i64 ((used : Nat) : Int), .int .i64 ((cnt_ : Nat) : Int), .bool down] 124), (d, dkO s n (p) (k)), (s, dkS (B))] w from hw0.st) ?_
  refine JC.seq (fun K0 hK0 => ?_)
  refine JC.region ?_
  refine J.assign rfl rfl ?_
  refine J.nil ?_
  refine JX.thenN (hK0 _ _ ?_)
  refine JC.seq (fun K1 hK1 => ?_)
  refine JC.block ?_
  refine JC.seq (fun K2 hK2 => ?_)
  refine JC.region ?_
  refine J.move rfl rfl ?_
  refine J.eqNil Ty.u94 rfl rfl rfl ?_
  refine J.assign rfl rfl ?_
  refine J.nil ?_
  refine JX.thenN (hK2 _ _ ?_)
  first | refine JC.condF rfl ?_ | refine JC.cond rfl (fun h => by first | (exfalso; simp at h; omega) | (simp at h)) (fun _ => ?_)
  refine JC.seq (fun K3 hK3 => ?_)
  refine JC.region ?_
  refine J.move rfl rfl ?_
  refine J.nilCheck rfl rfl ?_
  refine J.fieldAddr Ty.fd124_4 rfl rfl ?_
  refine J.loadO Ty.a4 rfl (by repeat first | exact .head _ | apply List.Mem.tail | apply List.mem_append_right) (by exact rfl) rfl ?_
  refine J.assign rfl rfl ?_
  refine J.nil ?_
  refine JX.thenN (hK3 _ _ ?_)
  refine JC.cond rfl (fun h1 => ?_) (fun h1 => ?_)
  · skip
    have happ := @appendP_down n ⟨gen, used, cnt_, recs⟩ ⟨B, p, k⟩ rec_
    subst h1
    refine JC.seq (fun K4 hK4 => ?_)
    refine JC.region ?_
    refine J.assign rfl rfl ?_
    refine J.nil ?_
    refine JX.thenN (hK4 _ _ ?_)
    refine JC.ret ?_
    refine JX.blockR ?_
    refine JX.thenR ?_
    refine JX.ret1 rfl rfl (fun w1 hw => ?_)
    rw [happ]
    first
    | exact ⟨rfl, hw⟩
    | exact ⟨rfl, hw.drop (.cons_cons _ (.cons_cons _ (.cons_cons _ (List.nil_sublist _))))⟩
  · skip
    subst h1
    refine JC.seq (fun K5 hK5 => ?_)
    refine JC.region ?_
    refine J.move rfl rfl ?_
    refine J.lenS rfl Ty.u26 rfl rfl ?_
    refine J.bin rfl rfl rfl rfl ?_
    refine J.assign rfl rfl ?_
    refine J.nil ?_
    refine JX.thenN (hK5 _ _ ?_)
    refine JC.cond rfl (fun h2 => ?_) (fun h2 => ?_)
    · skip
      have happ := appendP_long (n := n) (q := ⟨gen, used, cnt_, recs⟩) (σ := ⟨B, p, k⟩) (rec_ := rec_) (by simp at h2; omega)
      refine JC.seq (fun K6 hK6 => ?_)
      refine JC.region ?_
      refine J.assign rfl rfl ?_
      refine J.nil ?_
      refine JX.thenN (hK6 _ _ ?_)
      refine JC.ret ?_
      refine JX.blockR ?_
      refine JX.thenR ?_
      refine JX.ret1 rfl rfl (fun w1 hw => ?_)
      rw [happ]
      first
      | exact ⟨rfl, hw⟩
      | exact ⟨rfl, hw.drop (.cons_cons _ (.cons_cons _ (.cons_cons _ (List.nil_sublist _))))⟩
    · skip
      have hlong : ¬ 1024 < rec_.length := by simp at h2; omega
      have hnd : 1 ≤ needN rec_.length ∧ needN rec_.length ≤ 18 := by unfold needN; omega
      have hpl := payload_length rec_
      refine JC.seq (fun K7 hK7 => ?_)
      by_cases hfull : n - 2 - used < needN rec_.length
      · skip
        have happ := appendP_full (n := n) (q := ⟨gen, used, cnt_, recs⟩) (σ := ⟨B, p, k⟩) hlong hfull
        apply JC.drawL 15 [Eqv (_), Eqv (_), Eqv (_), Eqv (_), Eqv (_), Eqv (_), Eqv (_), Eqv (_), Eqv (_), Eqv (_), Eqv (_), Eqv (_), Eqv (_), Eqv (_), Eqv (_)] Ty.mixed rfl rfl rfl (by kernel_rfl) rfl rfl (fun w w' hw hb => hw.step hb) ⟨fun _ _ _ h _ => h, fun _ _ _ h _ => h, fun _ _ _ h _ => h, fun _ _ _ h _ => h, fun _ _ _ h _ => h, fun _ _ _ h _ => h, fun _ _ _ h _ => h, fun _ _ _ h _ => h, fun _ _ _ h _ => h, fun _ _ _ h _ => h, fun _ _ _ h _ => h, fun _ _ _ h _ => h, fun _ _ _ h _ => h, fun _ _ _ h _ => h, fun _ _ _ h _ => h, trivial⟩ ?hstep ?htail
        case hstep =>
          refine ⟨fun wi => ?_, fun wi => ?_, fun wi => ?_, fun wi => ?_, fun wi => ?_, fun wi => ?_, fun wi => ?_, fun wi => ?_, fun wi => ?_, fun wi => ?_, fun wi => ?_, fun wi => ?_, fun wi => ?_, fun wi => ?_, fun wi => ?_, trivial⟩
          · skip
            refine Fin.nil ?_
            refine J.move rfl rfl ?_
            exact J.finP rfl
          · skip
            refine Fin.consE rfl (Fin.nil ?_)
            refine J.lenS rfl Ty.u26 rfl rfl ?_
            exact J.finP rfl
          · skip
            refine Fin.consE rfl (Fin.nil ?_)
            refine J.callD Ty.bd63 rfl rfl (fun w1 hw => need_spec rec_.length w1 (by omega)) ?_
            exact J.finQ rfl
          · skip
            refine Fin.nil ?_
            refine J.move rfl rfl ?_
            exact J.finP rfl
          · skip
            refine Fin.consE rfl (Fin.nil ?_)
            refine J.nilCheck rfl rfl ?_
            exact J.finP rfl
          · skip
            refine Fin.consE rfl (Fin.nil ?_)
            refine J.fieldAddr Ty.fd124_0 rfl rfl ?_
            exact J.finP rfl
          · skip
            refine Fin.consE rfl (Fin.nil ?_)
            refine J.load1 Ty.a34 rfl (fun w hw => (cell_of (hw.2.own (_, _) (by repeat first | exact .head _ | apply List.Mem.tail | apply List.mem_append_right))).trans (by exact rfl)) rfl ?_
            exact J.finP rfl
          · skip
            refine Fin.consE rfl (Fin.consE rfl (Fin.nil ?_))
            refine J.callD Ty.bd60 rfl rfl (fun w1 hw => size_spec d s n p k w1 (St.owns (l1 := [(d, dkO s n (p) (k)), (s, dkS (B))]) (l := [(lb, cb [.pointer (some ⟨d, 0, none⟩), .int .u64 ((gen : Nat) : Int), .int .i64 ((used : Nat) : Int), .int .i64 ((cnt_ : Nat) : Int), .bool false] 124)]) (hw.perm (by (refine perm_cnt (fun _ => ?_)); simp only [cntB_append, cntB_cons, cntB_nil, Nat.add_zero, Nat.zero_add]; try ac_rfl)))) ?_
            exact J.finQ rfl
          · skip
            refine Fin.consE rfl (Fin.nil ?_)
            (first | refine J.subN rfl rfl (by omega) (by omega) rfl ?_ | refine J.bin rfl rfl rfl rfl ?_)
            exact J.finP rfl
          · skip
            refine Fin.nil ?_
            refine J.move rfl rfl ?_
            exact J.finP rfl
          · skip
            refine Fin.consE rfl (Fin.nil ?_)
            refine J.nilCheck rfl rfl ?_
            exact J.finP rfl
          · skip
            refine Fin.consE rfl (Fin.nil ?_)
            refine J.fieldAddr Ty.fd124_2 rfl rfl ?_
            exact J.finP rfl
          · skip
            refine Fin.consE rfl (Fin.nil ?_)
            refine J.load1 Ty.a3 rfl (fun w hw => (cell_of (hw.2.own (_, _) (by repeat first | exact .head _ | apply List.Mem.tail | apply List.mem_append_right))).trans (by exact rfl)) rfl ?_
            exact J.finP rfl
          · skip
            refine Fin.consE rfl (Fin.consE rfl (Fin.nil ?_))
            (first | refine J.subN rfl rfl (by omega) (by omega) rfl ?_ | refine J.bin rfl rfl rfl rfl ?_)
            exact J.finP rfl
          · skip
            refine Fin.consE rfl (Fin.consE rfl (Fin.nil ?_))
            refine J.bin rfl rfl rfl rfl ?_
            refine J.name 38 rfl (show Value.bool _ = .bool true by simp <;> omega) ?_
            exact J.finP rfl
        case htail =>
          refine Fin.consE rfl (Fin.consE rfl (Fin.consE rfl (Fin.consE rfl (Fin.consE rfl (Fin.consE rfl (Fin.consE rfl (Fin.consE rfl (Fin.consE rfl (Fin.consE rfl (Fin.consE rfl (Fin.consE rfl (Fin.consE rfl (Fin.consE rfl (Fin.consE rfl (Fin.nil ?_)))))))))))))))
          refine J.assign rfl rfl ?_
          refine J.nil ?_
          refine JX.thenN (hK7 _ _ ?_)
          first | refine JC.condT rfl ?_ | refine JC.cond rfl (fun _ => ?_) (fun h => by first | (exfalso; simp at h; omega) | (simp at h))
          refine JC.seq (fun K8 hK8 => ?_)
          refine JC.region ?_
          refine J.assign rfl rfl ?_
          refine J.nil ?_
          refine JX.thenN (hK8 _ _ ?_)
          refine JC.ret ?_
          refine JX.blockR ?_
          refine JX.thenR ?_
          refine JX.ret1 rfl rfl (fun w1 hw => ?_)
          rw [happ]
          first
          | exact ⟨rfl, hw⟩
          | exact ⟨rfl, hw.drop (.cons_cons _ (.cons_cons _ (.cons_cons _ (List.nil_sublist _))))⟩
      · skip
        apply JC.drawL 15 [Eqv (_), Eqv (_), Eqv (_), Eqv (_), Eqv (_), Eqv (_), Eqv (_), Eqv (_), Eqv (_), Eqv (_), Eqv (_), Eqv (_), Eqv (_), Eqv (_), Eqv (_)] Ty.mixed rfl rfl rfl (by kernel_rfl) rfl rfl (fun w w' hw hb => hw.step hb) ⟨fun _ _ _ h _ => h, fun _ _ _ h _ => h, fun _ _ _ h _ => h, fun _ _ _ h _ => h, fun _ _ _ h _ => h, fun _ _ _ h _ => h, fun _ _ _ h _ => h, fun _ _ _ h _ => h, fun _ _ _ h _ => h, fun _ _ _ h _ => h, fun _ _ _ h _ => h, fun _ _ _ h _ => h, fun _ _ _ h _ => h, fun _ _ _ h _ => h, fun _ _ _ h _ => h, trivial⟩ ?hstep ?htail
        case hstep =>
          refine ⟨fun wi => ?_, fun wi => ?_, fun wi => ?_, fun wi => ?_, fun wi => ?_, fun wi => ?_, fun wi => ?_, fun wi => ?_, fun wi => ?_, fun wi => ?_, fun wi => ?_, fun wi => ?_, fun wi => ?_, fun wi => ?_, fun wi => ?_, trivial⟩
          · skip
            refine Fin.nil ?_
            refine J.move rfl rfl ?_
            exact J.finP rfl
          · skip
            refine Fin.consE rfl (Fin.nil ?_)
            refine J.lenS rfl Ty.u26 rfl rfl ?_
            exact J.finP rfl
          · skip
            refine Fin.consE rfl (Fin.nil ?_)
            refine J.callD Ty.bd63 rfl rfl (fun w1 hw => need_spec rec_.length w1 (by omega)) ?_
            exact J.finQ rfl
          · skip
            refine Fin.nil ?_
            refine J.move rfl rfl ?_
            exact J.finP rfl
          · skip
            refine Fin.consE rfl (Fin.nil ?_)
            refine J.nilCheck rfl rfl ?_
            exact J.finP rfl
          · skip
            refine Fin.consE rfl (Fin.nil ?_)
            refine J.fieldAddr Ty.fd124_0 rfl rfl ?_
            exact J.finP rfl
          · skip
            refine Fin.consE rfl (Fin.nil ?_)
            refine J.load1 Ty.a34 rfl (fun w hw => (cell_of (hw.2.own (_, _) (by repeat first | exact .head _ | apply List.Mem.tail | apply List.mem_append_right))).trans (by exact rfl)) rfl ?_
            exact J.finP rfl
          · skip
            refine Fin.consE rfl (Fin.consE rfl (Fin.nil ?_))
            refine J.callD Ty.bd60 rfl rfl (fun w1 hw => size_spec d s n p k w1 (St.owns (l1 := [(d, dkO s n (p) (k)), (s, dkS (B))]) (l := [(lb, cb [.pointer (some ⟨d, 0, none⟩), .int .u64 ((gen : Nat) : Int), .int .i64 ((used : Nat) : Int), .int .i64 ((cnt_ : Nat) : Int), .bool false] 124)]) (hw.perm (by (refine perm_cnt (fun _ => ?_)); simp only [cntB_append, cntB_cons, cntB_nil, Nat.add_zero, Nat.zero_add]; try ac_rfl)))) ?_
            exact J.finQ rfl
          · skip
            refine Fin.consE rfl (Fin.nil ?_)
            (first | refine J.subN rfl rfl (by omega) (by omega) rfl ?_ | refine J.bin rfl rfl rfl rfl ?_)
            exact J.finP rfl
          · skip
            refine Fin.nil ?_
            refine J.move rfl rfl ?_
            exact J.finP rfl
          · skip
            refine Fin.consE rfl (Fin.nil ?_)
            refine J.nilCheck rfl rfl ?_
            exact J.finP rfl
          · skip
            refine Fin.consE rfl (Fin.nil ?_)
            refine J.fieldAddr Ty.fd124_2 rfl rfl ?_
            exact J.finP rfl
          · skip
            refine Fin.consE rfl (Fin.nil ?_)
            refine J.load1 Ty.a3 rfl (fun w hw => (cell_of (hw.2.own (_, _) (by repeat first | exact .head _ | apply List.Mem.tail | apply List.mem_append_right))).trans (by exact rfl)) rfl ?_
            exact J.finP rfl
          · skip
            refine Fin.consE rfl (Fin.consE rfl (Fin.nil ?_))
            (first | refine J.subN rfl rfl (by omega) (by omega) rfl ?_ | refine J.bin rfl rfl rfl rfl ?_)
            exact J.finP rfl
          · skip
            refine Fin.consE rfl (Fin.consE rfl (Fin.nil ?_))
            refine J.bin rfl rfl rfl rfl ?_
            refine J.name 38 rfl (show Value.bool _ = .bool false by simp <;> omega) ?_
            exact J.finP rfl
        case htail =>
          refine Fin.consE rfl (Fin.consE rfl (Fin.consE rfl (Fin.consE rfl (Fin.consE rfl (Fin.consE rfl (Fin.consE rfl (Fin.consE rfl (Fin.consE rfl (Fin.consE rfl (Fin.consE rfl (Fin.consE rfl (Fin.consE rfl (Fin.consE rfl (Fin.consE rfl (Fin.nil ?_)))))))))))))))
          refine J.assign rfl rfl ?_
          refine J.nil ?_
          refine JX.thenN (hK7 _ _ ?_)
          first | refine JC.condF rfl ?_ | refine JC.cond rfl (fun h => by first | (exfalso; simp at h; omega) | (simp at h)) (fun _ => ?_)
          refine JC.skip ?_
          refine JX.blockN ?_
          refine JX.thenN (hK1 _ _ ?_)
          refine JC.seq (fun K9 hK9 => ?_)
          refine JC.region ?_
          refine J.move rfl rfl ?_
          refine J.lenS rfl Ty.u26 rfl rfl ?_
          refine J.bin rfl rfl rfl rfl ?_
          refine J.convInt Ty.u3 Ty.u5 rfl rfl ?_
          refine J.name 42 rfl (hi_byte rec_.length) ?_
          refine J.move rfl rfl ?_
          refine J.lenS rfl Ty.u26 rfl rfl ?_
          refine J.convInt Ty.u3 Ty.u5 rfl rfl ?_
          refine J.name 45 rfl (lo_byte rec_.length) ?_
          refine J.buildSl Ty.el26 Ty.s5 Ty.z5 rfl rfl rfl rfl rfl rfl rfl (fun b46 => ?_)
          refine J.move rfl rfl ?_
          refine J.append (lp := [(b46, cb [u8 (UInt8.ofNat (rec_.length / 256)), u8 (UInt8.ofNat (rec_.length % 256))] 5)]) (xs := [u8 (UInt8.ofNat (rec_.length / 256)), u8 (UInt8.ofNat (rec_.length % 256))]) (ys := rec_.map u8) (k := 2) (m := rec_.length) Ty.el26 Ty.s5 Ty.b5 Ty.z5 rfl (.inl ⟨5, Ty.u26⟩) rfl rfl ⟨rfl, .inr ⟨b46, 2, [], rfl, rfl, rfl, Nat.le_refl _⟩⟩ (fun w1 hw => .inl (hr.st hoff hw)) (by simp) (one_u8 _) (by omega) (by omega) rfl (fun v48 lp48 hv48 => ?_)
          obtain ⟨a48, c48, rfl, hc48⟩ := hv48.form
          have hv48 : Vec 5 1 (.slice a48 (2 + rec_.length) c48) (2 + rec_.length) ((payload rec_).map u8) lp48 := hv48
          refine J.perm ((lb, cb [.pointer (some ⟨d, 0, none⟩), .int .u64 ((gen : Nat) : Int), .int .i64 ((used : Nat) : Int), .int .i64 ((cnt_ : Nat) : Int), .bool false] 124) :: (d, dkO s n (p) (k)) :: (s, dkS (B)) :: lp48) (by (refine perm_cnt (fun _ => ?_)); simp only [cntB_append, cntB_cons, cntB_nil, Nat.add_zero, Nat.zero_add]; try ac_rfl) ?_
          refine J.assign rfl rfl ?_
          refine J.nil ?_
          refine JX.thenN (hK9 _ _ ?_)
          refine JC.seq (fun K10 hK10 => ?_)
          refine JC.seq (fun K11 hK11 => ?_)
          refine JC.region ?_
          refine J.move rfl rfl ?_
          refine J.lenS rfl Ty.u26 rfl rfl ?_
          refine J.callB (fun w1 w2 hw hb => hw.step hb) Ty.bd63 rfl rfl (fun w1 hw => need_spec rec_.length w1 (by omega)) ?_
          refine J.move rfl rfl ?_
          refine J.nil ?_
          refine JX.thenN (hK11 _ _ ?_)
          refine JC.block ?_
          refine JC.conseq (JC.cov (f := (fun st => [(0, .pointer (some ⟨lb, 0, none⟩)), (1, .slice a rec_.length c), (5, .slice a48 (2 + rec_.length) c48), (51, .int .i64 ((needN rec_.length : Nat) : Int)), (52, .int .i64 ((st.1 : Nat) : Int))]) ((0, B, p, k) : Nat × List UInt8 × Int × Int)) ⟨rfl, rfl, rfl, rfl, rfl, trivial⟩ (JC.loop (α := Nat × List UInt8 × Int × Int) (fun st => [(0, .pointer (some ⟨lb, 0, none⟩)), (1, .slice a rec_.length c), (5, .slice a48 (2 + rec_.length) c48), (51, .int .i64 ((needN rec_.length : Nat) : Int)), (52, .int .i64 ((st.1 : Nat) : Int))]) (fun st w' => (st.1 ≤ needN rec_.length ∧ st.2.1.length = 64 * n ∧ 0 ≤ st.2.2.2 ∧ st.2.2.2 ≤ k + st.1 ∧ st.2.2.1 < 9223372036854775808 ∧ dws ⟨B, p, k⟩ (planP gen used cnt_ rec_) = dws ⟨st.2.1, st.2.2.1, st.2.2.2⟩ ((planP gen used cnt_ rec_).drop st.1)) ∧ St w [lb, d, s] ((lb, cb [.pointer (some ⟨d, 0, none⟩), .int .u64 ((gen : Nat) : Int), .int .i64 ((used : Nat) : Int), .int .i64 ((cnt_ : Nat) : Int), .bool false] 124) :: (d, dkO s n (st.2.2.1) (st.2.2.2)) :: (s, dkS (st.2.1)) :: lp48) w') (fun st => needN rec_.length - st.1) ((0, B, p, k) : Nat × List UInt8 × Int × Int) (fun st => ?_))) (fun w hw => ⟨⟨Nat.zero_le _, hB, hk, by simp, hp, rfl⟩, hw⟩)
          obtain ⟨i, B1, p1, k1⟩ := st
          refine JC.pr (fun hx => ?_)
          obtain ⟨hi, hB1, hk10, hk11, hp1, hdw⟩ := hx
          simp only at hi hB1 hk10 hk11 hp1 hdw ⊢
          refine JC.seq (fun K12 hK12 => ?_)
          refine JC.region ?_
          refine J.bin rfl rfl rfl rfl ?_
          refine J.nil ?_
          refine JX.thenN (hK12 _ _ ?_)
          refine JC.seq (fun K13 hK13 => ?_)
          refine JC.cond rfl (fun h4 => ?_) (fun h4 => ?_)
          · skip
            have hlt : i < needN rec_.length := by simp at h4; omega
            have hlt64 : 64 * i < 2 + rec_.length := by unfold needN at hlt; omega
            refine JC.skip ?_
            refine JX.thenN (hK13 _ _ ?_)
            refine JC.seq (fun K14 hK14 => ?_)
            refine JC.block ?_
            refine JC.seq (fun K15 hK15 => ?_)
            refine JC.region ?_
            refine J.move rfl rfl ?_
            refine J.assign rfl rfl ?_
            refine J.nil ?_
            refine JX.thenN (hK15 _ _ ?_)
            refine JC.seq (fun K16 hK16 => ?_)
            refine JC.region ?_
            refine J.move rfl rfl ?_
            refine J.move rfl rfl ?_
            (first | refine J.mulN rfl rfl (by omega) (by omega) rfl ?_ | refine J.bin rfl rfl rfl rfl ?_)
            refine J.move rfl rfl ?_
            (first | refine J.addN rfl rfl (by omega) (by omega) rfl ?_ | refine J.bin rfl rfl rfl rfl ?_)
            refine J.mulN rfl rfl (by omega) (by omega) rfl ?_
            refine J.move rfl rfl ?_
            refine J.lenS rfl Ty.u26 rfl rfl ?_
            refine J.min2 rfl rfl rfl ?_
            refine J.sliceS (i := 64 * i) (j := min (64 * (i + 1)) (2 + rec_.length)) Ty.el26 Ty.s5 rfl rfl rfl (by simp only [bnd]; rw [if_pos (by omega)]; congr 1 <;> omega) (by simp only [bnd]; rw [if_pos (by omega)]; congr 1 <;> omega) (by omega) (by omega) (by omega) rfl ?_
            refine J.assign rfl rfl ?_
            refine J.nil ?_
            refine JX.thenN (hK16 _ _ ?_)
            refine JC.seq (fun K17 hK17 => ?_)
            by_cases hp0 : p1 = 0
            · skip
              subst hp0
              have happ := appendP_torn (n := n) (q := ⟨gen, used, cnt_, recs⟩) (σ := ⟨B, p, k⟩) hlong hfull (hdw.trans (by rw [plan_at hlt]; exact dws_cons_torn))
              apply JC.drawL 12 [Eqv (_), Eqv (_), Eqv (_), Eqv (_), Eqv (_), Eqv (_), Eqv (_), Eqv (_), Eqv (_), Eqv (_), Eqv (_), Eqv (_)] Ty.mixed rfl rfl rfl (by kernel_rfl) rfl rfl (fun w w' hw hb => hw.step hb) ⟨fun _ _ _ h _ => h, fun _ _ _ h _ => h, fun _ _ _ h _ => h, fun _ _ _ h _ => h, fun _ _ _ h _ => h, fun _ _ _ h _ => h, fun _ _ _ h _ => h, fun _ _ _ h _ => h, fun _ _ _ h _ => h, fun _ _ _ h _ => h, fun _ _ _ h _ => h, fun _ _ _ h _ => h, trivial⟩ ?hstep ?htail
              case hstep =>
                refine ⟨fun wi => ?_, fun wi => ?_, fun wi => ?_, fun wi => ?_, fun wi => ?_, fun wi => ?_, fun wi => ?_, fun wi => ?_, fun wi => ?_, fun wi => ?_, fun wi => ?_, fun wi => ?_, trivial⟩
                · skip
                  refine Fin.nil ?_
                  refine J.move rfl rfl ?_
                  exact J.finP rfl
                · skip
                  refine Fin.consE rfl (Fin.nil ?_)
                  refine J.nilCheck rfl rfl ?_
                  exact J.finP rfl
                · skip
                  refine Fin.consE rfl (Fin.nil ?_)
                  refine J.fieldAddr Ty.fd124_0 rfl rfl ?_
                  exact J.finP rfl
                · skip
                  refine Fin.consE rfl (Fin.nil ?_)
                  refine J.load1 Ty.a34 rfl (fun w hw => (cell_of (hw.2.own (_, _) (by repeat first | exact .head _ | apply List.Mem.tail | apply List.mem_append_right))).trans (by exact rfl)) rfl ?_
                  exact J.finP rfl
                · skip
                  refine Fin.nil ?_
                  refine J.move rfl rfl ?_
                  exact J.finP rfl
                · skip
                  refine Fin.consE rfl (Fin.nil ?_)
                  refine J.nilCheck rfl rfl ?_
                  exact J.finP rfl
                · skip
                  refine Fin.consE rfl (Fin.nil ?_)
                  refine J.fieldAddr Ty.fd124_2 rfl rfl ?_
                  exact J.finP rfl
                · skip
                  refine Fin.consE rfl (Fin.nil ?_)
                  refine J.load1 Ty.a3 rfl (fun w hw => (cell_of (hw.2.own (_, _) (by repeat first | exact .head _ | apply List.Mem.tail | apply List.mem_append_right))).trans (by exact rfl)) rfl ?_
                  exact J.finP rfl
                · skip
                  refine Fin.consE rfl (Fin.nil ?_)
                  refine J.addN rfl rfl (by omega) (by omega) rfl ?_
                  exact J.finP rfl
                · skip
                  refine Fin.nil ?_
                  refine J.move rfl rfl ?_
                  exact J.finP rfl
                · skip
                  refine Fin.consE rfl (Fin.consE rfl (Fin.nil ?_))
                  refine J.addN rfl rfl (by omega) (by omega) rfl ?_
                  refine J.name 75 rfl (show Value.int .i64 _ = .int .i64 ((2 + used + i : Nat) : Int) by congr 1) ?_
                  exact J.finP rfl
                · skip
                  refine Fin.nil ?_
                  refine J.move rfl rfl ?_
                  exact J.finP rfl
              case htail =>
                refine Fin.consE rfl (Fin.consE rfl (Fin.consE rfl (Fin.consE rfl (Fin.consE rfl (Fin.consE rfl (Fin.consE rfl (Fin.consE rfl (Fin.consE rfl (Fin.consE rfl (Fin.consE rfl (Fin.consE rfl (Fin.nil ?_))))))))))))
                refine J.perm ([(d, dkO s n (0) (k1)), (s, dkS (B1))] ++ ((lb, cb [.pointer (some ⟨d, 0, none⟩), .int .u64 ((gen : Nat) : Int), .int .i64 ((used : Nat) : Int), .int .i64 ((cnt_ : Nat) : Int), .bool false] 124) :: lp48)) (by (refine perm_cnt (fun _ => ?_)); simp only [cntB_append, cntB_cons, cntB_nil, Nat.add_zero, Nat.zero_add]; try ac_rfl) ?_
                refine J.callB (fun w1 w2 hw hb => hw.step hb) Ty.bd68 rfl rfl (fun w1 hw => write_down d s n k1 w1 (St.owns (l1 := [(d, dkO s n (0) (k1)), (s, dkS (B1))]) hw) ((2 + used + i : Nat) : Int) _ (min (64 * (i + 1)) (2 + rec_.length) - 64 * i) (c48 - 64 * i) (by omega) (by omega) (by omega)) ?_
                refine J.perm ((lb, cb [.pointer (some ⟨d, 0, none⟩), .int .u64 ((gen : Nat) : Int), .int .i64 ((used : Nat) : Int), .int .i64 ((cnt_ : Nat) : Int), .bool false] 124) :: (d, dkO s n (0) (k1)) :: (s, dkS (B1)) :: lp48) (by (refine perm_cnt (fun _ => ?_)); simp only [cntB_append, cntB_cons, cntB_nil, Nat.add_zero, Nat.zero_add]; try ac_rfl) ?_
                refine J.assign rfl rfl ?_
                refine J.nil ?_
                refine JX.thenN (hK17 _ _ ?_)
                refine JC.seq (fun K18 hK18 => ?_)
                refine JC.region ?_
                refine J.move rfl rfl ?_
                refine J.bin rfl rfl rfl rfl ?_
                refine J.nil ?_
                refine JX.thenN (hK18 _ _ ?_)
                first | refine JC.condT rfl ?_ | refine JC.cond rfl (fun _ => ?_) (fun h => by first | (exfalso; simp at h; omega) | (simp at h))
                refine JC.seq (fun K19 hK19 => ?_)
                refine JC.region ?_
                refine J.move rfl rfl ?_
                refine J.nilCheck rfl rfl ?_
                refine J.fieldAddr Ty.fd124_4 rfl rfl ?_
                refine J.storeO Ty.s4 rfl rfl rfl rfl (by simp [Value.oneCell']) (by repeat first | exact .here | apply Up.there) (by simp) ?_
                refine J.nil ?_
                refine JX.thenN (hK19 _ _ ?_)
                refine JC.seq (fun K20 hK20 => ?_)
                refine JC.region ?_
                refine J.move rfl rfl ?_
                refine J.assign rfl rfl ?_
                refine J.nil ?_
                refine JX.thenN (hK20 _ _ ?_)
                refine JC.ret ?_
                refine JX.blockR ?_
                refine JX.thenR ?_
                refine JX.thenR ?_
                refine JX.blockR ?_
                refine JX.thenR ?_
                refine JX.ret1 rfl rfl (fun w1 hw => ?_)
                rw [happ]
                first
                | exact ⟨rfl, hw⟩
                | exact ⟨rfl, hw.drop (.cons_cons _ (.cons_cons _ (.cons_cons _ (List.nil_sublist _))))⟩
            · skip
              apply JC.drawL 12 [Eqv (_), Eqv (_), Eqv (_), Eqv (_), Eqv (_), Eqv (_), Eqv (_), Eqv (_), Eqv (_), Eqv (_), Eqv (_), Eqv (_)] Ty.mixed rfl rfl rfl (by kernel_rfl) rfl rfl (fun w w' hw hb => hw.step hb) ⟨fun _ _ _ h _ => h, fun _ _ _ h _ => h, fun _ _ _ h _ => h, fun _ _ _ h _ => h, fun _ _ _ h _ => h, fun _ _ _ h _ => h, fun _ _ _ h _ => h, fun _ _ _ h _ => h, fun _ _ _ h _ => h, fun _ _ _ h _ => h, fun _ _ _ h _ => h, fun _ _ _ h _ => h, trivial⟩ ?hstep ?htail
              case hstep =>
                refine ⟨fun wi => ?_, fun wi => ?_, fun wi => ?_, fun wi => ?_, fun wi => ?_, fun wi => ?_, fun wi => ?_, fun wi => ?_, fun wi => ?_, fun wi => ?_, fun wi => ?_, fun wi => ?_, trivial⟩
                · skip
                  refine Fin.nil ?_
                  refine J.move rfl rfl ?_
                  exact J.finP rfl
                · skip
                  refine Fin.consE rfl (Fin.nil ?_)
                  refine J.nilCheck rfl rfl ?_
                  exact J.finP rfl
                · skip
                  refine Fin.consE rfl (Fin.nil ?_)
                  refine J.fieldAddr Ty.fd124_0 rfl rfl ?_
                  exact J.finP rfl
                · skip
                  refine Fin.consE rfl (Fin.nil ?_)
                  refine J.load1 Ty.a34 rfl (fun w hw => (cell_of (hw.2.own (_, _) (by repeat first | exact .head _ | apply List.Mem.tail | apply List.mem_append_right))).trans (by exact rfl)) rfl ?_
                  exact J.finP rfl
                · skip
                  refine Fin.nil ?_
                  refine J.move rfl rfl ?_
                  exact J.finP rfl
                · skip
                  refine Fin.consE rfl (Fin.nil ?_)
                  refine J.nilCheck rfl rfl ?_
                  exact J.finP rfl
                · skip
                  refine Fin.consE rfl (Fin.nil ?_)
                  refine J.fieldAddr Ty.fd124_2 rfl rfl ?_
                  exact J.finP rfl
                · skip
                  refine Fin.consE rfl (Fin.nil ?_)
                  refine J.load1 Ty.a3 rfl (fun w hw => (cell_of (hw.2.own (_, _) (by repeat first | exact .head _ | apply List.Mem.tail | apply List.mem_append_right))).trans (by exact rfl)) rfl ?_
                  exact J.finP rfl
                · skip
                  refine Fin.consE rfl (Fin.nil ?_)
                  refine J.addN rfl rfl (by omega) (by omega) rfl ?_
                  exact J.finP rfl
                · skip
                  refine Fin.nil ?_
                  refine J.move rfl rfl ?_
                  exact J.finP rfl
                · skip
                  refine Fin.consE rfl (Fin.consE rfl (Fin.nil ?_))
                  refine J.addN rfl rfl (by omega) (by omega) rfl ?_
                  refine J.name 75 rfl (show Value.int .i64 _ = .int .i64 ((2 + used + i : Nat) : Int) by congr 1) ?_
                  exact J.finP rfl
                · skip
                  refine Fin.nil ?_
                  refine J.move rfl rfl ?_
                  exact J.finP rfl
              case htail =>
                refine Fin.consE rfl (Fin.consE rfl (Fin.consE rfl (Fin.consE rfl (Fin.consE rfl (Fin.consE rfl (Fin.consE rfl (Fin.consE rfl (Fin.consE rfl (Fin.consE rfl (Fin.consE rfl (Fin.consE rfl (Fin.nil ?_))))))))))))
                refine J.perm ([(d, dkO s n (p1) (k1)), (s, dkS (B1))] ++ ((lb, cb [.pointer (some ⟨d, 0, none⟩), .int .u64 ((gen : Nat) : Int), .int .i64 ((used : Nat) : Int), .int .i64 ((cnt_ : Nat) : Int), .bool false] 124) :: lp48)) (by (refine perm_cnt (fun _ => ?_)); simp only [cntB_append, cntB_cons, cntB_nil, Nat.add_zero, Nat.zero_add]; try ac_rfl) ?_
                refine J.callT (l1 := [(d, dkO s n (p1) (k1)), (s, dkS (B1))]) (L := [(d, dkO s n (if 0 < p1 then p1 - 1 else p1) (k1 + 1)), (s, dkS (put B1 (2 + used + i) (piece (payload rec_) i)))]) Ty.bd68 rfl rfl (fun w1 hw => write_done d s n B1 (piece (payload rec_) i) p1 k1 (2 + used + i) (if c48 = 64 * i then a48 else a48.map (·.add (64 * i * 1))) (min (64 * (i + 1)) (2 + rec_.length) - 64 * i) (c48 - 64 * i) w1 hw.owns hB1 hk10 (by omega) (by omega) (by omega) (by rw [piece_length, payload_length]) (by
                    have h1 := (hv48.row (l := [(lb, cb [.pointer (some ⟨d, 0, none⟩), .int .u64 ((gen : Nat) : Int), .int .i64 ((used : Nat) : Int), .int .i64 ((cnt_ : Nat) : Int), .bool false] 124), (d, dkO s n (p1) (k1)), (s, dkS (B1))]) (hw.perm (by (refine perm_cnt (fun _ => ?_)); simp only [cntB_append, cntB_cons, cntB_nil, Nat.add_zero, Nat.zero_add]; try ac_rfl))).slice (sz := 1) (i := 64 * i) (j := min (64 * (i + 1)) (2 + rec_.length)) (by rw [List.length_map, payload_length, Nat.mul_one]) (by omega) (by omega)
                    have h2 : ((payload rec_).drop (64 * i)).take (min (64 * (i + 1)) (2 + rec_.length) - 64 * i) = piece (payload rec_) i := by
                      have h3 : (payload rec_).length = 2 + rec_.length := payload_length rec_
                      rw [piece]
                      by_cases h4 : 64 * (i + 1) ≤ 2 + rec_.length
                      · congr 1; omega
                      · rw [List.take_of_length_le (by simp; omega), List.take_of_length_le (by simp; omega)]
                    have h5 : List.take ((min (64 * (i + 1)) (2 + rec_.length) - 64 * i) * 1) (List.drop (64 * i * 1) ((payload rec_).map u8)) = (piece (payload rec_) i).map u8 := by
                      rw [Nat.mul_one, Nat.mul_one, ← List.map_drop, ← List.map_take, h2]
                    rw [h5] at h1
                    exact h1) (vec_off (l1 := [(d, dkO s n (p1) (k1)), (s, dkS (B1))]) (l := [(lb, cb [.pointer (some ⟨d, 0, none⟩), .int .u64 ((gen : Nat) : Int), .int .i64 ((used : Nat) : Int), .int .i64 ((cnt_ : Nat) : Int), .bool false] 124)]) hv48 (hw.perm (by (refine perm_cnt (fun _ => ?_)); simp only [cntB_append, cntB_cons, cntB_nil, Nat.add_zero, Nat.zero_add]; try ac_rfl)) _ _ _ _) hp1 hp0) ?_
                refine J.perm ((lb, cb [.pointer (some ⟨d, 0, none⟩), .int .u64 ((gen : Nat) : Int), .int .i64 ((used : Nat) : Int), .int .i64 ((cnt_ : Nat) : Int), .bool false] 124) :: (d, dkO s n (if 0 < p1 then p1 - 1 else p1) (k1 + 1)) :: (s, dkS (put B1 (2 + used + i) (piece (payload rec_) i))) :: lp48) (by (refine perm_cnt (fun _ => ?_)); simp only [cntB_append, cntB_cons, cntB_nil, Nat.add_zero, Nat.zero_add]; try ac_rfl) ?_
                refine J.assign rfl rfl ?_
                refine J.nil ?_
                refine JX.thenN (hK17 _ _ ?_)
                refine JC.seq (fun K21 hK21 => ?_)
                refine JC.region ?_
                refine J.move rfl rfl ?_
                refine J.bin rfl rfl rfl rfl ?_
                refine J.nil ?_
                refine JX.thenN (hK21 _ _ ?_)
                first | refine JC.condF rfl ?_ | refine JC.cond rfl (fun h => by first | (exfalso; simp at h; omega) | (simp at h)) (fun _ => ?_)
                refine JC.skip ?_
                refine JX.blockN ?_
                refine JX.thenN (hK14 _ _ ?_)
                refine JC.region ?_
                (first | refine J.addN rfl rfl (by omega) (by omega) rfl ?_ | refine J.bin rfl rfl rfl rfl ?_)
                refine J.move rfl rfl ?_
                refine J.nil ?_
                refine JX.thenN ?_
                refine JX.again (i + 1, put B1 (2 + used + i) (piece (payload rec_) i), if 0 < p1 then p1 - 1 else p1, k1 + 1) ?_ ?_ ?_
                · simp only; omega
                · exact ⟨rfl, rfl, rfl, rfl, rfl, trivial⟩
                · exact fun w1 hw => ⟨⟨hlt, put_length hB1 (by omega) (by rw [piece_length]; omega), by simp only; omega, by simp only; omega, by simp only; split <;> omega, by simp only; rw [hdw, plan_at hlt, dws_cons hp0]; rfl⟩, hw⟩
          · skip
            obtain rfl : i = needN rec_.length := by simp at h4; omega
            refine JC.exit ?_
            refine JX.thenE ?_
            refine JX.thenE ?_
            refine JX.blockE ?_
            refine JX.thenN (hK10 _ _ ?_)
            refine JC.seq (fun K22 hK22 => ?_)
            apply JC.drawL 20 [Eqv (_), Eqv (_), Eqv (_), Eqv (_), Eqv (_), Eqv (_), Eqv (_), Eqv (_), Eqv (_), Eqv (_), Eqv (_), Eqv (_), Eqv (_), Eqv (_), Eqv (_), Eqv (_), Eqv (_), Eqv (_), Eqv (_), Eqv (_)] Ty.mixed rfl rfl rfl (by kernel_rfl) rfl rfl (fun w w' hw hb => hw.step hb) ⟨fun _ _ _ h _ => h, fun _ _ _ h _ => h, fun _ _ _ h _ => h, fun _ _ _ h _ => h, fun _ _ _ h _ => h, fun _ _ _ h _ => h, fun _ _ _ h _ => h, fun _ _ _ h _ => h, fun _ _ _ h _ => h, fun _ _ _ h _ => h, fun _ _ _ h _ => h, fun _ _ _ h _ => h, fun _ _ _ h _ => h, fun _ _ _ h _ => h, fun _ _ _ h _ => h, fun _ _ _ h _ => h, fun _ _ _ h _ => h, fun _ _ _ h _ => h, fun _ _ _ h _ => h, fun _ _ _ h _ => h, trivial⟩ ?hstep ?htail
            case hstep =>
              refine ⟨fun wi => ?_, fun wi => ?_, fun wi => ?_, fun wi => ?_, fun wi => ?_, fun wi => ?_, fun wi => ?_, fun wi => ?_, fun wi => ?_, fun wi => ?_, fun wi => ?_, fun wi => ?_, fun wi => ?_, fun wi => ?_, fun wi => ?_, fun wi => ?_, fun wi => ?_, fun wi => ?_, fun wi => ?_, fun wi => ?_, trivial⟩
              · skip
                refine Fin.nil ?_
                refine J.move rfl rfl ?_
                exact J.finP rfl
              · skip
                refine Fin.consE rfl (Fin.nil ?_)
                refine J.nilCheck rfl rfl ?_
                exact J.finP rfl
              · skip
                refine Fin.consE rfl (Fin.nil ?_)
                refine J.fieldAddr Ty.fd124_1 rfl rfl ?_
                exact J.finP rfl
              · skip
                refine Fin.consE rfl (Fin.nil ?_)
                refine J.load1 Ty.a81 rfl (fun w hw => (cell_of (hw.2.own (_, _) (by repeat first | exact .head _ | apply List.Mem.tail | apply List.mem_append_right))).trans (by exact rfl)) rfl ?_
                exact J.finP rfl
              · skip
                refine Fin.consE rfl (Fin.nil ?_)
                refine J.bin rfl rfl rfl rfl ?_
                refine J.name 89 rfl (congrArg (Value.int .u64) (show _ = ((gen + 1 : Nat) : Int) from wrap_u64 (by omega) (by omega))) ?_
                exact J.finP rfl
              · skip
                refine Fin.nil ?_
                refine J.move rfl rfl ?_
                exact J.finP rfl
              · skip
                refine Fin.consE rfl (Fin.nil ?_)
                refine J.nilCheck rfl rfl ?_
                exact J.finP rfl
              · skip
                refine Fin.consE rfl (Fin.nil ?_)
                refine J.fieldAddr Ty.fd124_2 rfl rfl ?_
                exact J.finP rfl
              · skip
                refine Fin.consE rfl (Fin.nil ?_)
                refine J.load1 Ty.a3 rfl (fun w hw => (cell_of (hw.2.own (_, _) (by repeat first | exact .head _ | apply List.Mem.tail | apply List.mem_append_right))).trans (by exact rfl)) rfl ?_
                exact J.finP rfl
              · skip
                refine Fin.nil ?_
                refine J.move rfl rfl ?_
                exact J.finP rfl
              · skip
                refine Fin.consE rfl (Fin.nil ?_)
                refine J.lenS rfl Ty.u26 rfl rfl ?_
                exact J.finP rfl
              · skip
                refine Fin.consE rfl (Fin.nil ?_)
                refine J.callD Ty.bd63 rfl rfl (fun w1 hw => need_spec rec_.length w1 (by omega)) ?_
                exact J.finQ rfl
              · skip
                refine Fin.consE rfl (Fin.consE rfl (Fin.nil ?_))
                (first | refine J.addN rfl rfl (by omega) (by omega) rfl ?_ | refine J.bin rfl rfl rfl rfl ?_)
                exact J.finP rfl
              · skip
                refine Fin.consE rfl (Fin.nil ?_)
                refine J.convInt Ty.u3 Ty.u81 rfl rfl ?_
                refine J.name 98 rfl (congrArg (Value.int .u64) (show _ = ((used + needN rec_.length : Nat) : Int) from wrap_u64 (by omega) (by omega))) ?_
                exact J.finP rfl
              · skip
                refine Fin.nil ?_
                refine J.move rfl rfl ?_
                exact J.finP rfl
              · skip
                refine Fin.consE rfl (Fin.nil ?_)
                refine J.nilCheck rfl rfl ?_
                exact J.finP rfl
              · skip
                refine Fin.consE rfl (Fin.nil ?_)
                refine J.fieldAddr Ty.fd124_3 rfl rfl ?_
                exact J.finP rfl
              · skip
                refine Fin.consE rfl (Fin.nil ?_)
                refine J.load1 Ty.a3 rfl (fun w hw => (cell_of (hw.2.own (_, _) (by repeat first | exact .head _ | apply List.Mem.tail | apply List.mem_append_right))).trans (by exact rfl)) rfl ?_
                exact J.finP rfl
              · skip
                refine Fin.consE rfl (Fin.nil ?_)
                (first | refine J.addN rfl rfl (by omega) (by omega) rfl ?_ | refine J.bin rfl rfl rfl rfl ?_)
                exact J.finP rfl
              · skip
                refine Fin.consE rfl (Fin.nil ?_)
                refine J.convInt Ty.u3 Ty.u81 rfl rfl ?_
                refine J.name 104 rfl (congrArg (Value.int .u64) (show _ = ((cnt_ + 1 : Nat) : Int) from wrap_u64 (by omega) (by omega))) ?_
                exact J.finP rfl
            case htail =>
              refine Fin.consE rfl (Fin.consE rfl (Fin.consE rfl (Fin.consE rfl (Fin.consE rfl (Fin.consE rfl (Fin.consE rfl (Fin.consE rfl (Fin.consE rfl (Fin.consE rfl (Fin.consE rfl (Fin.consE rfl (Fin.consE rfl (Fin.consE rfl (Fin.consE rfl (Fin.consE rfl (Fin.consE rfl (Fin.consE rfl (Fin.consE rfl (Fin.consE rfl (Fin.nil ?_))))))))))))))))))))
              refine J.buildSl Ty.el118 Ty.s81 Ty.z81 rfl rfl rfl rfl rfl rfl rfl (fun b105 => ?_)
              refine J.perm ([] ++ ((b105, cb [.int .u64 ((gen + 1 : Nat) : Int), .int .u64 ((used + needN rec_.length : Nat) : Int), .int .u64 ((cnt_ + 1 : Nat) : Int)] 81) :: (lb, cb [.pointer (some ⟨d, 0, none⟩), .int .u64 ((gen : Nat) : Int), .int .i64 ((used : Nat) : Int), .int .i64 ((cnt_ : Nat) : Int), .bool false] 124) :: (d, dkO s n (p1) (k1)) :: (s, dkS (B1)) :: lp48)) (.refl _) ?_
              refine J.callS (l1 := []) (l := (b105, cb [.int .u64 ((gen + 1 : Nat) : Int), .int .u64 ((used + needN rec_.length : Nat) : Int), .int .u64 ((cnt_ + 1 : Nat) : Int)] 81) :: (lb, cb [.pointer (some ⟨d, 0, none⟩), .int .u64 ((gen : Nat) : Int), .int .i64 ((used : Nat) : Int), .int .i64 ((cnt_ : Nat) : Int), .bool false] 124) :: (d, dkO s n (p1) (k1)) :: (s, dkS (B1)) :: lp48) Ty.bd69 rfl rfl (fun w1 hw => laid_spec _ [gen + 1, used + needN rec_.length, cnt_ + 1] w1 (Row.own (cs := [.int .u64 ((gen + 1 : Nat) : Int), .int .u64 ((used + needN rec_.length : Nat) : Int), .int .u64 ((cnt_ + 1 : Nat) : Int)]) (tb := 81) (fr := (0, 0)) hw (.head _) rfl (Nat.le_refl _)) (by simp)) (fun x hv106 => ?_)
              obtain ⟨v106, lp106⟩ := x
              simp only at hv106 ⊢
              obtain ⟨a106, c106, rfl, hc106⟩ := hv106.form
              refine J.perm ((lb, cb [.pointer (some ⟨d, 0, none⟩), .int .u64 ((gen : Nat) : Int), .int .i64 ((used : Nat) : Int), .int .i64 ((cnt_ : Nat) : Int), .bool false] 124) :: (d, dkO s n (p1) (k1)) :: (s, dkS (B1)) :: (lp106 ++ (b105, cb [.int .u64 ((gen + 1 : Nat) : Int), .int .u64 ((used + needN rec_.length : Nat) : Int), .int .u64 ((cnt_ + 1 : Nat) : Int)] 81) :: lp48)) (by (refine perm_cnt (fun _ => ?_)); simp only [cntB_append, cntB_cons, cntB_nil, Nat.add_zero, Nat.zero_add]; try ac_rfl) ?_
              refine J.assign rfl rfl ?_
              refine J.nil ?_
              refine JX.thenN (hK22 _ _ ?_)
              refine JC.seq (fun K23 hK23 => ?_)
              refine JC.seq (fun K24 hK24 => ?_)
              by_cases hp0 : p1 = 0
              · skip
                subst hp0
                have happ := appendP_torn (n := n) (q := ⟨gen, used, cnt_, recs⟩) (σ := ⟨B, p, k⟩) hlong hfull (hdw.trans (by rw [plan_last]; exact dws_cons_torn))
                apply JC.drawL 12 [Eqv (_), Eqv (_), Eqv (_), Eqv (_), Eqv (_), Eqv (_), Eqv (_), Eqv (_), Eqv (_), Eqv (_), Eqv (_), Eqv (_)] Ty.mixed rfl rfl rfl (by kernel_rfl) rfl rfl (fun w w' hw hb => hw.step hb) ⟨fun _ _ _ h _ => h, fun _ _ _ h _ => h, fun _ _ _ h _ => h, fun _ _ _ h _ => h, fun _ _ _ h _ => h, fun _ _ _ h _ => h, fun _ _ _ h _ => h, fun _ _ _ h _ => h, fun _ _ _ h _ => h, fun _ _ _ h _ => h, fun _ _ _ h _ => h, fun _ _ _ h _ => h, trivial⟩ ?hstep ?htail
                case hstep =>
                  refine ⟨fun wi => ?_, fun wi => ?_, fun wi => ?_, fun wi => ?_, fun wi => ?_, fun wi => ?_, fun wi => ?_, fun wi => ?_, fun wi => ?_, fun wi => ?_, fun wi => ?_, fun wi => ?_, trivial⟩
                  · skip
                    refine Fin.nil ?_
                    refine J.move rfl rfl ?_
                    exact J.finP rfl
                  · skip
                    refine Fin.consE rfl (Fin.nil ?_)
                    refine J.nilCheck rfl rfl ?_
                    exact J.finP rfl
                  · skip
                    refine Fin.consE rfl (Fin.nil ?_)
                    refine J.fieldAddr Ty.fd124_0 rfl rfl ?_
                    exact J.finP rfl
                  · skip
                    refine Fin.consE rfl (Fin.nil ?_)
                    refine J.load1 Ty.a34 rfl (fun w hw => (cell_of (hw.2.own (_, _) (by repeat first | exact .head _ | apply List.Mem.tail | apply List.mem_append_right))).trans (by exact rfl)) rfl ?_
                    exact J.finP rfl
                  · skip
                    refine Fin.nil ?_
                    refine J.move rfl rfl ?_
                    exact J.finP rfl
                  · skip
                    refine Fin.consE rfl (Fin.nil ?_)
                    refine J.nilCheck rfl rfl ?_
                    exact J.finP rfl
                  · skip
                    refine Fin.consE rfl (Fin.nil ?_)
                    refine J.fieldAddr Ty.fd124_1 rfl rfl ?_
                    exact J.finP rfl
                  · skip
                    refine Fin.consE rfl (Fin.nil ?_)
                    refine J.load1 Ty.a81 rfl (fun w hw => (cell_of (hw.2.own (_, _) (by repeat first | exact .head _ | apply List.Mem.tail | apply List.mem_append_right))).trans (by exact rfl)) rfl ?_
                    exact J.finP rfl
                  · skip
                    refine Fin.consE rfl (Fin.nil ?_)
                    refine J.bin rfl rfl rfl rfl ?_
                    refine J.name 115 rfl (congrArg (Value.int .u64) (show _ = ((gen + 1 : Nat) : Int) from wrap_u64 (by omega) (by omega))) ?_
                    exact J.finP rfl
                  · skip
                    refine Fin.consE rfl (Fin.nil ?_)
                    refine J.bin rfl rfl rfl rfl ?_
                    refine J.name 116 rfl (congrArg (Value.int .u64) (show _ = (((gen + 1) % 2 : Nat) : Int) from rfl)) ?_
                    exact J.finP rfl
                  · skip
                    refine Fin.consE rfl (Fin.nil ?_)
                    refine J.convInt Ty.u81 Ty.u3 rfl rfl ?_
                    refine J.name 117 rfl (congrArg (Value.int .i64) (show _ = (((gen + 1) % 2 : Nat) : Int) from wrap_i64 (by omega) (by omega))) ?_
                    exact J.finP rfl
                  · skip
                    refine Fin.nil ?_
                    refine J.move rfl rfl ?_
                    exact J.finP rfl
                case htail =>
                  refine Fin.consE rfl (Fin.consE rfl (Fin.consE rfl (Fin.consE rfl (Fin.consE rfl (Fin.consE rfl (Fin.consE rfl (Fin.consE rfl (Fin.consE rfl (Fin.consE rfl (Fin.consE rfl (Fin.consE rfl (Fin.nil ?_))))))))))))
                  refine J.perm ([(d, dkO s n (0) (k1)), (s, dkS (B1))] ++ ((lb, cb [.pointer (some ⟨d, 0, none⟩), .int .u64 ((gen : Nat) : Int), .int .i64 ((used : Nat) : Int), .int .i64 ((cnt_ : Nat) : Int), .bool false] 124) :: (lp106 ++ (b105, cb [.int .u64 ((gen + 1 : Nat) : Int), .int .u64 ((used + needN rec_.length : Nat) : Int), .int .u64 ((cnt_ + 1 : Nat) : Int)] 81) :: lp48))) (by (refine perm_cnt (fun _ => ?_)); simp only [cntB_append, cntB_cons, cntB_nil, Nat.add_zero, Nat.zero_add]; try ac_rfl) ?_
                  refine J.callB (fun w1 w2 hw hb => hw.step hb) Ty.bd68 rfl rfl (fun w1 hw => write_down d s n k1 w1 (St.owns (l1 := [(d, dkO s n (0) (k1)), (s, dkS (B1))]) hw) (((gen + 1) % 2 : Nat) : Int) _ 24 c106 (by omega) (by omega) (by omega)) ?_
                  refine J.perm ((lb, cb [.pointer (some ⟨d, 0, none⟩), .int .u64 ((gen : Nat) : Int), .int .i64 ((used : Nat) : Int), .int .i64 ((cnt_ : Nat) : Int), .bool false] 124) :: (d, dkO s n (0) (k1)) :: (s, dkS (B1)) :: (lp106 ++ (b105, cb [.int .u64 ((gen + 1 : Nat) : Int), .int .u64 ((used + needN rec_.length : Nat) : Int), .int .u64 ((cnt_ + 1 : Nat) : Int)] 81) :: lp48)) (by (refine perm_cnt (fun _ => ?_)); simp only [cntB_append, cntB_cons, cntB_nil, Nat.add_zero, Nat.zero_add]; try ac_rfl) ?_
                  refine J.assign rfl rfl ?_
                  refine J.nil ?_
                  refine JX.thenN (hK24 _ _ ?_)
                  refine JC.seq (fun K25 hK25 => ?_)
                  refine JC.region ?_
                  refine J.move rfl rfl ?_
                  refine J.bin rfl rfl rfl rfl ?_
                  refine J.nil ?_
                  refine JX.thenN (hK25 _ _ ?_)
                  first | refine JC.condT rfl ?_ | refine JC.cond rfl (fun _ => ?_) (fun h => by first | (exfalso; simp at h; omega) | (simp at h))
                  refine JC.seq (fun K26 hK26 => ?_)
                  refine JC.region ?_
                  refine J.move rfl rfl ?_
                  refine J.nilCheck rfl rfl ?_
                  refine J.fieldAddr Ty.fd124_4 rfl rfl ?_
                  refine J.storeO Ty.s4 rfl rfl rfl rfl (by simp [Value.oneCell']) (by repeat first | exact .here | apply Up.there) (by simp) ?_
                  refine J.nil ?_
                  refine JX.thenN (hK26 _ _ ?_)
                  refine JC.seq (fun K27 hK27 => ?_)
                  refine JC.region ?_
                  refine J.move rfl rfl ?_
                  refine J.assign rfl rfl ?_
                  refine J.nil ?_
                  refine JX.thenN (hK27 _ _ ?_)
                  refine JC.ret ?_
                  refine JX.thenR ?_
                  refine JX.ret1 rfl rfl (fun w1 hw => ?_)
                  rw [happ]
                  first
                  | exact ⟨rfl, hw⟩
                  | exact ⟨rfl, hw.drop (.cons_cons _ (.cons_cons _ (.cons_cons _ (List.nil_sublist _))))⟩
              · skip
                have happ := appendP_ok (n := n) (q := ⟨gen, used, cnt_, recs⟩) (σ := ⟨B, p, k⟩) hlong hfull (hdw.trans (by rw [plan_last, dws_cons hp0]; exact dws_nil))
                apply JC.drawL 12 [Eqv (_), Eqv (_), Eqv (_), Eqv (_), Eqv (_), Eqv (_), Eqv (_), Eqv (_), Eqv (_), Eqv (_), Eqv (_), Eqv (_)] Ty.mixed rfl rfl rfl (by kernel_rfl) rfl rfl (fun w w' hw hb => hw.step hb) ⟨fun _ _ _ h _ => h, fun _ _ _ h _ => h, fun _ _ _ h _ => h, fun _ _ _ h _ => h, fun _ _ _ h _ => h, fun _ _ _ h _ => h, fun _ _ _ h _ => h, fun _ _ _ h _ => h, fun _ _ _ h _ => h, fun _ _ _ h _ => h, fun _ _ _ h _ => h, fun _ _ _ h _ => h, trivial⟩ ?hstep ?htail
                case hstep =>
                  refine ⟨fun wi => ?_, fun wi => ?_, fun wi => ?_, fun wi => ?_, fun wi => ?_, fun wi => ?_, fun wi => ?_, fun wi => ?_, fun wi => ?_, fun wi => ?_, fun wi => ?_, fun wi => ?_, trivial⟩
                  · skip
                    refine Fin.nil ?_
                    refine J.move rfl rfl ?_
                    exact J.finP rfl
                  · skip
                    refine Fin.consE rfl (Fin.nil ?_)
                    refine J.nilCheck rfl rfl ?_
                    exact J.finP rfl
                  · skip
                    refine Fin.consE rfl (Fin.nil ?_)
                    refine J.fieldAddr Ty.fd124_0 rfl rfl ?_
                    exact J.finP rfl
                  · skip
                    refine Fin.consE rfl (Fin.nil ?_)
                    refine J.load1 Ty.a34 rfl (fun w hw => (cell_of (hw.2.own (_, _) (by repeat first | exact .head _ | apply List.Mem.tail | apply List.mem_append_right))).trans (by exact rfl)) rfl ?_
                    exact J.finP rfl
                  · skip
                    refine Fin.nil ?_
                    refine J.move rfl rfl ?_
                    exact J.finP rfl
                  · skip
                    refine Fin.consE rfl (Fin.nil ?_)
                    refine J.nilCheck rfl rfl ?_
                    exact J.finP rfl
                  · skip
                    refine Fin.consE rfl (Fin.nil ?_)
                    refine J.fieldAddr Ty.fd124_1 rfl rfl ?_
                    exact J.finP rfl
                  · skip
                    refine Fin.consE rfl (Fin.nil ?_)
                    refine J.load1 Ty.a81 rfl (fun w hw => (cell_of (hw.2.own (_, _) (by repeat first | exact .head _ | apply List.Mem.tail | apply List.mem_append_right))).trans (by exact rfl)) rfl ?_
                    exact J.finP rfl
                  · skip
                    refine Fin.consE rfl (Fin.nil ?_)
                    refine J.bin rfl rfl rfl rfl ?_
                    refine J.name 115 rfl (congrArg (Value.int .u64) (show _ = ((gen + 1 : Nat) : Int) from wrap_u64 (by omega) (by omega))) ?_
                    exact J.finP rfl
                  · skip
                    refine Fin.consE rfl (Fin.nil ?_)
                    refine J.bin rfl rfl rfl rfl ?_
                    refine J.name 116 rfl (congrArg (Value.int .u64) (show _ = (((gen + 1) % 2 : Nat) : Int) from rfl)) ?_
                    exact J.finP rfl
                  · skip
                    refine Fin.consE rfl (Fin.nil ?_)
                    refine J.convInt Ty.u81 Ty.u3 rfl rfl ?_
                    refine J.name 117 rfl (congrArg (Value.int .i64) (show _ = (((gen + 1) % 2 : Nat) : Int) from wrap_i64 (by omega) (by omega))) ?_
                    exact J.finP rfl
                  · skip
                    refine Fin.nil ?_
                    refine J.move rfl rfl ?_
                    exact J.finP rfl
                case htail =>
                  refine Fin.consE rfl (Fin.consE rfl (Fin.consE rfl (Fin.consE rfl (Fin.consE rfl (Fin.consE rfl (Fin.consE rfl (Fin.consE rfl (Fin.consE rfl (Fin.consE rfl (Fin.consE rfl (Fin.consE rfl (Fin.nil ?_))))))))))))
                  refine J.perm ([(d, dkO s n (p1) (k1)), (s, dkS (B1))] ++ ((lb, cb [.pointer (some ⟨d, 0, none⟩), .int .u64 ((gen : Nat) : Int), .int .i64 ((used : Nat) : Int), .int .i64 ((cnt_ : Nat) : Int), .bool false] 124) :: (lp106 ++ (b105, cb [.int .u64 ((gen + 1 : Nat) : Int), .int .u64 ((used + needN rec_.length : Nat) : Int), .int .u64 ((cnt_ + 1 : Nat) : Int)] 81) :: lp48))) (by (refine perm_cnt (fun _ => ?_)); simp only [cntB_append, cntB_cons, cntB_nil, Nat.add_zero, Nat.zero_add]; try ac_rfl) ?_
                  refine J.callT (l1 := [(d, dkO s n (p1) (k1)), (s, dkS (B1))]) (L := [(d, dkO s n (if 0 < p1 then p1 - 1 else p1) (k1 + 1)), (s, dkS (put B1 ((gen + 1) % 2) ([gen + 1, used + needN rec_.length, cnt_ + 1].flatMap be8)))]) Ty.bd68 rfl rfl (fun w1 hw => write_done d s n B1 ([gen + 1, used + needN rec_.length, cnt_ + 1].flatMap be8) p1 k1 ((gen + 1) % 2) a106 24 c106 w1 hw.owns hB1 hk10 (by omega) (by omega) (by omega) (by rw [flat_length]; rfl) (hv106.row (l := (d, dkO s n (p1) (k1)) :: (s, dkS (B1)) :: (lb, cb [.pointer (some ⟨d, 0, none⟩), .int .u64 ((gen : Nat) : Int), .int .i64 ((used : Nat) : Int), .int .i64 ((cnt_ : Nat) : Int), .bool false] 124) :: (b105, cb [.int .u64 ((gen + 1 : Nat) : Int), .int .u64 ((used + needN rec_.length : Nat) : Int), .int .u64 ((cnt_ + 1 : Nat) : Int)] 81) :: lp48) (hw.perm (by (refine perm_cnt (fun _ => ?_)); simp only [cntB_append, cntB_cons, cntB_nil, Nat.add_zero, Nat.zero_add]; try ac_rfl))) (hv106.off (l1 := [(d, dkO s n (p1) (k1)), (s, dkS (B1))]) (l := (lb, cb [.pointer (some ⟨d, 0, none⟩), .int .u64 ((gen : Nat) : Int), .int .i64 ((used : Nat) : Int), .int .i64 ((cnt_ : Nat) : Int), .bool false] 124) :: (b105, cb [.int .u64 ((gen + 1 : Nat) : Int), .int .u64 ((used + needN rec_.length : Nat) : Int), .int .u64 ((cnt_ + 1 : Nat) : Int)] 81) :: lp48) (hw.perm (by (refine perm_cnt (fun _ => ?_)); simp only [cntB_append, cntB_cons, cntB_nil, Nat.add_zero, Nat.zero_add]; try ac_rfl))) hp1 hp0) ?_
                  refine J.perm ((lb, cb [.pointer (some ⟨d, 0, none⟩), .int .u64 ((gen : Nat) : Int), .int .i64 ((used : Nat) : Int), .int .i64 ((cnt_ : Nat) : Int), .bool false] 124) :: (d, dkO s n (if 0 < p1 then p1 - 1 else p1) (k1 + 1)) :: (s, dkS (put B1 ((gen + 1) % 2) ([gen + 1, used + needN rec_.length, cnt_ + 1].flatMap be8))) :: (lp106 ++ (b105, cb [.int .u64 ((gen + 1 : Nat) : Int), .int .u64 ((used + needN rec_.length : Nat) : Int), .int .u64 ((cnt_ + 1 : Nat) : Int)] 81) :: lp48)) (by (refine perm_cnt (fun _ => ?_)); simp only [cntB_append, cntB_cons, cntB_nil, Nat.add_zero, Nat.zero_add]; try ac_rfl) ?_
                  refine J.assign rfl rfl ?_
                  refine J.nil ?_
                  refine JX.thenN (hK24 _ _ ?_)
                  refine JC.seq (fun K28 hK28 => ?_)
                  refine JC.region ?_
                  refine J.move rfl rfl ?_
                  refine J.bin rfl rfl rfl rfl ?_
                  refine J.nil ?_
                  refine JX.thenN (hK28 _ _ ?_)
                  first | refine JC.condF rfl ?_ | refine JC.cond rfl (fun h => by first | (exfalso; simp at h; omega) | (simp at h)) (fun _ => ?_)
                  refine JC.skip ?_
                  refine JX.thenN (hK23 _ _ ?_)
                  refine JC.seq (fun K29 hK29 => ?_)
                  refine JC.region ?_
                  refine J.move rfl rfl ?_
                  refine J.nilCheck rfl rfl ?_
                  refine J.fieldAddr Ty.fd124_1 rfl rfl ?_
                  refine J.loadO Ty.a81 rfl (by repeat first | exact .head _ | apply List.Mem.tail | apply List.mem_append_right) (by exact rfl) rfl ?_
                  refine J.bin rfl rfl rfl rfl ?_
                  refine J.name 130 rfl (congrArg (Value.int .u64) (show _ = ((gen + 1 : Nat) : Int) from wrap_u64 (by omega) (by omega))) ?_
                  refine J.nilCheck rfl rfl ?_
                  refine J.fieldAddr Ty.fd124_1 rfl rfl ?_
                  refine J.storeO Ty.s81 rfl rfl rfl rfl (by simp [Value.oneCell']) (by repeat first | exact .here | apply Up.there) (by simp) ?_
                  refine J.nil ?_
                  refine JX.thenN (hK29 _ _ ?_)
                  refine JC.seq (fun K30 hK30 => ?_)
                  apply JC.drawL 8 [Eqv (_), Eqv (_), Eqv (_), Eqv (_), Eqv (_), Eqv (_), Eqv (_), Eqv (_)] Ty.mixed rfl rfl rfl (by kernel_rfl) rfl rfl (fun w w' hw hb => hw.step hb) ⟨fun _ _ _ h _ => h, fun _ _ _ h _ => h, fun _ _ _ h _ => h, fun _ _ _ h _ => h, fun _ _ _ h _ => h, fun _ _ _ h _ => h, fun _ _ _ h _ => h, fun _ _ _ h _ => h, trivial⟩ ?hstep ?htail
                  case hstep =>
                    refine ⟨fun wi => ?_, fun wi => ?_, fun wi => ?_, fun wi => ?_, fun wi => ?_, fun wi => ?_, fun wi => ?_, fun wi => ?_, trivial⟩
                    · skip
                      refine Fin.nil ?_
                      refine J.move rfl rfl ?_
                      exact J.finP rfl
                    · skip
                      refine Fin.consE rfl (Fin.nil ?_)
                      refine J.nilCheck rfl rfl ?_
                      exact J.finP rfl
                    · skip
                      refine Fin.consE rfl (Fin.nil ?_)
                      refine J.fieldAddr Ty.fd124_2 rfl rfl ?_
                      exact J.finP rfl
                    · skip
                      refine Fin.consE rfl (Fin.nil ?_)
                      refine J.load1 Ty.a3 rfl (fun w hw => (cell_of (hw.2.own (_, _) (by repeat first | exact .head _ | apply List.Mem.tail | apply List.mem_append_right))).trans (by exact rfl)) rfl ?_
                      exact J.finP rfl
                    · skip
                      refine Fin.nil ?_
                      refine J.move rfl rfl ?_
                      exact J.finP rfl
                    · skip
                      refine Fin.consE rfl (Fin.nil ?_)
                      refine J.lenS rfl Ty.u26 rfl rfl ?_
                      exact J.finP rfl
                    · skip
                      refine Fin.consE rfl (Fin.nil ?_)
                      refine J.callD Ty.bd63 rfl rfl (fun w1 hw => need_spec rec_.length w1 (by omega)) ?_
                      exact J.finQ rfl
                    · skip
                      refine Fin.consE rfl (Fin.consE rfl (Fin.nil ?_))
                      refine J.addN rfl rfl (by omega) (by omega) rfl ?_
                      exact J.finP rfl
                  case htail =>
                    refine Fin.consE rfl (Fin.consE rfl (Fin.consE rfl (Fin.consE rfl (Fin.consE rfl (Fin.consE rfl (Fin.consE rfl (Fin.consE rfl (Fin.nil ?_))))))))
                    refine J.nilCheck rfl rfl ?_
                    refine J.fieldAddr Ty.fd124_2 rfl rfl ?_
                    refine J.storeO Ty.s3 rfl rfl rfl rfl (by simp [Value.oneCell']) (by repeat first | exact .here | apply Up.there) (by simp) ?_
                    refine J.nil ?_
                    refine JX.thenN (hK30 _ _ ?_)
                    refine JC.seq (fun K31 hK31 => ?_)
                    refine JC.region ?_
                    refine J.move rfl rfl ?_
                    refine J.nilCheck rfl rfl ?_
                    refine J.fieldAddr Ty.fd124_3 rfl rfl ?_
                    refine J.loadO Ty.a3 rfl (by repeat first | exact .head _ | apply List.Mem.tail | apply List.mem_append_right) (by exact rfl) rfl ?_
                    (first | refine J.addN rfl rfl (by omega) (by omega) rfl ?_ | refine J.bin rfl rfl rfl rfl ?_)
                    refine J.nilCheck rfl rfl ?_
                    refine J.fieldAddr Ty.fd124_3 rfl rfl ?_
                    refine J.storeO Ty.s3 rfl rfl rfl rfl (by simp [Value.oneCell']) (by repeat first | exact .here | apply Up.there) (by simp) ?_
                    refine J.nil ?_
                    refine JX.thenN (hK31 _ _ ?_)
                    refine JC.seq (fun K32 hK32 => ?_)
                    refine JC.region ?_
                    refine J.assign rfl rfl ?_
                    refine J.nil ?_
                    refine JX.thenN (hK32 _ _ ?_)
                    refine JC.ret ?_
                    refine JX.ret1 rfl rfl (fun w1 hw => ?_)
                    rw [happ]
                    first
                    | exact ⟨rfl, hw⟩
                    | exact ⟨rfl, hw.drop (.cons_cons _ (.cons_cons _ (.cons_cons _ (List.nil_sublist _))))⟩

end Go.Proofs.Ytoaenmlhehcjfaa
/-
  The document's Append.
-/
namespace Go.Proofs.Ytoaenmlhehcjfaa
open Go.J Go.RowKit
set_option linter.unusedVariables false
set_option linter.unusedSimpArgs false
set_option maxRecDepth 8000
/-- eight bytes of a number, j of them laid, from the back -/
def hst (pre : List UInt8) (N j z : Nat) : List UInt8 := pre ++ (List.replicate (8 - j) 0 ++ ((be8 N).drop (8 - j) ++ List.replicate z 0))
end Go.Proofs.Ytoaenmlhehcjfaa
/-
  What an argument that can be read as data looks like in memory; and the frame of a law's row. Proved over any program.
-/
namespace Go.J
open Go.ChangeShapes Go.WideShapes Go.ChangeAt Go.RowKit
set_option linter.unusedVariables false
set_option linter.unusedSimpArgs false

def Decodes (P : Program) (t : TypeId) {α : Type} (R : World → List Value → α → Prop) : Prop :=
  ∀ (H : Type) (enc : TypeId × Value → H) (w : World) (fuel : Nat) (cs : List Value) (x : DataW H × List MemPlace),
    DataW.trod enc P w 0 (fun _ => true) true fuel t cs = some x → (∀ n, n ∈ x.1.weights P t → n ≤ reachBytes) → ∃ y : α, R w cs y

def RInt (k : IntKind) : World → List Value → Int → Prop := fun _ cs n => cs = [.int k n] ∧ (Lit.int k n).wf = true
def RU8 : World → List Value → UInt8 → Prop := fun _ cs b => cs = [u8 b]
def RBool : World → List Value → Bool → Prop := fun _ cs b => cs = [.bool b]
def RStr : World → List Value → ByteArray → Prop := fun _ cs s => cs = [.string s] ∧ s.size ≤ reachBytes
structure Sl (α : Type) where
  a : Option Addr
  c : Nat
  xs : List α
/-- the slice's own value -/
abbrev Sl.v {α : Type} (s : Sl α) : Value := .slice s.a s.xs.length s.c
def RSl {α : Type} (sz by_ : Nat) (R : World → List Value → α → Prop) : World → List Value → Sl α → Prop := fun w cs s =>
  cs = [s.v] ∧ s.xs.length ≤ s.c ∧ s.c * by_ ≤ reachBytes ∧
    (s.xs = [] ∨ ∃ b o, s.a = some ⟨b, o, none⟩ ∧ ∀ i x, s.xs[i]? = some x → ∃ cs', cs'.length = sz ∧ Cells w b (o + i * sz) cs' ∧ R w cs' x)

theorem dec_int {P : Program} {t : TypeId} {k : IntKind} (hu : P.underlying t = some (.int k)) : Decodes P t (RInt k) := by
  intro H enc w fuel cs x h _
  obtain ⟨n, rfl, _, hw⟩ := DataW.trod_int hu h
  exact ⟨n, rfl, hw⟩
theorem dec_u8 {P : Program} {t : TypeId} (hu : P.underlying t = some (.int .u8)) : Decodes P t RU8 := by
  intro H enc w fuel cs x h _
  obtain ⟨n, rfl, _, hw⟩ := DataW.trod_int hu h
  have := bounds_u8 hw
  exact ⟨UInt8.ofNat n.toNat, by
    show [Value.int .u8 n] = [Value.int .u8 ((UInt8.ofNat n.toNat).toNat : Int)]
    have h2 : (UInt8.ofNat n.toNat).toNat = n.toNat := by simp; omega
    rw [h2]; congr 2; omega⟩
theorem cells_none {w : World} {a : Addr} {k : Nat} {cs : List Value} (h : w.cells? 0 a k = some cs) (hk : 0 < k) : ∃ b o, a = ⟨b, o, none⟩ ∧ cs.length = k ∧ Cells w b o cs := by
  unfold World.cells? at h
  rw [if_pos (Nat.zero_le _)] at h
  have hl := mapM_some_length h
  have hg := fun i (hi : i < k) => mapM_some_get h i i (by simp [hi])
  obtain ⟨b, o, s⟩ := a
  have h0 : w.cell? (⟨b, o, s⟩ : Addr) = cs[0]? := by simpa [Addr.add] using hg 0 hk
  have hs : s = none := World.cell?_spot (a := ⟨b, o, s⟩) (v := cs[0]'(by simp at hl; omega)) (by rw [h0, List.getElem?_eq_getElem])
  subst hs
  refine ⟨b, o, rfl, by simpa using hl, fun j hj => ?_⟩
  have := hg j (by simp at hl; omega)
  rw [addr_add] at this
  exact this

theorem weights_all {H : Type} {P : Program} {e : TypeId} : ∀ {ds : List (DataW H)} {d : DataW H}, d ∈ ds → ∀ n, n ∈ d.weights P e → n ∈ DataW.weightsAll P e ds := by
  intro ds
  induction ds with
  | nil => intro d h; cases h
  | cons d0 ds ih =>
    intro d h n hn
    simp only [DataW.weightsAll, List.mem_append]
    cases h with
    | head => exact .inl hn
    | tail _ h => exact .inr (ih h n hn)

theorem list_of {α : Type} {p : Nat → α → Prop} : ∀ (k : Nat), (∀ i, i < k → ∃ x, p i x) → ∃ xs : List α, xs.length = k ∧ ∀ i x, xs[i]? = some x → p i x := by
  intro k
  induction k with
  | zero => intro _; exact ⟨[], rfl, fun i x h => by simp at h⟩
  | succ k ih =>
    intro h
    obtain ⟨xs, hl, hx⟩ := ih (fun i hi => h i (by omega))
    obtain ⟨y, hy⟩ := h k (by omega)
    refine ⟨xs ++ [y], by simp [hl], fun i x hi => ?_⟩
    by_cases h1 : i < k
    · rw [List.getElem?_append_left (by omega)] at hi; exact hx i x hi
    · rw [List.getElem?_append_right (by omega)] at hi
      have : i - xs.length = 0 := by
        have := (List.getElem?_eq_some_iff.1 hi).1
        simp at this; omega
      rw [this] at hi
      simp at hi
      subst hi
      rw [show i = k by omega]; exact hy

theorem dec_slice {P : Program} {t e : TypeId} {sz by_ : Nat} {α : Type} {R : World → List Value → α → Prop} (he : elemT P t = some e) (hs : sizeT P e = some sz) (hb : bytesT P e = some by_) (hsz : 0 < sz) (D : Decodes P e R) : Decodes P t (RSl sz by_ R) := by
  intro H enc w fuel cs x h hn
  have hu := elem_u he
  have hcz : P.cellsOf e = sz := by
    unfold Program.cellsOf; unfold sizeT at hs; rw [hs]; rfl
  have hbz : P.bytesOf e = by_ := by
    unfold Program.bytesOf; unfold bytesT at hb; rw [hb]; rfl
  rcases Deep.open_slice hu h with ⟨rfl, rfl⟩ | ⟨a, len, cap, m, n, Dd, Pl, rfl, _, hl, _, hm, rfl, hel⟩
  · exact ⟨⟨none, 0, []⟩, rfl, Nat.le_refl _, by simp, .inl rfl⟩
  · simp only [if_true] at hm
    subst hm
    have hw1 : m * by_ ≤ reachBytes := by
      have := hn (((List.range len).map Dd).length + ((List.range (m - len)).map fun j => Dd (len + j)).length |> (· * P.bytesOf e)) (by simp [DataW.weights, hu])
      simp only [List.length_map, List.length_range, hbz] at this
      rwa [show len + (m - len) = m by omega] at this
    have hwe : ∀ i, i < len → ∀ k, k ∈ (Dd i).weights P e → k ≤ reachBytes := by
      intro i hi k hk
      refine hn k ?_
      simp only [DataW.weights, hu, List.mem_cons, List.mem_append]
      exact .inr (.inl (weights_all (List.mem_map.2 ⟨i, List.mem_range.2 hi, rfl⟩) k hk))
    obtain ⟨xs, hxl, hx⟩ := list_of (p := fun i (y : α) => ∃ cs', w.cells? 0 (a.add (i * sz)) sz = some cs' ∧ R w cs' y) len (fun i hi => by
      obtain ⟨cs', h1, h2⟩ := hel i (by omega)
      obtain ⟨y, hy⟩ := D H enc w n cs' _ h2 (hwe i hi)
      exact ⟨y, cs', by rw [← hcz]; exact h1, hy⟩)
    refine ⟨⟨some a, m, xs⟩, by simp [Sl.v, hxl], by simp only [hxl]; exact hl, hw1, ?_⟩
    by_cases h0 : xs = []
    · exact .inl h0
    · right
      have h0l : 0 < xs.length := List.length_pos_iff.2 h0
      obtain ⟨cs0, hc0, _⟩ := hx 0 xs[0] (List.getElem?_eq_getElem h0l)
      have ha0 : a.add (0 * sz) = a := by simp [Addr.add]
      rw [ha0] at hc0
      obtain ⟨b, o, rfl, _, _⟩ := cells_none hc0 hsz
      refine ⟨b, o, rfl, fun i y hi => ?_⟩
      obtain ⟨cs', hc, hr⟩ := hx i y hi
      rw [addr_add] at hc
      obtain ⟨b', o', he', hl', hcc⟩ := cells_none hc hsz
      simp only [Addr.mk.injEq] at he'
      obtain ⟨rfl, rfl, _⟩ := he'
      exact ⟨cs', hl', hcc, hr⟩

/-- the fields of a struct: types, places, sizes -/
def fieldsL (P : Program) : List Field → Option (List (TypeId × Nat × Nat))
  | [] => some []
  | f :: fs => match sizeT P f.type, fieldsL P fs with
    | some k, some r => some ((f.type, f.offset, k) :: r)
    | _, _ => none
def fieldsT (P : Program) (t : TypeId) : Option (List (TypeId × Nat × Nat)) := match P.underlying t with
  | some (.struct fs) => fieldsL P fs.toList
  | _ => none
theorem fieldsL_get {P : Program} : ∀ {l : List Field} {r : List (TypeId × Nat × Nat)}, fieldsL P l = some r → ∀ (j : Nat) (q : TypeId × Nat × Nat), r[j]? = some q → ∃ f, l[j]? = some f ∧ q.1 = f.type ∧ q.2.1 = f.offset ∧ sizeT P f.type = some q.2.2 := by
  intro l
  induction l with
  | nil => intro r h j q hq; simp only [fieldsL, Option.some.injEq] at h; subst h; simp at hq
  | cons f fs ih =>
    intro r h j q hq
    simp only [fieldsL] at h
    split at h
    · rename_i k r' hk hr
      simp only [Option.some.injEq] at h
      subst h
      cases j with
      | zero => simp only [List.getElem?_cons_zero, Option.some.injEq] at hq; subst hq; exact ⟨f, rfl, rfl, rfl, hk⟩
      | succ j => simp only [List.getElem?_cons_succ] at hq ⊢; exact ih hr j q hq
    · cases h
/-- each field of a struct that was read can be decoded -/
theorem dec_field {P : Program} {t : TypeId} {l : List (TypeId × Nat × Nat)} (hf : fieldsT P t = some l) {H : Type} {enc : TypeId × Value → H} {w : World} {fuel : Nat} {cs : List Value} {x : DataW H × List MemPlace}
    (h : DataW.trod enc P w 0 (fun _ => true) true fuel t cs = some x) (hn : ∀ n, n ∈ x.1.weights P t → n ≤ reachBytes) :
    ∀ (j : Nat) (q : TypeId × Nat × Nat), l[j]? = some q → ∀ {α : Type} {R : World → List Value → α → Prop}, Decodes P q.1 R → ∃ y : α, R w ((cs.drop q.2.1).take q.2.2) y := by
  intro j q hq α R D
  unfold fieldsT at hf
  split at hf
  · rename_i fs hu
    obtain ⟨xs, n, _, rfl, hlen, hxl, hfl⟩ := DataW.trod_struct hu h
    obtain ⟨f, hfj, h1, h2, h3⟩ := fieldsL_get hf j q hq
    have hfj' : fs[j]? = some f := by simpa using hfj
    have := hfl j f hfj'
    have hcz : P.cellsOf f.type = q.2.2 := by
      unfold Program.cellsOf; unfold sizeT at h3; rw [h3]; rfl
    rw [hcz, ← h2] at this
    have hj : j < xs.length := by rw [hxl]; exact (Array.getElem?_eq_some_iff.1 hfj').1
    rw [List.getElem?_eq_getElem hj] at this
    refine D H enc w n _ xs[j] (h1 ▸ this) (fun k hk => hn k ?_)
    simp only [DataW.weights, hu]
    refine DataW.weights_mem_each (j := j) (t := f.type) (d := xs[j].1) ?_ ?_ k (h1 ▸ hk)
    · simp [hfj]
    · simp [List.getElem?_eq_getElem hj]
  · cases hf
theorem dec_len {P : Program} {t k : Nat} (ha : aggT P t = some true) (hs : sizeT P t = some k) {H : Type} {enc : TypeId × Value → H} {w : World} {fuel : Nat} {cs : List Value} {x : DataW H × List MemPlace}
    (h : DataW.trod enc P w 0 (fun _ => true) true fuel t cs = some x) : cs.length = k := by
  have hcz : P.cellsOf t = k := by
    unfold Program.cellsOf; unfold sizeT at hs; rw [hs]; rfl
  unfold aggT at ha
  split at ha
  · rename_i fs hu
    obtain ⟨_, _, _, _, hlen, _⟩ := DataW.trod_struct hu h
    exact hlen.trans hcz
  · rename_i m el hu
    cases fuel with
    | zero => simp [DataW.trod] at h
    | succ n =>
      unfold DataW.trod at h
      rw [hu] at h
      split at h <;> simp_all
  · cases ha
  · cases ha
/-- an array of bytes -/
def RBytes (k : Nat) : World → List Value → List UInt8 → Prop := fun _ cs bs => bs.length = k ∧ cs = bs.map u8
theorem dec_bytes {P : Program} {t e k : Nat} (ha : arrT P t = some (k, e)) (hu : P.underlying e = some (.int .u8)) (hs : sizeT P e = some 1) (hk : sizeT P t = some k) : Decodes P t (RBytes k) := by
  intro H enc w fuel cs x h _
  have hua := arr_u ha
  have hcz : P.cellsOf e = 1 := by
    unfold Program.cellsOf; unfold sizeT at hs; rw [hs]; rfl
  obtain ⟨xs, m, _, _, hl, hxl, hx⟩ := DataW.trod_array hua h
  have hlk : cs.length = k := by
    rw [hl]
    unfold Program.cellsOf; unfold sizeT at hk; rw [hk]; rfl
  obtain ⟨bs, hbl, hb⟩ := list_of (p := fun i (b : UInt8) => cs[i]? = some (u8 b)) k (fun i hi => by
    have h1 := hx i hi
    rw [hcz, Nat.mul_one, List.getElem?_eq_getElem (by omega)] at h1
    have h2 : (cs.drop i).take 1 = [cs[i]'(by omega)] := by
      rw [List.drop_eq_getElem_cons (by omega)]; rfl
    rw [h2] at h1
    obtain ⟨b, hb⟩ := dec_u8 hu H enc w m _ _ h1 (by
      intro n hn
      obtain ⟨z, _, hz, _⟩ := DataW.trod_int hu h1
      rw [hz] at hn
      simp [DataW.weights] at hn)
    refine ⟨b, ?_⟩
    have hb' : [cs[i]'(by omega)] = [u8 b] := hb
    simp only [List.cons.injEq, and_true] at hb'
    rw [List.getElem?_eq_getElem (by omega), hb'])
  refine ⟨bs, hbl, ?_⟩
  apply List.ext_getElem?
  intro i
  by_cases hi : i < k
  · rw [hb i bs[i] (List.getElem?_eq_getElem (by omega)), List.getElem?_map, List.getElem?_eq_getElem (by omega)]; rfl
  · rw [List.getElem?_eq_none (by omega), List.getElem?_eq_none (by simp; omega)]

/- arguments -/
theorem arg_slice {P : Program} {W : World} {base t : Nat} {v : Value} {sz by_ : Nat} {α : Type} {R : World → List Value → α → Prop} {e : Nat} (he : elemT P t = some e) (hval : Value.okWide P W .any base t v) (D : Decodes P t (RSl sz by_ R))
    {H : Type} {enc : TypeId × Value → H} {d : DataW H} {ps : List MemPlace} (h : DataW.Trod enc P W 0 (fun _ => true) true t v d ps) (hn : ∀ n, n ∈ d.weights P t → n ≤ reachBytes) : ∃ s : Sl α, v = s.v ∧ RSl sz by_ R W [s.v] s := by
  obtain ⟨a, len, cap, rfl⟩ := okWide_slice (elem_u he) hval
  obtain ⟨fuel, hf⟩ := h
  obtain ⟨s, hs⟩ := D H enc W fuel _ _ hf hn
  have h1 : [Value.slice a len cap] = [s.v] := hs.1
  simp only [List.cons.injEq, and_true] at h1
  exact ⟨s, h1, rfl, hs.2⟩
theorem sized_arg {H : Type} {P : Program} {ts : List TypeId} {ds : List (DataW H)} (h : (DataW.weightsEach P ts ds).all (· ≤ reachBytes) = true) {j : Nat} {t : TypeId} {d : DataW H} (ht : ts[j]? = some t) (hd : ds[j]? = some d) :
    ∀ n, n ∈ d.weights P t → n ≤ reachBytes := fun n hn => by
  have := List.all_eq_true.1 h _ (DataW.weights_mem_each ht hd n hn)
  simpa using this
/-- bytes that came in -/
theorem RSl.row {W : World} {by_ : Nat} {s : Sl UInt8} {cs : List Value} (h : RSl 1 by_ RU8 W cs s) : Row W s.v s.xs.length (s.xs.map u8) := by
  obtain ⟨_, h1, _, h2⟩ := h
  refine ⟨s.a, s.c, rfl, h1, ?_⟩
  rcases h2 with h2 | ⟨b, o, ha, h2⟩
  · left; rw [h2]; rfl
  · right
    refine ⟨b, o, ha, fun j hj => ?_⟩
    simp only [List.length_map] at hj
    obtain ⟨cs', hl, hc, hr⟩ := h2 j s.xs[j] (List.getElem?_eq_getElem hj)
    have hr' : cs' = [u8 s.xs[j]] := hr
    subst hr'
    have := hc 0 (by simp)
    rw [show o + j = o + j * 1 + 0 by omega, this]
    simp [List.getElem?_eq_getElem hj]
theorem RSl.at {α : Type} {W : World} {sz by_ : Nat} {R : World → List Value → α → Prop} {s : Sl α} {cs : List Value} (h : RSl sz by_ R W cs s) {i : Nat} (hi : i < s.xs.length) :
    ∃ b o cs', s.a = some ⟨b, o, none⟩ ∧ cs'.length = sz ∧ Cells W b (o + (i : Int).toNat * sz) cs' ∧ R W cs' s.xs[i] := by
  obtain ⟨_, _, _, h2⟩ := h
  rcases h2 with h2 | ⟨b, o, ha, h2⟩
  · rw [h2] at hi; simp at hi
  · obtain ⟨cs', h3, h4, h5⟩ := h2 i s.xs[i] (List.getElem?_eq_getElem hi)
    exact ⟨b, o, cs', ha, h3, by simpa using h4, h5⟩
end Go.J
/-
  Slate's small methods, the law's helpers, the chapter's example.
-/
namespace Go.Proofs.Ytoaenmlhehcjfaa
open Go.J Go.RowKit
set_option linter.unusedVariables false
set_option linter.unusedSimpArgs false
set_option maxRecDepth 8000
/-- appending, told by parts -/
theorem append_all (lb d s n : Nat) (q : LogP) (down : Bool) (B rec_ : List UInt8) (p k : Int) (a : Option Addr) (m c : Nat) (w : World) (hw0 : Own w [(lb, lgO d q down), (d, dkO s n p k), (s, dkS B)]) (hB : B.length = 64 * n) (hn : n ≤ 4096) (hn3 : 3 ≤ n) (hg : q.gen < 9223372036854775808) (hu : q.used ≤ n - 2) (hcn : q.cnt ≤ q.used) (hk : 0 ≤ k) (hk2 : k < 4611686018427380000) (hp : p < 9223372036854775808) (hml : rec_.length = m) (hm47 : m ≤ 140737488351232) (hr : Row w (.slice a m c) m (rec_.map u8)) (hoff : Off [lb, d, s] (.slice a m c) (rec_.map u8)) {x : Int × LogP × Bool × DS} (hx : appendP n q down ⟨B, p, k⟩ rec_ = x) :
    Calls Try.prog 46 [.pointer (some ⟨lb, 0, none⟩), .slice a m c].toArray w fun r w' => r = .returned (.int .i64 x.1) ∧ St w [lb, d, s] [(lb, lgO d x.2.1 x.2.2.1), (d, dkO s n x.2.2.2.p x.2.2.2.k), (s, dkS x.2.2.2.B)] w' := by
  subst hx
  exact append_spec lb d s n q down B rec_ p k a m c w hw0 hB hn hn3 hg hu hcn hk hk2 hp hml hm47 hr hoff

theorem down_spec (lb d : Nat) (q : LogP) (down : Bool) (w : World) {l : List (Nat × Obj)} (hw0 : Own w ((lb, lgO d q down) :: l)) :
    Calls Try.prog 51 [.pointer (some ⟨lb, 0, none⟩)].toArray w fun r w' => r = .returned (.bool down) ∧ Bel w w' := by
  refine calls_of_J (args := [.pointer (some ⟨lb, 0, none⟩)]) (e := [(0, .pointer (some ⟨lb, 0, none⟩))]) Try.func51 rfl rfl ⟨rfl, trivial⟩ (hw0.st) ?_
  refine JC.seq (fun K0 hK0 => ?_)
  refine JC.region ?_
  refine J.assign rfl rfl ?_
  refine J.nil ?_
  refine JX.thenN (hK0 _ _ ?_)
  refine JC.seq (fun K1 hK1 => ?_)
  refine JC.region ?_
  refine J.move rfl rfl ?_
  refine J.neNil Ty.u94 rfl rfl rfl ?_
  refine J.move rfl rfl ?_
  first | refine J.skip rfl rfl rfl rfl rfl ?_ | refine J.skipU rfl rfl rfl rfl ?_ | (refine J.unguard rfl rfl rfl ?_; refine J.move rfl rfl ?_)
  first | refine J.skip rfl rfl rfl rfl rfl ?_ | refine J.skipU rfl rfl rfl rfl ?_ | (refine J.unguard rfl rfl rfl ?_; refine J.nilCheck rfl rfl ?_)
  first | refine J.skip rfl rfl rfl rfl rfl ?_ | refine J.skipU rfl rfl rfl rfl ?_ | (refine J.unguard rfl rfl rfl ?_; refine J.fieldAddr Ty.fd124_4 rfl rfl ?_)
  first | refine J.skip rfl rfl rfl rfl rfl ?_ | refine J.skipU rfl rfl rfl rfl ?_ | (refine J.unguard rfl rfl rfl ?_; refine J.loadO Ty.a4 rfl (by repeat first | exact .head _ | apply List.Mem.tail | apply List.mem_append_right) (by exact rfl) rfl ?_)
  (first | refine J.pickT rfl rfl rfl ?_ | refine J.pickF rfl rfl rfl ?_)
  refine J.assign rfl rfl ?_
  refine J.nil ?_
  refine JX.thenN (hK1 _ _ ?_)
  refine JC.ret ?_
  refine JX.ret1 rfl rfl (fun w hw => ?_)
  exact ⟨rfl, hw.same hw0 (fun p hp => hp)⟩

theorem append_nil (bv : Value) (w : World) :
    Calls Try.prog 46 [.pointer none, bv].toArray w fun r w' => r = .returned (.int .i64 1) ∧ Bel w w' := by
  refine calls_of_J (args := [.pointer none, bv]) (e := [(0, .pointer none), (1, bv)]) Try.func46 rfl rfl ⟨rfl, rfl, trivial⟩ (St.start w) ?_
  refine JC.seq (fun K0 hK0 => ?_)
  refine JC.region ?_
  refine J.assign rfl rfl ?_
  refine J.nil ?_
  refine JX.thenN (hK0 _ _ ?_)
  refine JC.seq (fun K1 hK1 => ?_)
  refine JC.block ?_
  refine JC.seq (fun K2 hK2 => ?_)
  refine JC.region ?_
  refine J.move rfl rfl ?_
  refine J.eqNil Ty.u94 rfl rfl rfl ?_
  refine J.assign rfl rfl ?_
  refine J.nil ?_
  refine JX.thenN (hK2 _ _ ?_)
  first | refine JC.condT rfl ?_ | refine JC.cond rfl (fun _ => ?_) (fun h => by first | (exfalso; simp at h; omega) | (simp at h))
  refine JC.seq (fun K3 hK3 => ?_)
  refine JC.region ?_
  refine J.assign rfl rfl ?_
  refine J.nil ?_
  refine JX.thenN (hK3 _ _ ?_)
  refine JC.ret ?_
  refine JX.blockR ?_
  refine JX.thenR ?_
  refine JX.ret1 rfl rfl (fun w hw => ?_)
  exact ⟨rfl, hw.below⟩

def fa1 : Int × LogP × Bool × DS := appendP 5 ⟨0, 0, 0, []⟩ false ⟨List.replicate 320 0, -1, 0⟩ [97, 98, 99]
def fa2 : Int × LogP × Bool × DS := appendP 5 fa1.2.1 fa1.2.2.1 fa1.2.2.2 (List.replicate 63 0)
def fa3 : Int × LogP × Bool × DS := appendP 5 fa2.2.1 fa2.2.2.1 fa2.2.2.2 []
end Go.Proofs.Ytoaenmlhehcjfaa
/-
  The calculus: maps, interfaces, function values, values of many cells. Proved over any program.
-/
namespace Go.J
open Go.RowKit
set_option linter.unusedVariables false
set_option linter.unusedSimpArgs false

/-- equality at a type of many cells -/
structure EqL (P : Program) (t : TypeId) : Prop where
  guard : P.eqGuardType P.depth t = false
  eq : ∀ (w : World) (x y : Value) (lx ly : Lit), keyOf P t x = some lx → keyOf P t y = some ly → ∃ r : Bool, (Op.equal t x y).run P w = .ok r w ∧ (r = true ↔ x = y)
theorem EqL.of {P : Program} {m : Nat} {t : TypeId} (hg : P.eqGuardType P.depth t = false) (hm : m + 1 ≤ 10000) (hk : P.keyTypeAt m t = true) (ht : P.tiled m t = true)
    (hw : (match P.underlying t with | some (.array _ _) | some (.struct _) => true | _ => false) = true) : EqL P t :=
  ⟨hg, fun w x y lx ly hx hy => by
    obtain ⟨r, h1, h2⟩ := run_equal_deep w (by omega) hk hw hx hy
    refine ⟨r, h1, h2.trans ⟨fun h => ?_, fun h => ?_⟩⟩
    · subst h; exact keyOf_inj_deep ht hw hx hy
    · subst h; rw [hx] at hy; exact Option.some.inj hy⟩
theorem binOp_neq_agg (P : Program) (t : TypeId) (a b : Array Value) (w : World) : (binOp .neq t (.agg a) (.agg b)).run P w = ((Op.equal t (.agg a) (.agg b)).run P w).andThen fun r w' => .ok (.bool !r) w' := by
  simp only [binOp, Sem.run_bind, Sem.run_pure]
theorem run_eqGuard_agg {P : Program} {op : BinOp} {t : TypeId} {x y : Operand} {a b : Array Value} (w : World) (hg : P.eqGuardType P.depth t = false) : (eqGuard op t x y (.agg a) (.agg b)).run P w = .ok () w := by
  unfold eqGuard
  cases op <;> simp [hg]

theorem run_key {P : Program} {w : World} {b clock : Nat} {es : Array MapEntry} (hb : w.heap[b]? = some (.map es clock)) : (getObj b).run P w = .ok (.map es clock) w := by simp [getObj, Sem.run, hb]
theorem run_keyset {P : Program} {w : World} {b clock : Nat} {es : Array MapEntry} (o : Obj) (hb : w.heap[b]? = some (.map es clock)) : (setObj b o).run P w = .ok () { w with heap := w.heap.setIfInBounds b o } := by simp [setObj, Sem.run, hb]

/-- the value of a key in a list of entries -/
inductive Look (L : List MapEntry) (k z : Value) : Value → Bool → Prop
  | no : (∀ e, e ∈ L → e.key ≠ k) → Look L k z z false
  | yes (j : Nat) (e : MapEntry) : L[j]? = some e → e.key = k → Look L k z e.val true
theorem run_lookup {P : Program} {w : World} {mt kt et : TypeId} {b clock : Nat} {es : Array MapEntry} {k z : Value} {l : Lit} (hm : P.underlying mt = some (.map kt et)) (K : WideMaps.KeyLaw P kt) (hz : zeroT P et = some z)
    (hb : w.heap[b]? = some (.map es clock)) (hk : keyOf P kt k = some l) (hes : ∀ e, e ∈ es.toList → ∃ l, keyOf P kt e.key = some l) :
    ∃ v ok, (Instr.lookup mt (.map (some b)) k true).run P w = .ok (.tuple #[v, .bool ok]) w ∧ Look es.toList k z v ok := by
  rcases K.find w hk es.toList hes with ⟨h1, h2⟩ | ⟨j, e0, h1, h2, h3⟩
  · refine ⟨z, false, ?_, .no h2⟩
    simp [Instr.lookup, run_underlying' hm, run_key hb, K.check w _ hk, h1, run_zeroValue' hz]
  · refine ⟨e0.val, true, ?_, .yes j e0 h2 h3⟩
    simp [Instr.lookup, run_underlying' hm, run_key hb, K.check w _ hk, h1]
theorem run_lookup1 {P : Program} {w : World} {mt kt et : TypeId} {b clock : Nat} {es : Array MapEntry} {k z : Value} {l : Lit} (hm : P.underlying mt = some (.map kt et)) (K : WideMaps.KeyLaw P kt) (hz : zeroT P et = some z)
    (hb : w.heap[b]? = some (.map es clock)) (hk : keyOf P kt k = some l) (hes : ∀ e, e ∈ es.toList → ∃ l, keyOf P kt e.key = some l) :
    ∃ v ok, (Instr.lookup mt (.map (some b)) k false).run P w = .ok v w ∧ Look es.toList k z v ok := by
  rcases K.find w hk es.toList hes with ⟨h1, h2⟩ | ⟨j, e0, h1, h2, h3⟩
  · refine ⟨z, false, ?_, .no h2⟩
    simp [Instr.lookup, run_underlying' hm, run_key hb, K.check w _ hk, h1, run_zeroValue' hz]
  · refine ⟨e0.val, true, ?_, .yes j e0 h2 h3⟩
    simp [Instr.lookup, run_underlying' hm, run_key hb, K.check w _ hk, h1]
theorem wrote_set {w : World} {b : Nat} {o o' : Obj} (hb : w.heap[b]? = some o) : Wrote w { w with heap := w.heap.setIfInBounds b o' } b o' :=
  ⟨rfl, rfl, rfl, by simp, rfl, by
    have := lt_of_some hb
    simp [this], fun k hk => by
    simp only [Array.getElem?_setIfInBounds]
    rw [if_neg (fun e => hk e.symm)]⟩

section
variable {P : Program} {ops : Array Oper} {Q : Exit → Act → World → Prop} {n : Nat} {e : Env} {I I' : World → Prop} {rest : List Oper}
variable {d t yt : Nat} {p : String} {af : Array Edge} {x y z : Operand} {v v1 v2 : Value} {w0 : World} {S : List Nat} {l l' : List (Nat × Obj)}

theorem J.neA {ty : TypeId} {a b : Array Value} {la lb : Lit} (K : EqL P ty) (hx : ev e x = some (.agg a)) (hy : ev e y = some (.agg b)) (ha : keyOf P ty (.agg a) = some la) (hb : keyOf P ty (.agg b) = some lb) (hd : Nat.blt d n = true)
    (h : ∀ r : Bool, (r = true ↔ a = b) → J P ops Q n rest ((d, .bool (!r)) :: e) I) : J P ops Q n (⟨some d, .binOp .neq ty x y yt, t, p, af, none⟩ :: rest) e I := by
  intro T w ht hw
  obtain ⟨r, h1, h2⟩ := K.eq w _ _ la lb ha hb
  refine (J.value (I := fun w' => w' = w) hd (fun T w' ht hw' => ?_) (h r (h2.trans (by simp)))) T w ht rfl
  subst hw'
  refine ⟨w', ?_, hw⟩
  simp only [execOp, ht.eval hx, ht.eval hy, Sem.run_bind, Sem.run_pure]
  rw [run_eqGuard_agg w' K.guard, Result.andThen_ok, binOp_neq_agg, h1]; rfl

theorem setMany_all {cs vs : List Value} (h : vs.length = cs.length) : setMany cs 0 vs = vs := by
  rw [setMany_eq _ _ _ (by omega)]
  simp [h]
/-- a variable is written whole -/
theorem J.storeW {ty k b : Nat} {cs vs : List Value} {tb : TypeId} (hs : sizeT P ty = some k) (hx : ev e x = some (.pointer (some ⟨b, 0, none⟩))) (hy : ev e y = some v) (hv : v.cells = vs.toArray) (hk : vs.length = k) (hk' : cs.length = k) (h1 : ∀ v, v ∈ vs → v.oneCell' = true)
    (hu : Up l b (cb cs tb) (cb vs tb) l') (h : J P ops Q n rest e (St w0 S l')) : J P ops Q n (⟨none, .store ty x y, t, p, af, none⟩ :: rest) e (St w0 S l) :=
  J.storeO (cs := cs) hs hx hy hv hk h1 (by rw [setMany_all (by omega)]; exact hu) (by omega) h

/- maps -/
theorem J.makeMap {ty : TypeId} (hd : Nat.blt d n = true)
    (h : ∀ b, J P ops Q n rest ((d, .map (some b)) :: e) (St w0 S ((b, .map #[] 0) :: l))) : J P ops Q n (⟨some d, .makeMap ty none, t, p, af, none⟩ :: rest) e (St w0 S l) := by
  refine J.valueEx (V := fun b => .map (some b)) hd (fun T w ht hw => ⟨w.heap.size, w.alloc (.map #[] 0), ?_, ?_⟩) h
  · simp [execOp, Instr.makeMap, run_newObj]
  · exact hw.new (below_alloc' w _) (Nat.le_refl _) (alloc_at w _)
theorem J.lookup2 {mt kt et : TypeId} {b clock : Nat} {es : Array MapEntry} {k zv : Value} {lk : Lit} (hm : P.underlying mt = some (.map kt et)) (K : WideMaps.KeyLaw P kt) (hz : zeroT P et = some zv) (hx : ev e x = some (.map (some b))) (hy : ev e y = some k)
    (hb : ∀ w, I w → w.heap[b]? = some (.map es clock)) (hk : keyOf P kt k = some lk) (hes : ∀ e, e ∈ es.toList → ∃ l, keyOf P kt e.key = some l) (hd : Nat.blt d n = true)
    (h : ∀ u ok, Look es.toList k zv u ok → J P ops Q n rest ((d, .tuple #[u, .bool ok]) :: e) I) : J P ops Q n (⟨some d, .lookup mt x y true, t, p, af, none⟩ :: rest) e I := by
  intro T w ht hw
  obtain ⟨u, ok, h1, h2⟩ := run_lookup hm K hz (hb w hw) hk hes
  refine (J.value (I := fun w' => w' = w) hd (fun T w' ht hw' => ?_) (h u ok h2)) T w ht rfl
  subst hw'
  exact ⟨w', by simp [execOp, ht.eval hx, ht.eval hy, h1], hw⟩
theorem J.lookup1 {mt kt et : TypeId} {b clock : Nat} {es : Array MapEntry} {k zv : Value} {lk : Lit} (hm : P.underlying mt = some (.map kt et)) (K : WideMaps.KeyLaw P kt) (hz : zeroT P et = some zv) (hx : ev e x = some (.map (some b))) (hy : ev e y = some k)
    (hb : ∀ w, I w → w.heap[b]? = some (.map es clock)) (hk : keyOf P kt k = some lk) (hes : ∀ e, e ∈ es.toList → ∃ l, keyOf P kt e.key = some l) (hd : Nat.blt d n = true)
    (h : ∀ u ok, Look es.toList k zv u ok → J P ops Q n rest ((d, u) :: e) I) : J P ops Q n (⟨some d, .lookup mt x y false, t, p, af, none⟩ :: rest) e I := by
  intro T w ht hw
  obtain ⟨u, ok, h1, h2⟩ := run_lookup1 hm K hz (hb w hw) hk hes
  refine (J.value (I := fun w' => w' = w) hd (fun T w' ht hw' => ?_) (h u ok h2)) T w ht rfl
  subst hw'
  exact ⟨w', by simp [execOp, ht.eval hx, ht.eval hy, h1], hw⟩
def isStructT (P : Program) (t : TypeId) : Bool := match P.underlying t with | some (.struct _) => true | _ => false
theorem isStructT.ex {P : Program} {t : TypeId} (h : isStructT P t = true) : ∃ fs, P.underlying t = some (.struct fs) := by
  unfold isStructT at h
  split at h
  · exact ⟨_, by assumption⟩
  · cases h
/- interfaces -/
/- function values -/
end

/- results that lie in a variable -/
theorem results_cell {fn : Func} {t : Tmp} {ty : TypeId} {tmps : Array Value} {a : Addr} {v : Value} {P : Program} {w : World} (h : fn.results = #[.cell t ty]) (ht : tmps.getD t undef = .pointer (some a)) (hl : (loadVar ty a).run P w = .ok v w) :
    (results fn tmps).run P w = .ok v w := by
  have ha : (asAddr (.pointer (some a))).run P w = .ok a w := by simp [asAddr]
  rw [Array.getD_eq_getD_getElem?] at ht
  simp only [results, h, Sem.run_bind]
  simp [ht, ha, hl]
theorem results_cell_tmp {fn : Func} {t u : Tmp} {ty : TypeId} {tmps : Array Value} {a : Addr} {v : Value} {P : Program} {w : World} (h : fn.results = #[.cell t ty, .tmp u]) (ht : tmps.getD t undef = .pointer (some a)) (hl : (loadVar ty a).run P w = .ok v w) :
    (results fn tmps).run P w = .ok (.tuple #[v, tmps.getD u undef]) w := by
  have ha : (asAddr (.pointer (some a))).run P w = .ok a w := by simp [asAddr]
  rw [Array.getD_eq_getD_getElem?] at ht
  simp only [results, h, Sem.run_bind]
  simp [ht, ha, hl]
theorem JX.retC {P : Program} {fn : Func} {R : Ending → World → Prop} {n : Nat} {e : Env} {I : World → Prop} {t ty k b o : Nat} {vs : List Value} (hr : fn.results = #[.cell t ty]) (hv : get e t = some (.pointer (some ⟨b, o, none⟩)))
    (ha : aggT P ty = some true) (hs : sizeT P ty = some k) (hl : vs.length = k) (hc : ∀ w, I w → Cells w b o vs) (h : ∀ w, I w → R (.returned (.agg vs.toArray)) w) :
    JX (bodyPost P fn R) n .ret e I := by
  intro T w ht hw
  refine ⟨rfl, .agg vs.toArray, ?_, h w hw⟩
  exact results_cell hr (by rw [Array.getD_eq_getD_getElem?, ht.2 t _ hv]; rfl) (run_loadVar_agg ha hs hl (hc w hw))
theorem JX.retCT {P : Program} {fn : Func} {R : Ending → World → Prop} {n : Nat} {e : Env} {I : World → Prop} {t u ty k b o : Nat} {vs : List Value} {v : Value} (hr : fn.results = #[.cell t ty, .tmp u]) (hv : get e t = some (.pointer (some ⟨b, o, none⟩))) (hv' : get e u = some v)
    (ha : aggT P ty = some true) (hs : sizeT P ty = some k) (hl : vs.length = k) (hc : ∀ w, I w → Cells w b o vs) (h : ∀ w, I w → R (.returned (.tuple #[.agg vs.toArray, v])) w) :
    JX (bodyPost P fn R) n .ret e I := by
  intro T w ht hw
  refine ⟨rfl, .tuple #[.agg vs.toArray, v], ?_, h w hw⟩
  have := results_cell_tmp (u := u) hr (by rw [Array.getD_eq_getD_getElem?, ht.2 t _ hv]; rfl) (run_loadVar_agg ha hs hl (hc w hw))
  rw [this, Array.getD_eq_getD_getElem?, ht.2 u v hv']; rfl
/- values that can be keys -/
theorem lits_int {P : Program} {t d : Nat} {q : IntKind} {n : Int} (hu : P.underlying t = some (.int q)) (hw : (Lit.int q n).wf = true) : P.keyLits (d + 1) t [.int q n] = some [.int q n] := by
  unfold Program.keyLits
  rw [hu]
  simp [hw]
theorem lits_u8 {P : Program} {t d : Nat} {b : UInt8} (hu : P.underlying t = some (.int .u8)) : P.keyLits (d + 1) t [u8 b] = some [.int .u8 (b.toNat : Int)] :=
  lits_int hu (by
    have := b.toNat_lt
    simp [Lit.wf, IntKind.min, IntKind.max, IntKind.signed, IntKind.bits]
    omega)
def fieldsK (P : Program) (t : TypeId) : Option (List (Nat × Nat)) := match P.underlying t with
  | some (.struct fs) => if fs.all (·.name != "_") then some (fs.toList.map fun f => (f.type, f.offset)) else none
  | _ => none
theorem mapM_map {α β γ : Type} (g : β → Option γ) (f : α → β) : ∀ l : List α, l.mapM (fun a => g (f a)) = (l.map f).mapM g
  | [] => rfl
  | a :: l => by simp [List.mapM_cons, mapM_map g f l]
theorem lits_struct {P : Program} {t d : Nat} {fs : List (Nat × Nat)} {cs : List Value} {ls : List (List Lit)} (h : fieldsK P t = some fs) (hl : cs.length = P.cellsOf t)
    (hm : fs.mapM (fun q => P.keyLits d q.1 ((cs.drop q.2).take (P.cellsOf q.1))) = some ls) : P.keyLits (d + 1) t cs = some ls.flatten := by
  unfold fieldsK at h
  split at h
  · rename_i gs hu
    split at h
    · rename_i ha
      simp only [Option.some.injEq] at h
      subst h
      unfold Program.keyLits
      rw [hu]
      simp only
      rw [if_pos ⟨hl, ha⟩, mapM_map (fun q : Nat × Nat => P.keyLits d q.1 ((cs.drop q.2).take (P.cellsOf q.1))) (fun f : Field => (f.type, f.offset)), hm]
      rfl
    · cases h
  · cases h
theorem lits_arr {P : Program} {t d n e : Nat} {cs : List Value} {ls : List (List Lit)} (hu : P.underlying t = some (.array n e)) (hl : cs.length = P.cellsOf t)
    (hm : (List.range n).mapM (fun i => P.keyLits d e ((cs.drop (i * P.cellsOf e)).take (P.cellsOf e))) = some ls) : P.keyLits (d + 1) t cs = some ls.flatten := by
  unfold Program.keyLits
  rw [hu]
  simp only
  rw [if_pos hl, hm]
  rfl
theorem key_of {P : Program} {t d : Nat} {cs : List Value} {ls : List Lit} (hd : P.types.size + 1 = d) (hk : P.keyType t = true) (hw : (match P.underlying t with | some (.array _ _) | some (.struct _) => true | _ => false) = true) (hl : cs.length = P.cellsOf t)
    (h : P.keyLits d t cs = some ls) : ∃ l, keyOf P t (.agg cs.toArray) = some l := by
  subst hd
  unfold keyOf
  split
  · rename_i hu
    rw [if_pos (by simp [hk, Value.formed, hu, hl])]
    exact ⟨_, by simp only [Value.cells]; rw [h]; rfl⟩
  · rename_i hu
    rw [if_pos (by simp [hk, Value.formed, hu, hl])]
    exact ⟨_, by simp only [Value.cells]; rw [h]; rfl⟩
  · split at hw <;> simp_all

/-- an identity, and its cells -/
abbrev IDV := _root_.Fin 16 → UInt8
abbrev cI (a : IDV) : List Value := [u8 (a 0), u8 (a 1), u8 (a 2), u8 (a 3), u8 (a 4), u8 (a 5), u8 (a 6), u8 (a 7), u8 (a 8), u8 (a 9), u8 (a 10), u8 (a 11), u8 (a 12), u8 (a 13), u8 (a 14), u8 (a 15)]
def lI (a : IDV) : List (List Lit) := [[.int .u8 ((a 0).toNat : Int)], [.int .u8 ((a 1).toNat : Int)], [.int .u8 ((a 2).toNat : Int)], [.int .u8 ((a 3).toNat : Int)], [.int .u8 ((a 4).toNat : Int)], [.int .u8 ((a 5).toNat : Int)], [.int .u8 ((a 6).toNat : Int)], [.int .u8 ((a 7).toNat : Int)], [.int .u8 ((a 8).toNat : Int)], [.int .u8 ((a 9).toNat : Int)], [.int .u8 ((a 10).toNat : Int)], [.int .u8 ((a 11).toNat : Int)], [.int .u8 ((a 12).toNat : Int)], [.int .u8 ((a 13).toNat : Int)], [.int .u8 ((a 14).toNat : Int)], [.int .u8 ((a 15).toNat : Int)]]
theorem lits_id {P : Program} {t e d : Nat} {a : IDV} (hu : P.underlying t = some (.array 16 e)) (he : P.underlying e = some (.int .u8)) (hc : P.cellsOf t = 16) (hc' : P.cellsOf e = 1) : P.keyLits (d + 2) t (cI a) = some (lI a).flatten := by
  refine lits_arr (d := d + 1) hu (by rw [hc]; rfl) ?_
  rw [hc', show List.range 16 = [0, 1, 2, 3, 4, 5, 6, 7, 8, 9, 10, 11, 12, 13, 14, 15] from rfl]
  simp only [List.mapM_cons, List.mapM_nil]
  simp only [Nat.mul_one, List.drop_succ_cons, List.drop_zero, List.take_succ_cons, List.take_zero, lits_u8 he]
  rfl
/-- a path's key, and an entry -/
structure PV where
  who : IDV
  n : Int
abbrev cP (p : PV) : List Value := cI p.who ++ [.int .i64 p.n]
structure EV where
  p : PV
  a : IDV
  b : IDV
  na : Int
  nb : Int
abbrev cE (x : EV) : List Value := cP x.p ++ cI x.a ++ cI x.b ++ [.int .i64 x.na, .int .i64 x.nb]
abbrev okN (n : Int) : Prop := (Lit.int .i64 n).wf = true
abbrev okE (x : EV) : Prop := okN x.p.n ∧ okN x.na ∧ okN x.nb
theorem u8_inj {a b : UInt8} : u8 a = u8 b ↔ a = b := by
  constructor
  · intro h
    have : (a.toNat : Int) = (b.toNat : Int) := by injection h
    exact UInt8.toNat_inj.1 (by omega)
  · intro h; rw [h]
instance : DecidableEq IDV := fun a b => decidable_of_iff (∀ i, a i = b i) ⟨funext, fun h i => by rw [h]⟩
deriving instance DecidableEq for PV, EV
theorem cI_eq {a b : IDV} : cI a = cI b ↔ a = b := by
  constructor
  · intro h
    simp only [cI, List.cons.injEq, u8_inj, and_true] at h
    obtain ⟨h0, h1, h2, h3, h4, h5, h6, h7, h8, h9, h10, h11, h12, h13, h14, h15⟩ := h
    funext i
    match i with
    | 0 => exact h0 | 1 => exact h1 | 2 => exact h2 | 3 => exact h3 | 4 => exact h4 | 5 => exact h5 | 6 => exact h6 | 7 => exact h7
    | 8 => exact h8 | 9 => exact h9 | 10 => exact h10 | 11 => exact h11 | 12 => exact h12 | 13 => exact h13 | 14 => exact h14 | 15 => exact h15
    | ⟨n + 16, h⟩ => omega
  · intro h; rw [h]
theorem app_iff {a b c d : List Value} (h : a.length = b.length) : a ++ c = b ++ d ↔ a = b ∧ c = d := ⟨fun e => List.append_inj e h, fun ⟨e1, e2⟩ => by rw [e1, e2]⟩
theorem cP_eq {p q : PV} : cP p = cP q ↔ p = q := by
  obtain ⟨a, n⟩ := p
  obtain ⟨b, m⟩ := q
  show cI a ++ [.int .i64 n] = cI b ++ [.int .i64 m] ↔ _
  rw [app_iff (by rfl), cI_eq]
  simp
/-- what a table's map holds -/
structure Tab (L : List EV) (es : Array MapEntry) (clock : Nat) : Prop where
  st : MapKept.Stamped es clock
  is_ : es.toList.map (fun e => (e.key, e.val)) = L.map (fun x => (Value.agg (cP x.p).toArray, Value.agg (cE x).toArray))
  ok : ∀ x, x ∈ L → okE x
  dist : L.Pairwise (fun x y => x.p ≠ y.p)
theorem Tab.mem {L : List EV} {es : Array MapEntry} {clock : Nat} (h : Tab L es clock) {e : MapEntry} (he : e ∈ es.toList) : ∃ x, x ∈ L ∧ e.key = .agg (cP x.p).toArray ∧ e.val = .agg (cE x).toArray := by
  have : (e.key, e.val) ∈ L.map (fun x => (Value.agg (cP x.p).toArray, Value.agg (cE x).toArray)) := by rw [← h.is_]; exact List.mem_map.2 ⟨e, he, rfl⟩
  obtain ⟨x, hx, h2⟩ := List.mem_map.1 this
  simp only [Prod.mk.injEq] at h2
  exact ⟨x, hx, h2.1.symm, h2.2.symm⟩
theorem Tab.mem' {L : List EV} {es : Array MapEntry} {clock : Nat} (h : Tab L es clock) {x : EV} (hx : x ∈ L) : ∃ e, e ∈ es.toList ∧ e.key = .agg (cP x.p).toArray := by
  have : (Value.agg (cP x.p).toArray, Value.agg (cE x).toArray) ∈ es.toList.map (fun e => (e.key, e.val)) := by rw [h.is_]; exact List.mem_map.2 ⟨x, hx, rfl⟩
  obtain ⟨e, he, h2⟩ := List.mem_map.1 this
  simp only [Prod.mk.injEq] at h2
  exact ⟨e, he, h2.1⟩
theorem Tab.size {L : List EV} {es : Array MapEntry} {clock : Nat} (h : Tab L es clock) : es.size = L.length := by
  have := congrArg List.length h.is_
  simpa using this
theorem arr_inj {a b : List Value} : a.toArray = b.toArray ↔ a = b := by
  constructor
  · intro h; simpa using h
  · intro h; rw [h]
theorem agg_inj {a b : List Value} : Value.agg a.toArray = Value.agg b.toArray ↔ a = b := by
  simp
/-- the entry of a key -/
def tget (L : List EV) (p : PV) : Option EV := L.find? (fun x => decide (x.p = p))
theorem tget_some {L : List EV} (hd : L.Pairwise (fun x y => x.p ≠ y.p)) {x : EV} (hx : x ∈ L) : tget L x.p = some x := by
  induction L with
  | nil => cases hx
  | cons y L ih =>
    rw [List.pairwise_cons] at hd
    simp only [tget, List.find?_cons]
    cases hx with
    | head => simp
    | tail _ hx =>
      rw [decide_eq_false (hd.1 x hx)]
      exact ih hd.2 hx
theorem tget_none {L : List EV} {p : PV} : tget L p = none ↔ ∀ x, x ∈ L → x.p ≠ p := by
  simp [tget, List.find?_eq_none]
theorem Tab.look {L : List EV} {es : Array MapEntry} {clock : Nat} (h : Tab L es clock) {p : PV} {z v : Value} {ok : Bool} (hl : Look es.toList (.agg (cP p).toArray) z v ok) :
    (tget L p = none ∧ v = z ∧ ok = false) ∨ ∃ x, tget L p = some x ∧ x ∈ L ∧ x.p = p ∧ v = .agg (cE x).toArray ∧ ok = true := by
  generalize hk : Value.agg (cP p).toArray = k at hl
  cases hl with
  | no hno =>
    refine .inl ⟨tget_none.2 (fun x hx hp => ?_), rfl, rfl⟩
    obtain ⟨e, he, h1⟩ := h.mem' hx
    exact hno e he (by rw [h1, hp, hk])
  | yes j e h1 h2 =>
    obtain ⟨x, hx, h3, h4⟩ := h.mem (List.mem_of_getElem? h1)
    have hp : x.p = p := by
      have := h3.symm.trans (h2.trans hk.symm)
      exact cP_eq.1 (agg_inj.1 this)
    refine .inr ⟨x, ?_, hx, hp, h4, rfl⟩
    rw [← hp]
    exact tget_some h.dist hx
theorem Tab.fresh {L : List EV} {es : Array MapEntry} {clock : Nat} (h : Tab L es clock) {p : PV} (hn : tget L p = none) : ∀ e, e ∈ es.toList → e.key ≠ .agg (cP p).toArray := by
  intro e he hk
  obtain ⟨x, hx, h3, _⟩ := h.mem he
  exact tget_none.1 hn x hx (cP_eq.1 (agg_inj.1 (h3.symm.trans hk)))
theorem Tab.keys {P : Program} {kt : TypeId} {L : List EV} {es : Array MapEntry} {clock : Nat} (h : Tab L es clock) (kp : ∀ p : PV, okN p.n → ∃ l, keyOf P kt (.agg (cP p).toArray) = some l) : ∀ e, e ∈ es.toList → ∃ l, keyOf P kt e.key = some l := by
  intro e he
  obtain ⟨x, hx, h3, _⟩ := h.mem he
  rw [h3]
  exact kp _ (h.ok x hx).1
theorem Tab.nil : Tab [] #[] 0 := ⟨⟨by simp, by simp, by simp⟩, rfl, by simp, .nil⟩
theorem Tab.push {L : List EV} {es : Array MapEntry} {clock : Nat} (h : Tab L es clock) {x : EV} (hx : okE x) (hn : tget L x.p = none) : Tab (L ++ [x]) (es.push { key := .agg (cP x.p).toArray, val := .agg (cE x).toArray, born := clock }) (clock + 1) := by
  refine ⟨MapKept.stamped_push h.st (h.fresh hn), by simp [h.is_], fun y hy => ?_, ?_⟩
  · rcases List.mem_append.1 hy with hy | hy
    · exact h.ok y hy
    · simp at hy; subst hy; exact hx
  · rw [List.pairwise_append]
    refine ⟨h.dist, by simp, fun y hy z hz => ?_⟩
    simp at hz
    subst hz
    exact tget_none.1 hn y hy
section
variable {P : Program} {ops : Array Oper} {Q : Exit → Act → World → Prop} {n : Nat} {e : Env} {I I' : World → Prop} {rest : List Oper}
variable {d t yt : Nat} {p : String} {af : Array Edge} {x y z : Operand} {v v1 v2 : Value} {w0 : World} {S : List Nat} {l l' : List (Nat × Obj)}
theorem dec_of {r : Bool} {q : Prop} [Decidable q] (h : r = true ↔ q) : r = decide q := by
  rw [Bool.eq_iff_iff, h]; simp
theorem J.neI {ty : TypeId} {a b : IDV} (K : EqL P ty) (k : ∀ a : IDV, ∃ l, keyOf P ty (.agg (cI a).toArray) = some l) (hx : ev e x = some (.agg (cI a).toArray)) (hy : ev e y = some (.agg (cI b).toArray)) (hd : Nat.blt d n = true)
    (h : J P ops Q n rest ((d, .bool (!decide (a = b))) :: e) I) : J P ops Q n (⟨some d, .binOp .neq ty x y yt, t, p, af, none⟩ :: rest) e I := by
  obtain ⟨_, k1⟩ := k a
  obtain ⟨_, k2⟩ := k b
  refine J.neA K hx hy k1 k2 hd fun r hr => ?_
  rw [arr_inj, cI_eq] at hr
  rw [dec_of hr]; exact h
def zI : IDV := fun _ => 0
def zP : PV := ⟨zI, 0⟩
def zE : EV := ⟨zP, zI, zI, 0, 0⟩
end
end Go.J
/-
  The calculus: regions whose operations come in any order, with an invariant on the operations that are done. Proved over any program.
-/
namespace Go.J
open Go.RowKit
set_option linter.unusedVariables false
set_option linter.unusedSimpArgs false
def eX (ds : List (Option Nat)) (c : Nat → Value) : List Nat → Env → Env
  | [], e => e
  | j :: js, e => match ds.getD j none with
    | some d => eX ds c js ((d, c j) :: e)
    | none => eX ds c js e
def QN (R : Value → World → Prop) : Exit → Act → World → Prop := fun x a w => x = .normal ∧ a.defers = [] ∧ ∃ v, R v w
def QD (d : Option Nat) (R : Value → World → Prop) : Exit → Act → World → Prop := match d with
  | some d => QB d R (fun _ => True)
  | none => QN R
theorem wpOp_of_listN {P : Program} {ops : Array Oper} {Q : Exit → Act → World → Prop} {i : Nat} {o : Oper} {T : Array Value} {w : World} {R : Value → World → Prop} {K : Act → World → Prop}
    (ho : ops[i]? = some o) (hd : o.dst = none) (h : wpList P ops (QN R) [o] (act T) w)
    (hk : ∀ v w', R v w' → K (act T) w') : wpOp P ops Q i K (act T) w := by
  have fin : ∀ a w', QN R .normal a w' → K (act T) w' := by
    rintro a w' ⟨_, _, v, hr⟩
    exact hk v w' hr
  unfold wpOp
  simp only [ho]
  simp only [wpList] at h
  split at h
  · rename_i hw
    rw [if_pos hw]
    rcases h with h | ⟨_, ⟨_, _, h, _⟩⟩
    · left
      unfold Oper.wp at h ⊢
      generalize (execOp (act T).eval o).run P w = r at h
      cases r with
      | ok nx w' =>
        cases nx <;> simp only [Oper.upon, hd] at h ⊢
        case value v => exact fin _ w' h
        case skip => exact fin _ w' h
        case defer dd => exact absurd h.2.1 (by simp [Act.put])
        case enter f args =>
          refine h.mono fun r w'' hr => ?_
          cases r with
          | returned v => exact fin _ w'' hr
          | panicked c => exact absurd hr.1 (by simp)
          | outgrown => obtain ⟨_, _, h, _⟩ := hr; cases h
        case row row args => exact Rows.mono h fun v w'' hr => fin _ w'' hr
      | halt x w' => cases x <;> simp only [Oper.upon] at h; exact absurd h.1 (by simp)
    · cases h
  · rename_i hw
    rw [if_neg hw]
    simp only [hd] at h ⊢
    exact fin _ w h
def nodupO : List (Option Nat) → Bool
  | [] => true
  | none :: xs => nodupO xs
  | some x :: xs => !(xs.any fun y => match y with | some y => Nat.beq x y | none => false) && nodupO xs
theorem nodupO_spec : ∀ {l : List (Option Nat)}, nodupO l = true → ∀ i j d, l.getD i none = some d → l.getD j none = some d → i = j := by
  intro l
  induction l with
  | nil => intro _ i j d hi; simp at hi
  | cons x xs ih =>
    intro h i j d hi hj
    have hx : ∀ k, x = some d → xs.getD k none ≠ some d := by
      intro k hxd e
      subst hxd
      simp only [nodupO, Bool.and_eq_true, Bool.not_eq_true', List.any_eq_false] at h
      have hm : some d ∈ xs := by
        rw [List.getD_eq_getElem?_getD] at e
        cases hk : xs[k]? with
        | none => rw [hk] at e; cases e
        | some y => rw [hk] at e; simp only [Option.getD_some] at e; subst e; exact List.mem_of_getElem? hk
      have := h.1 _ hm
      simp at this
    have hr : nodupO xs = true := by
      cases x with
      | none => exact h
      | some x => simp only [nodupO, Bool.and_eq_true] at h; exact h.2
    cases i with
    | zero =>
      cases j with
      | zero => rfl
      | succ j => simp only [List.getD_cons_zero, List.getD_cons_succ] at hi hj; exact absurd hj (hx j hi)
    | succ i =>
      cases j with
      | zero => simp only [List.getD_cons_zero, List.getD_cons_succ] at hi hj; exact absurd hi (hx i hj)
      | succ j => simp only [List.getD_cons_succ] at hi hj; rw [ih hr i j d hi hj]
def mset (m : Nat → Bool) (i : Nat) : Nat → Bool := fun j => cond (Nat.beq j i) true (m j)
theorem Rep.eX {ds : List (Option Nat)} {c : Nat → Value} {n : Nat} {T : Array Value} : ∀ {js : List Nat} {e : Env}, Rep n T e → (∀ j, j ∈ js → ∀ d, ds.getD j none = some d → T[d]? = some (c j)) → Rep n T (J.eX ds c js e)
  | [], _, h, _ => h
  | j :: js, e, h, hj => by
    unfold J.eX
    split
    · rename_i d hd
      refine Rep.eX (js := js) (e := (d, c j) :: e) ⟨h.1, fun t u hu => ?_⟩ (fun k hk => hj k (.tail _ hk))
      simp only [J.get] at hu
      cases hb : Nat.beq d t with
      | true =>
        rw [hb] at hu
        have : d = t := by simpa using hb
        subst this
        simp only [Option.some.injEq] at hu
        subst hu
        exact hj j (.head _) _ hd
      | false => rw [hb] at hu; exact h.2 t u hu
    · exact Rep.eX (js := js) (e := e) h (fun k hk => hj k (.tail _ hk))
theorem JC.anyX {α : Type} {P : Program} {Q : Exit → Act → World → Prop} {n id : Nat} {l : List Oper} {e : Env} {I : World → Prop} (N : Nat) (c : Nat → α → Value) (L : (Nat → Bool) → α → World → Prop) {ds : List (Option Nat)}
    (hm : P.follows .mixedOrders = true) (hds : (l.take N).map (·.dst) = ds) (hnd : nodupO ds = true) (hN : Nat.ble N l.length = true) (hB : headB l N = true)
    (hlt : (ds.all fun d => match d with | some d => Nat.blt d n | none => true) = true) (hkeys : (ds.all fun d => match d with | some d => (get e d).isNone | none => true) = true)
    (hinit : ∀ w, I w → ∃ x, L (fun j => Nat.ble N j) x { w with drawn := w.drawn + 1 })
    (hstep : ∀ (i : Nat) (o : Oper) (m : Nat → Bool) (x : α), i < N → l[i]? = some o → m i = false → (preds o).all m = true →
      J P l.toArray (QD (ds.getD i none) (fun v w => ∃ x', v = c i x' ∧ (∀ j, j < N → m j = true → c j x' = c j x) ∧ L (mset m i) x' w)) n [o] (eX ds (fun j => c j x) (preds o) e) (L m x))
    (htail : ∀ x, J P l.toArray Q n (l.drop N) (eX ds (fun j => c j x) (List.range N) e) (L (fun _ => true) x)) : JC P Q n (.region id l.toArray true) e I := by
  intro T w ht hw
  refine wp_region_any hm ?_
  have hN' : N ≤ l.length := Nat.le_of_ble_eq_true hN
  have htk : (l.take N).length = N := by simp; omega
  simp only [headB, Bool.and_eq_true, Bool.or_eq_true] at hB
  obtain ⟨⟨hback, hseq⟩, hsink⟩ := hB
  have hdst : ∀ i o, i < N → l[i]? = some o → o.dst = ds.getD i none := by
    intro i o hi ho
    rw [← hds, List.getD_eq_getElem?_getD, List.getElem?_map, List.getElem?_take_of_lt hi, ho]
    rfl
  have hd1 : ∀ i d, i < N → ds.getD i none = some d → d < n ∧ get e d = none := by
    intro i d hi hd
    have hmem : some d ∈ ds := by
      rw [List.getD_eq_getElem?_getD] at hd
      cases hk : ds[i]? with
      | none => rw [hk] at hd; cases hd
      | some y => rw [hk] at hd; simp only [Option.getD_some] at hd; subst hd; exact List.mem_of_getElem? hk
    have h1 := List.all_eq_true.1 hlt _ hmem
    have h2 := List.all_eq_true.1 hkeys _ hmem
    exact ⟨Nat.blt_eq.mp h1, by simpa using h2⟩
  have key : ∀ (m : Nat) (listed : Array Bool) (T : Array Value) (w : World), cnt listed N = m → HeadInv .any l.toArray N listed → Rep n T e → (∃ x, L (fun j => Nat.ble N j || listed.getD j true) x w ∧ ∀ i, i < N → listed.getD i true = true → ∀ d, ds.getD i none = some d → T[d]? = some (c i x)) →
      wpAny P .any l.toArray Q (m + (l.length - N)) listed (act T) w := by
    intro m
    induction m with
    | zero =>
      rintro listed T w hcnt inv ht ⟨x, hw, hfacts⟩
      have hall := cnt_zero N hcnt
      have hlisted : listed = (List.replicate N true ++ List.replicate (l.length - N) false).toArray := by
        have hs := inv.size
        simp only [List.size_toArray] at hs
        apply Array.ext
        · simp [hs]; omega
        · intro i hi1 hi2
          by_cases hiN : i < N
          · have := hall i hiN
            simp only [Array.getD_eq_getD_getElem?, Array.getElem?_eq_getElem hi1, Option.getD_some] at this
            rw [this]
            simp [List.getElem_append, hiN]
          · have := inv.tail i (by omega) (by simp; omega)
            simp only [Array.getD_eq_getD_getElem?, Array.getElem?_eq_getElem hi1, Option.getD_some] at this
            rw [this]
            simp [List.getElem_append, hiN]
      rw [Nat.zero_add]
      have hdl : (l.drop N).length = l.length - N := by simp
      have hmask : (fun j => Nat.ble N j || listed.getD j true) = fun _ => true := by
        funext j
        by_cases hj : j < N
        · rw [hall j hj]; simp
        · have : Nat.ble N j = true := Nat.ble_eq_true_of_le (by omega)
          rw [this]; rfl
      rw [hmask] at hw
      have hwl : wpList P l.toArray Q (l.drop N) (act T) w :=
        htail x T w (ht.eX (fun j hj => hfacts j (List.mem_range.1 hj) (hall j (List.mem_range.1 hj)))) hw
      have := wpAny_of_seq (P := P) (md := .any) (Q' := Q) (ops := l.toArray) (l.drop N) N listed (act T) w (fun j => by simp [List.getElem?_drop]) (by rw [hdl, hlisted]; exact hseq) hwl
      rwa [hdl] at this
    | succ m ih =>
      rintro listed T w hcnt inv ht ⟨x, hw, hfacts⟩
      rw [show m + 1 + (l.length - N) = (m + (l.length - N)) + 1 by omega]
      have hsz : listed.size = l.length := by simpa using inv.size
      obtain ⟨i0, hi0, hun0, hmin0⟩ : ∃ i, i < N ∧ listed.getD i true = false ∧ ∀ j, j < i → listed.getD j true = true := by
        rcases all_below listed N with h | h
        · exact h
        · exfalso
          have : cnt listed N = 0 := by
            have : ∀ M, M ≤ N → cnt listed M = 0 := by
              intro M
              induction M with
              | zero => intro _; rfl
              | succ M ihM => intro hM; simp only [cnt]; rw [h M (by omega), ihM (by omega)]; rfl
            exact this N (Nat.le_refl _)
          omega
      have hgd : ∀ j, j < l.length → listed.getD j true = true → listed.getD j false = true := by
        intro j hj h
        have hj' : j < listed.size := by omega
        simp only [Array.getD_eq_getD_getElem?, Array.getElem?_eq_getElem hj', Option.getD_some] at h ⊢
        exact h
      have hready0 : i0 ∈ Region.ready .any l.toArray listed := by
        refine mem_ready.2 ⟨hun0, l[i0]'(by omega), by simp, fun ed hed hbd => ?_⟩
        have hp : ed.on ∈ preds (l[i0]'(by omega)) := by
          simp only [preds, List.mem_map, List.mem_filter]
          exact ⟨ed, ⟨by simpa using hed, hbd⟩, rfl⟩
        have := backB_spec hback hi0 (List.getElem?_eq_getElem (by omega)) ed.on hp
        exact hgd _ (by omega) (hmin0 _ this)
      refine ⟨fun h0 => (by rw [h0] at hready0; cases hready0), fun i hi => ?_⟩
      have hiN : i < N := by
        rcases Nat.lt_or_ge i N with h | h
        · exact h
        · exfalso
          rcases hsink with h1 | ⟨⟨h1, h2⟩, h3⟩
          · have : N = l.length := Nat.eq_of_beq_eq_true h1
            obtain ⟨_, o, ho, _⟩ := mem_ready.1 hi
            have := (Array.getElem?_eq_some_iff.1 ho).1
            simp at this; omega
          · exact tail_waits h2 h3 (by simpa using Nat.blt_eq.mp h1) inv _ i0 rfl hi0 hun0 i h hi
      obtain ⟨hun, o, ho, hall⟩ := mem_ready.1 hi
      have ho' : l[i]? = some o := by simpa using ho
      have hpre : ∀ j, j ∈ preds o → j < N ∧ listed.getD j true = true := by
        intro j hj
        have hjlt := backB_spec hback hiN ho' j hj
        simp only [preds, List.mem_map, List.mem_filter] at hj
        obtain ⟨ed, ⟨hed, hbd⟩, rfl⟩ := hj
        have h1 := hall ed (by simpa using hed) hbd
        have hj' : ed.on < listed.size := by omega
        refine ⟨by omega, ?_⟩
        simp only [Array.getD_eq_getD_getElem?, Array.getElem?_eq_getElem hj', Option.getD_some] at h1 ⊢
        exact h1
      have hle : Nat.ble N i = false := by
        cases h : Nat.ble N i with
        | false => rfl
        | true => have := Nat.le_of_ble_eq_true h; omega
      have hwl := hstep i o (fun j => Nat.ble N j || listed.getD j true) x hiN ho' (by show (Nat.ble N i || listed.getD i true) = false; rw [hle, hun]; rfl)
        (List.all_eq_true.2 fun j hj => by rw [(hpre j hj).2]; simp) T w (ht.eX (fun j hj => hfacts j (hpre j hj).1 (hpre j hj).2)) hw
      have hisz : i < listed.size := by omega
      have hmask : mset (fun j => Nat.ble N j || listed.getD j true) i = fun j => Nat.ble N j || (listed.setIfInBounds i true).getD j true := by
        funext j
        by_cases hji : j = i
        · subst hji
          simp [mset, hisz]
        · have hb : Nat.beq j i = false := Bool.eq_false_iff.2 fun h => hji (Nat.eq_of_beq_eq_true h)
          simp only [mset, hb, cond_false]
          rw [getD_set_ne true (Ne.symm hji)]
      have hdi := hdst i o hiN ho'
      cases hdd : ds.getD i none with
      | some d =>
        rw [hdd] at hwl hdi
        refine wpOp_of_listB ho hdi hwl (fun v w' hv hφ _ => ?_) (by rw [ht.1]; exact (hd1 i d hiN hdd).1)
        obtain ⟨x', rfl, hsame, hL⟩ := hφ
        refine ih _ _ w' (by have := cnt_set hisz hun N hiN; omega) (inv.set hi hiN) (ht.other (hd1 i d hiN hdd).2 _) ⟨x', by rw [← hmask]; exact hL, fun j hj hlj d' hd' => ?_⟩
        by_cases hji : j = i
        · subst hji
          rw [hdd] at hd'
          cases hd'
          exact hv
        · rw [getD_set_ne true (Ne.symm hji)] at hlj
          have hu := hfacts j hj hlj d' hd'
          rw [hsame j hj (by rw [hlj]; simp)]
          rw [Array.getElem?_setIfInBounds, if_neg (fun he => hji (nodupO_spec hnd j i d' hd' (by rw [hdd, he])))]
          exact hu
      | none =>
        rw [hdd] at hwl hdi
        refine wpOp_of_listN ho hdi hwl (fun v w' hφ => ?_)
        obtain ⟨x', rfl, hsame, hL⟩ := hφ
        refine ih _ _ w' (by have := cnt_set hisz hun N hiN; omega) (inv.set hi hiN) ht ⟨x', by rw [← hmask]; exact hL, fun j hj hlj d' hd' => ?_⟩
        by_cases hji : j = i
        · subst hji
          rw [hdd] at hd'
          cases hd'
        · rw [getD_set_ne true (Ne.symm hji)] at hlj
          have hu := hfacts j hj hlj d' hd'
          rw [hsame j hj (by rw [hlj]; simp)]
          exact hu
  have hcnt0 : cnt (Array.replicate l.toArray.size false) N = N := by
    have : ∀ M, M ≤ N → cnt (Array.replicate l.toArray.size false) M = M := by
      intro M
      induction M with
      | zero => intro _; rfl
      | succ M ihM =>
        intro hM
        simp only [cnt]
        rw [getD_in (by simp; omega) (getD_replicate_false _ _), ihM (by omega)]
        simp; omega
    exact this N (Nat.le_refl _)
  obtain ⟨x0, hx0⟩ := hinit w hw
  have := key N (Array.replicate l.toArray.size false) T { w with drawn := w.drawn + 1 } hcnt0
    ⟨by simp, fun j oj _ hl => (by rw [getD_replicate_false] at hl; cases hl), fun t _ ht => getD_in (by simpa using ht) (getD_replicate_false _ _)⟩ ht
    ⟨x0, by
      have hmask : (fun j => Nat.ble N j || (Array.replicate l.toArray.size false).getD j true) = fun j => Nat.ble N j := by
        funext j
        by_cases hj : j < N
        · rw [getD_in (by simp; omega) (getD_replicate_false _ _)]; simp
        · have : Nat.ble N j = true := Nat.ble_eq_true_of_le (by omega)
          rw [this]; rfl
      rw [hmask]; exact hx0, fun i hi hl => by rw [getD_in (by simp; omega) (getD_replicate_false _ _)] at hl; cases hl⟩
  rw [show N + (l.length - N) = l.toArray.size by simp; omega] at this
  exact this
/-- what is to be shown of each operation of the head -/
def StepsX {α : Type} (P : Program) (l : List Oper) (n N : Nat) (ds : List (Option Nat)) (c : Nat → α → Value) (L : (Nat → Bool) → α → World → Prop) (e : Env) : Nat → List Oper → Prop
  | _, [] => True
  | i, o :: os => (∀ m x, m i = false → (preds o).all m = true →
      J P l.toArray (QD (ds.getD i none) (fun v w => ∃ x', v = c i x' ∧ (∀ j, j < N → m j = true → c j x' = c j x) ∧ L (mset m i) x' w)) n [o] (eX ds (fun j => c j x) (preds o) e) (L m x)) ∧ StepsX P l n N ds c L e (i + 1) os
theorem StepsX.all {α : Type} {P : Program} {l : List Oper} {n N : Nat} {ds : List (Option Nat)} {c : Nat → α → Value} {L : (Nat → Bool) → α → World → Prop} {e : Env} : ∀ (k : List Oper) (i0 : Nat), StepsX P l n N ds c L e i0 k → ∀ (i : Nat) (o : Oper), k[i]? = some o →
    ∀ m x, m (i0 + i) = false → (preds o).all m = true →
      J P l.toArray (QD (ds.getD (i0 + i) none) (fun v w => ∃ x', v = c (i0 + i) x' ∧ (∀ j, j < N → m j = true → c j x' = c j x) ∧ L (mset m (i0 + i)) x' w)) n [o] (eX ds (fun j => c j x) (preds o) e) (L m x) := by
  intro k
  induction k with
  | nil => intro i0 _ i o ho; simp at ho
  | cons p ps ih =>
    intro i0 h i o ho
    cases i with
    | zero => simp only [List.getElem?_cons_zero, Option.some.injEq] at ho; subst ho; exact h.1
    | succ i =>
      simp only [List.getElem?_cons_succ] at ho
      have := ih (i0 + 1) h.2 i o ho
      rw [show i0 + 1 + i = i0 + (i + 1) by omega] at this
      exact this
theorem JC.drawX {α : Type} {P : Program} {Q : Exit → Act → World → Prop} {n id : Nat} {l : List Oper} {e : Env} {I : World → Prop} (N : Nat) (vals : α → List Value) (L : (Nat → Bool) → α → World → Prop) {ds : List (Option Nat)}
    (hm : P.follows .mixedOrders = true) (hds : (l.take N).map (·.dst) = ds) (hnd : nodupO ds = true) (hN : Nat.ble N l.length = true) (hB : headB l N = true)
    (hlt : (ds.all fun d => match d with | some d => Nat.blt d n | none => true) = true) (hkeys : (ds.all fun d => match d with | some d => (get e d).isNone | none => true) = true)
    (hinit : ∀ w, I w → ∃ x, L (fun j => Nat.ble N j) x { w with drawn := w.drawn + 1 })
    (hstep : StepsX P l n N ds (fun j x => (vals x).getD j undef) L e 0 (l.take N))
    (htail : ∀ x, J P l.toArray Q n (l.drop N) (eX ds (fun j => (vals x).getD j undef) (List.range N) e) (L (fun _ => true) x)) : JC P Q n (.region id l.toArray true) e I :=
  JC.anyX N (fun j x => (vals x).getD j undef) L hm hds hnd hN hB hlt hkeys hinit (fun i o m x hi ho h1 h2 => by
    have := StepsX.all (l.take N) 0 hstep i o (by rw [List.getElem?_take_of_lt hi]; exact ho) m x (by rw [Nat.zero_add]; exact h1) h2
    rw [Nat.zero_add] at this
    exact this) htail
theorem J.finX {P : Program} {ops : Array Oper} {n d : Nat} {R : Value → World → Prop} {e : Env} {I : World → Prop} {v : Value} (hv : get e d = some v) (h : ∀ w, I w → R v w) : J P ops (QD (some d) R) n [] e I :=
  J.nil (JX.finB hv fun w hw => ⟨h w hw, trivial⟩)
theorem JX.finN {n : Nat} {R : Value → World → Prop} {e : Env} {I : World → Prop} (v : Value) (h : ∀ w, I w → R v w) : JX (QN R) n .normal e I :=
  fun _ w ht hw => ⟨rfl, rfl, v, h w hw⟩
theorem St.drew {w0 w : World} {S : List Nat} {l : List (Nat × Obj)} (h : St w0 S l w) : St w0 S l { w with drawn := w.drawn + 1 } := h.step ((Bel.refl w).drew)
theorem predsT {o : Oper} {m : Nat → Bool} (h : (preds o).all m = true) {j : Nat} (hj : (preds o).any (Nat.beq j) = true) : m j = true := by
  obtain ⟨k, hk, h2⟩ := List.any_eq_true.1 hj
  have : j = k := Nat.eq_of_beq_eq_true h2
  subst this
  exact List.all_eq_true.1 h j hk
theorem J.makeFn {P : Program} {ops : Array Oper} {Q : Exit → Act → World → Prop} {n : Nat} {e : Env} {I : World → Prop} {rest : List Oper} {d t : Nat} {p : String} {af : Array Edge} {f : FuncId} {cs : List Operand} {vs : List Value} (hx : evs e cs = some vs) (hd : Nat.blt d n = true)
    (h : J P ops Q n rest ((d, .func (.func f) #[] vs.toArray) :: e) I) : J P ops Q n (⟨some d, .makeFunc (.func f) #[] cs.toArray, t, p, af, none⟩ :: rest) e I :=
  J.value hd (fun T w ht hw => ⟨w, by
    have := ht.evals hx
    simp [execOp, Instr.makeFunc, this], hw⟩) h
/-- a call of a function without a body, that the model answers -/
theorem J.callX {P : Program} {ops : Array Oper} {Q : Exit → Act → World → Prop} {n : Nat} {e : Env} {I : World → Prop} {rest : List Oper} {d t : Nat} {p : String} {af : Array Edge} {f : FuncId} {fn : Func} {ex : Array Value → Sem Value} {xs : List Operand} {ats : Array TypeId} {vs : List Value} {v : Value}
    (hf : P.funcs[f]? = some fn) (hn : (fn.name == "runtime.NumGoroutine") = false) (hb : fn.body.isNone = true) (h1 : (Extern.findNext fn).isNone = true) (h2 : Extern.find fn = some ex) (hx : evs e xs = some vs) (hd : Nat.blt d n = true)
    (hr : ∀ w, I w → (ex vs.toArray).run P w = .ok v w)
    (h : J P ops Q n rest ((d, v) :: e) I) : J P ops Q n (⟨some d, .call ⟨.value (.func f), xs.toArray, ats⟩, t, p, af, none⟩ :: rest) e I :=
  J.value hd (fun T w ht hw => ⟨w, by
    have hxs := ht.evals hx
    have h1' : Extern.findNext fn = none := by cases h : Extern.findNext fn with
      | none => rfl
      | some _ => rw [h] at h1; cases h1
    have hn' : ¬ fn.name = "runtime.NumGoroutine" := fun e => by rw [e] at hn; simp at hn
    have hb' : fn.body = none := by simpa using hb
    simp [execOp, resolve, Act.eval, Deferred.ofValue, invoke, hxs, callFunc, hf, hn', hb', h1', h2, hr w hw], hw⟩) h
section
variable {P : Program} {ops : Array Oper} {Q : Exit → Act → World → Prop} {n : Nat} {e : Env} {I : World → Prop} {rest : List Oper} {d t yt : Nat} {p : String} {af : Array Edge} {x y : Operand} {w0 : World} {S : List Nat} {l l' : List (Nat × Obj)}
theorem zeroCells_length (z : Array Value) (n : Nat) : (Builtin.zeroCells z n).toList.length = n * z.size := by simp [Builtin.zeroCells]
theorem zeroCells_mem {z : Array Value} {n : Nat} {v : Value} (h : v ∈ (Builtin.zeroCells z n).toList) (hz : ∀ u, u ∈ z.toList → u.oneCell' = true) (h0 : 0 < z.size) : v.oneCell' = true := by
  simp only [Builtin.zeroCells, Array.toList_map, List.mem_map] at h
  obtain ⟨i, _, rfl⟩ := h
  have hi : i % z.size < z.size := Nat.mod_lt _ h0
  rw [getElem!_pos z _ hi]
  exact hz _ (by simp)
/-- the elements of a slice are set to zero -/
theorem J.clear {ty el k c b o sz : Nat} {ats : Array TypeId} {zv : Value} {cs : List Value} {tb : TypeId} (hats : ats[0]? = some ty) (he : elemT P ty = some el) (hz : zeroT P el = some zv) (hsz : zv.cells.size = sz) (h0 : 0 < sz) (hone : ∀ u, u ∈ zv.cells.toList → u.oneCell' = true)
    (hx : ev e x = some (.slice (some ⟨b, o, none⟩) k c)) (hu : Up l b (cb cs tb) (cb (setMany cs o (Builtin.zeroCells zv.cells k).toList) tb) l') (hl : k = 0 ∨ o + k * sz ≤ cs.length)
    (h : J P ops Q n rest e (St w0 S l')) : J P ops Q n (⟨none, .call ⟨.builtin .clear, #[x], ats⟩, t, p, af, none⟩ :: rest) e (St w0 S l) := by
  refine J.valueN (fun T w ht hw => ?_) h
  have hb := hw.own _ hu.mem
  by_cases hk : k = 0
  · subst hk
    have e0 : (Builtin.zeroCells zv.cells 0).toList = [] := List.eq_nil_of_length_eq_zero (by rw [zeroCells_length]; simp)
    rw [e0] at hu
    refine ⟨.tuple #[], w, by simp [execOp, resolve, invoke, builtin, Builtin.clear_, ht.eval hx, run_underlying' (elem_u he), hats], ?_⟩
    exact hw.set hu rfl rfl rfl (Nat.le_refl _) rfl hb (fun _ _ _ => rfl)
  · obtain ⟨w', hr, hw'⟩ := run_storeCells (P := P) (Builtin.zeroCells zv.cells k).toList w cs o 0 hb (by rw [zeroCells_length, hsz]; rcases hl with h | h <;> omega) (fun v hv => zeroCells_mem hv hone (by omega))
    refine ⟨.tuple #[], w', ?_, hw.wrote hu (by simpa using hw')⟩
    have hr' : (storeCells ⟨b, o, none⟩ (Builtin.zeroCells zv.cells k).toList).run P w = .ok () w' := hr
    match k, hk with
    | k + 1, _ => simp [execOp, resolve, invoke, builtin, Builtin.clear_, ht.eval hx, run_underlying' (elem_u he), hats, run_zeroValue' hz, hr']
end
end Go.J
/-
  Identities as numbers; the model's comparison of bytes. Proved over any program.
-/
namespace Go.J
open Go.RowKit
set_option linter.unusedVariables false
set_option linter.unusedSimpArgs false

def lexB : List UInt8 → List UInt8 → Int
  | [], [] => 0
  | [], _ :: _ => -1
  | _ :: _, [] => 1
  | a :: az, b :: bs => if a = b then lexB az bs else if a < b then -1 else 1
theorem str_get (xs : List UInt8) (i : Nat) : (str xs)[i]! = xs.getD i 0 := by
  by_cases h : i < xs.length
  · rw [getElem!_pos (str xs) i (by rw [str_size]; exact h)]
    simp [str, List.getD_eq_getElem?_getD, List.getElem?_eq_getElem h]
    rfl
  · rw [getElem!_neg (str xs) i (by rw [str_size]; exact h)]
    simp [List.getD_eq_getElem?_getD, List.getElem?_eq_none (by omega : xs.length ≤ i)]
    rfl
theorem find_range (p : Nat → Bool) : ∀ n, (List.range (n + 1)).find? p = if p 0 then some 0 else ((List.range n).find? fun i => p (i + 1)).map (· + 1) := by
  intro n
  rw [List.range_succ_eq_map, List.find?_cons]
  cases h : p 0 with
  | true => rfl
  | false =>
    simp only [Bool.false_eq_true, if_false]
    rw [List.find?_map]
    rfl
theorem cmp_lex : ∀ (xs ys : List UInt8), xs.length = ys.length → Extern.BytealgCompare.cmp (str xs) (str ys) = lexB xs ys
  | [], [], _ => rfl
  | [], _ :: _, h => by simp at h
  | _ :: _, [], h => by simp at h
  | x :: xs, y :: ys, h => by
    have ih := cmp_lex xs ys (by simpa using h)
    unfold Extern.BytealgCompare.cmp at ih ⊢
    simp only [str_size, List.length_cons] at ih ⊢
    rw [show min (xs.length + 1) (ys.length + 1) = min xs.length ys.length + 1 by omega, find_range]
    simp only [str_get, List.getD_cons_zero, List.getD_cons_succ] at ih ⊢
    by_cases hxy : x = y
    · subst hxy
      simp only [bne_self_eq_false, Bool.false_eq_true, if_false]
      rw [lexB, if_pos rfl, ← ih]
      cases hf : (List.range (min xs.length ys.length)).find? (fun i => xs.getD i 0 != ys.getD i 0) with
      | none =>
        simp only [Option.map_none]
        have : xs.length = ys.length := by simpa using h
        simp [this]
      | some i => simp only [Option.map_some, List.getD_cons_succ]
    · rw [if_pos (by simpa using hxy)]
      simp only [List.getD_cons_zero]
      rw [lexB, if_neg hxy]
def valB : List UInt8 → Nat
  | [] => 0
  | b :: bs => b.toNat * 256 ^ bs.length + valB bs
theorem valB_lt : ∀ bs : List UInt8, valB bs < 256 ^ bs.length
  | [] => by simp [valB]
  | b :: bs => by
    have h1 := valB_lt bs
    have h2 := b.toNat_lt
    simp only [valB, List.length_cons, Nat.pow_succ]
    have h3 : b.toNat * 256 ^ bs.length ≤ 255 * 256 ^ bs.length := Nat.mul_le_mul_right _ (by omega)
    omega
theorem lexB_val : ∀ (xs ys : List UInt8), xs.length = ys.length → lexB xs ys = if valB xs < valB ys then -1 else if valB ys < valB xs then 1 else 0
  | [], [], _ => by simp [lexB, valB]
  | [], _ :: _, h => by simp at h
  | _ :: _, [], h => by simp at h
  | x :: xs, y :: ys, h => by
    have hl : xs.length = ys.length := by simpa using h
    have ih := lexB_val xs ys hl
    have h1 := valB_lt xs
    have h2 := valB_lt ys
    rw [hl] at h1
    have hA : valB (x :: xs) = x.toNat * 256 ^ ys.length + valB xs := by simp only [valB]; rw [hl]
    have hB : valB (y :: ys) = y.toNat * 256 ^ ys.length + valB ys := rfl
    rw [hA, hB]
    simp only [lexB]
    by_cases hxy : x = y
    · subst hxy
      rw [if_pos rfl, ih]
      simp only [Nat.add_lt_add_iff_left]
    · rw [if_neg hxy]
      have hne : x.toNat ≠ y.toNat := fun e => hxy (UInt8.toNat_inj.1 e)
      rcases Nat.lt_or_ge x.toNat y.toNat with hlt | hge
      · have h3 : (x.toNat + 1) * 256 ^ ys.length ≤ y.toNat * 256 ^ ys.length := Nat.mul_le_mul_right _ hlt
        rw [Nat.add_mul, Nat.one_mul] at h3
        rw [if_pos (UInt8.lt_iff_toNat_lt.2 hlt), if_pos (by omega)]
      · have h3 : (y.toNat + 1) * 256 ^ ys.length ≤ x.toNat * 256 ^ ys.length := Nat.mul_le_mul_right _ (by omega)
        rw [Nat.add_mul, Nat.one_mul] at h3
        rw [if_neg (by rw [UInt8.lt_iff_toNat_lt]; omega), if_neg (by omega), if_pos (by omega)]
theorem valB_inj : ∀ (xs ys : List UInt8), xs.length = ys.length → valB xs = valB ys → xs = ys
  | [], [], _, _ => rfl
  | [], _ :: _, h, _ => by simp at h
  | _ :: _, [], h, _ => by simp at h
  | x :: xs, y :: ys, h, hv => by
    have hl : xs.length = ys.length := by simpa using h
    have h1 := valB_lt xs
    have h2 := valB_lt ys
    simp only [valB] at hv
    rw [hl] at h1 hv
    have hxy : x.toNat = y.toNat := by
      rcases Nat.lt_trichotomy x.toNat y.toNat with hlt | he | hlt
      · have h3 : (x.toNat + 1) * 256 ^ ys.length ≤ y.toNat * 256 ^ ys.length := Nat.mul_le_mul_right _ hlt
        rw [Nat.add_mul, Nat.one_mul] at h3
        omega
      · exact he
      · have h3 : (y.toNat + 1) * 256 ^ ys.length ≤ x.toNat * 256 ^ ys.length := Nat.mul_le_mul_right _ hlt
        rw [Nat.add_mul, Nat.one_mul] at h3
        omega
    rw [hxy] at hv
    rw [UInt8.toNat_inj.1 hxy, valB_inj xs ys hl (by omega)]
abbrev bI (a : IDV) : List UInt8 := [a 0, a 1, a 2, a 3, a 4, a 5, a 6, a 7, a 8, a 9, a 10, a 11, a 12, a 13, a 14, a 15]
/-- an identity's number -/
def valI (a : IDV) : Nat := valB (bI a)
theorem bI_inj {a b : IDV} (h : bI a = bI b) : a = b := cI_eq.1 (by
  have := congrArg (List.map u8) h
  exact this)
theorem valI_inj {a b : IDV} (h : valI a = valI b) : a = b := bI_inj (valB_inj _ _ rfl h)
def cmpI (a b : IDV) : Int := if valI a < valI b then -1 else if valI b < valI a then 1 else 0
theorem cmp_bI (a b : IDV) : Extern.BytealgCompare.cmp (str (bI a)) (str (bI b)) = cmpI a b := by
  rw [cmp_lex (bI a) (bI b) rfl, lexB_val (bI a) (bI b) rfl]
  rfl
theorem run_loadBytesE {P : Program} {w : World} {b : Nat} : ∀ (l : List UInt8) (o : Nat) (acc : ByteArray), (∀ j x, l[j]? = some x → w.cell? ⟨b, o + j, none⟩ = some (u8 x)) →
    (Extern.Bytes.loadBytes ⟨b, o, none⟩ l.length acc).run P w = .ok ⟨acc.data ++ l.toArray⟩ w
  | [], o, acc, _ => by simp [Extern.Bytes.loadBytes]
  | x :: l, o, acc, h => by
    have h0 : w.cell? ⟨b, o, none⟩ = some (u8 x) := h 0 x rfl
    have ih := run_loadBytesE (P := P) (w := w) (b := b) l (o + 1) (acc.push x) (fun j y hy => by
      have := h (j + 1) y (by simpa using hy)
      rw [show o + 1 + j = o + (j + 1) by omega]; exact this)
    have hx : ((x.toNat : Int).toNat).toUInt8 = x := by simp
    simp only [List.length_cons, Extern.Bytes.loadBytes, Sem.run_bind, run_load, h0, Result.andThen_ok, addr_add, hx]
    rw [ih]
    congr 1
    apply ByteArray.ext
    simp [ByteArray.push]
theorem run_bytesOf {P : Program} {w : World} {v : Value} {m : Nat} {bs : List UInt8} (h : Row w v m (bs.map u8)) (hl : bs.length = m) : (Extern.Bytes.bytesOf v).run P w = .ok (str bs) w := by
  obtain ⟨a, c, rfl, _, h⟩ := h
  cases a with
  | none =>
    have : bs = [] := by
      rcases h with h | ⟨b, o, ha, _⟩
      · exact List.map_eq_nil_iff.1 h
      · cases ha
    subst this
    rfl
  | some a =>
    rcases h with h | ⟨b, o, ha, hc⟩
    · have := List.map_eq_nil_iff.1 h
      subst this
      simp only [List.length_nil] at hl
      subst hl
      rfl
    · simp only [Option.some.injEq] at ha
      subst ha
      subst hl
      simp only [Extern.Bytes.bytesOf]
      rw [run_loadBytesE bs o .empty (fun j x hj => by
        have hlt := (List.getElem?_eq_some_iff.1 hj).1
        have := hc j (by simpa using hlt)
        rw [this, List.getElem?_map, hj]; rfl)]
      simp [str]
theorem run_compare {P : Program} {w : World} {v1 v2 : Value} {xs ys : List UInt8} (h1 : Row w v1 xs.length (xs.map u8)) (h2 : Row w v2 ys.length (ys.map u8)) :
    (Extern.BytealgCompare.compare #[v1, v2]).run P w = .ok (.int .i64 (Extern.BytealgCompare.cmp (str xs) (str ys))) w := by
  have e : Extern.BytealgCompare.compare #[v1, v2] = (do pure (goInt (Extern.BytealgCompare.cmp (← Extern.Bytes.bytesOf v1) (← Extern.Bytes.bytesOf v2)))) := rfl
  rw [e]
  simp only [Sem.run_bind, run_bytesOf h1 rfl, run_bytesOf h2 rfl, Result.andThen_ok, Sem.run_pure]
  rfl
theorem Bel.grown {w w' : World} (h : Bel w w') : ∃ q os', w' = Sort.grow (w.drewN q) os' := by
  refine ⟨w'.drawn - w.drawn, w'.heap.extract w.heap.size w'.heap.size, ?_⟩
  have hh : w'.heap = w.heap ++ w'.heap.extract w.heap.size w'.heap.size := by
    apply Array.ext_getElem?
    intro k
    by_cases hk : k < w.heap.size
    · rw [Array.getElem?_append_left hk]
      exact h.block k hk
    · rw [Array.getElem?_append_right (by omega), Array.getElem?_extract]
      by_cases hk2 : k < w'.heap.size
      · rw [if_pos (by have := h.size; omega), show w.heap.size + (k - w.heap.size) = k by omega]
      · rw [if_neg (by omega), Array.getElem?_eq_none (by omega)]
  have hd : w.drawn + (w'.drawn - w.drawn) = w'.drawn := by have := h.drawn; omega
  cases w'
  simp only [Sort.grow, World.drewN] at hh hd ⊢
  have h1 := h.os; have h2 := h.tape; have h3 := h.output
  simp only at h1 h2 h3
  subst h1 h2 h3
  rw [← hh, hd]
end Go.J
/-
  Identities: closed facts, and what ident's and slices' first functions do: contracts.
-/
namespace Go.Proofs.Ytoaenmlhehcjfaa
namespace Ty
open Go.J Go.RowKit
set_option linter.unusedVariables false
set_option linter.unusedSimpArgs false
theorem size_ : Try.prog.types.size + 1 = 176 + 2 := by kernel_rfl
theorem cID : Try.prog.cellsOf 23 = 16 := by kernel_rfl
theorem cU8 : Try.prog.cellsOf 5 = 1 := by kernel_rfl
theorem litsI (a : IDV) (d : Nat) : Try.prog.keyLits (d + 2) 23 (cI a) = some (lI a).flatten := lits_id u23 u5 cID cU8
theorem keyI (a : IDV) : ∃ l, keyOf Try.prog 23 (.agg (cI a).toArray) = some l := key_of size_ (by kernel_rfl) (by kernel_rfl) (by rw [cID]; rfl) (litsI a _)
theorem QI : EqL Try.prog 23 := EqL.of (m := 4) (by kernel_rfl) (by omega) (by kernel_rfl) (by kernel_rfl) (by kernel_rfl)
theorem zID : zeroT Try.prog 23 = some (.agg (cI zI).toArray) := by kernel_rfl
end Ty
open Go.J Go.RowKit
set_option maxRecDepth 4000
/-- the cells of a row of identities -/
abbrev fI (xs : List IDV) : List Value := xs.flatMap cI
theorem fI_length : ∀ xs : List IDV, (fI xs).length = xs.length * 16
  | [] => rfl
  | x :: xs => by
    have := fI_length xs
    simp only [fI, List.flatMap_cons, List.length_append, List.length_cons] at this ⊢
    simp only [List.length_nil] at this ⊢
    omega
theorem fI_at : ∀ {xs : List IDV} {i : Nat} {a : IDV}, xs[i]? = some a → ((fI xs).drop (i * 16)).take 16 = cI a
  | [], i, a, h => by simp at h
  | x :: xs, 0, a, h => by
    simp only [List.getElem?_cons_zero, Option.some.injEq] at h
    subst h
    rfl
  | x :: xs, i + 1, a, h => by
    have ih := fI_at (xs := xs) (i := i) (by simpa using h)
    rw [show (i + 1) * 16 = 16 + i * 16 by omega]
    show (((cI x ++ fI xs).drop (16 + i * 16)).take 16) = cI a
    rw [← List.drop_drop, show (cI x ++ fI xs).drop 16 = fI xs from rfl]
    exact ih
theorem rowF_at {w : World} {b o k c q i : Nat} {xs : List IDV} {a : IDV} (h : Row w (.slice (some ⟨b, o, none⟩) k c) k (fI xs)) (hi : xs[i]? = some a) (hq : q = o + i * 16) : Cells w b q (cI a) := by
  have hl : i < xs.length := (List.getElem?_eq_some_iff.1 hi).1
  have hlen := fI_length xs
  obtain ⟨b', o', c', hv, _, hc⟩ := Row.some h (by omega)
  simp only [Value.slice.injEq, Option.some.injEq, Addr.mk.injEq] at hv
  obtain ⟨⟨rfl, rfl, _⟩, _, rfl⟩ := hv
  subst hq
  intro j hj
  have hj16 : j < 16 := hj
  rw [Nat.add_assoc, hc (i * 16 + j) (by omega)]
  have e := fI_at hi
  have : (cI a)[j]? = (((fI xs).drop (i * 16)).take 16)[j]? := by rw [e]
  rw [this, List.getElem?_take_of_lt hj16, List.getElem?_drop]
theorem bcompare_spec (v1 v2 : Value) (xs ys : List UInt8) (w : World) (hr1 : Row w v1 xs.length (xs.map u8)) (hr2 : Row w v2 ys.length (ys.map u8)) :
    Calls Try.prog 59 [v1, v2].toArray w fun r w' => r = .returned (.int .i64 (Extern.BytealgCompare.cmp (str xs) (str ys))) ∧ Bel w w' := by
  refine calls_of_J (args := [v1, v2]) (e := [(0, v1), (1, v2)]) Try.func59 rfl rfl ⟨rfl, rfl, trivial⟩ (St.start w) ?_
  refine JC.seq (fun K0 hK0 => ?_)
  refine JC.region ?_
  refine J.assign rfl rfl ?_
  refine J.nil ?_
  refine JX.thenN (hK0 _ _ ?_)
  refine JC.seq (fun K1 hK1 => ?_)
  refine JC.region ?_
  refine J.move rfl rfl ?_
  refine J.move rfl rfl ?_
  refine J.callX (v := .int .i64 (Extern.BytealgCompare.cmp (str xs) (str ys))) Try.func75 (by kernel_rfl) (by kernel_rfl) (by kernel_rfl) (ex := Extern.BytealgCompare.compare) (by kernel_rfl) rfl rfl (fun w1 hw => run_compare (hr1.below hw.below) (hr2.below hw.below)) ?_
  refine J.assign rfl rfl ?_
  refine J.nil ?_
  refine JX.thenN (hK1 _ _ ?_)
  refine JC.ret ?_
  refine JX.ret1 rfl rfl (fun w hw => ?_)
  exact ⟨rfl, hw.below⟩

theorem compare_spec (a b : IDV) (w : World) :
    Calls Try.prog 43 [.agg (cI a).toArray, .agg (cI b).toArray].toArray w fun r w' => r = .returned (.int .i64 (cmpI a b)) ∧ Bel w w' := by
  refine calls_of_J (args := [.agg (cI a).toArray, .agg (cI b).toArray]) (e := [(0, .agg (cI a).toArray), (1, .agg (cI b).toArray)]) Try.func43 rfl rfl ⟨rfl, rfl, trivial⟩ (St.start w) ?_
  refine JC.seq (fun K0 hK0 => ?_)
  refine JC.region ?_
  refine J.box rfl rfl rfl (fun b2 => ?_)
  refine J.box rfl rfl rfl (fun b3 => ?_)
  refine J.assign rfl rfl ?_
  refine J.nil ?_
  refine JX.thenN (hK0 _ _ ?_)
  refine JC.seq (fun K1 hK1 => ?_)
  apply JC.drawL 3 [Eqv (.slice (some ⟨b2, 0, none⟩) 16 16), Eqv (.slice (some ⟨b3, 0, none⟩) 16 16), Eqv (.int .i64 (cmpI a b))] Ty.mixed rfl rfl rfl (by kernel_rfl) rfl rfl (fun w w' hw hb => hw.step hb) ⟨fun _ _ _ h _ => h, fun _ _ _ h _ => h, fun _ _ _ h _ => h, trivial⟩ ?hstep ?htail
  case hstep =>
    refine ⟨fun wi => ?_, fun wi => ?_, fun wi => ?_, trivial⟩
    · skip
      refine Fin.nil ?_
      refine J.sliceAll Ty.ar23 (by rw [Ty.s5]; rfl) rfl rfl ?_
      exact J.finP rfl
    · skip
      refine Fin.nil ?_
      refine J.sliceAll Ty.ar23 (by rw [Ty.s5]; rfl) rfl rfl ?_
      exact J.finP rfl
    · skip
      refine Fin.consE rfl (Fin.consE rfl (Fin.nil ?_))
      refine J.callD (v := .int .i64 (cmpI a b)) Ty.bd59 rfl rfl (fun w1 hw => by
        have h := bcompare_spec (.slice (some ⟨b2, 0, none⟩) 16 16) (.slice (some ⟨b3, 0, none⟩) 16 16) (bI a) (bI b) w1 (Row.own hw (.tail _ (.head _)) rfl (Nat.le_refl _)) (Row.own hw (.head _) rfl (Nat.le_refl _))
        rw [cmp_bI] at h
        exact h) ?_
      exact J.finQ rfl
  case htail =>
    refine Fin.consE rfl (Fin.consE rfl (Fin.consE rfl (Fin.nil ?_)))
    refine J.assign rfl rfl ?_
    refine J.nil ?_
    refine JX.thenN (hK1 _ _ ?_)
    refine JC.ret ?_
    refine JX.ret1 rfl rfl (fun w hw => ?_)
    exact ⟨rfl, hw.below⟩

end Go.Proofs.Ytoaenmlhehcjfaa
/-
  The document's identities as two words: Wide, Less: contracts.
-/
namespace Go.Proofs.Ytoaenmlhehcjfaa
open Go.J Go.RowKit
set_option linter.unusedVariables false
set_option linter.unusedSimpArgs false
set_option maxRecDepth 4000
theorem valB_append : ∀ (xs ys : List UInt8), valB (xs ++ ys) = valB xs * 256 ^ ys.length + valB ys
  | [], ys => by simp [valB]
  | x :: xs, ys => by
    simp only [List.cons_append, valB, valB_append xs ys, List.length_append, Nat.pow_add]
    rw [Nat.add_mul, Nat.mul_assoc, Nat.add_assoc]
theorem valB_snoc (xs : List UInt8) (b : UInt8) : valB (xs ++ [b]) = valB xs * 256 + b.toNat := by
  rw [valB_append]; simp [valB]
def hiI (a : IDV) : Nat := valB ((bI a).take 8)
def loI (a : IDV) : Nat := valB ((bI a).drop 8)
theorem valI_hl (a : IDV) : valI a = hiI a * 2 ^ 64 + loI a := by
  have : bI a = (bI a).take 8 ++ (bI a).drop 8 := (List.take_append_drop 8 _).symm
  unfold valI
  rw [this, valB_append, show ((bI a).drop 8).length = 8 from rfl, show (256 : Nat) ^ 8 = 2 ^ 64 by decide]
  rfl
theorem loI_lt (a : IDV) : loI a < 18446744073709551616 := by
  have := valB_lt ((bI a).drop 8)
  simpa [loI] using this
theorem valB_take_lt (l : List UInt8) (k : Nat) : valB (l.take k) < 256 ^ k := by
  have h := valB_lt (l.take k)
  refine Nat.lt_of_lt_of_le h (Nat.pow_le_pow_right (by omega) ?_)
  rw [List.length_take]; omega
theorem valB_take_succ {l : List UInt8} {k : Nat} (h : k < l.length) : valB (l.take (k + 1)) = valB (l.take k) * 256 + (l[k]).toNat := by
  rw [take_add_one h, valB_snoc]
theorem muladd_u64 (n x : Nat) : Value.int .u64 (IntKind.u64.wrap (IntKind.u64.wrap ((n : Int) * 256) + IntKind.u64.wrap (x : Int))) = .int .u64 (((n * 256 + x) % 18446744073709551616 : Nat) : Int) := by
  congr 1
  rw [wrap_u64m, wrap_u64m, wrap_u64m]; omega
theorem take_bound {l : List UInt8} {k : Nat} (hk : k < 8) (h : k < l.length) : (valB (l.take k) * 256 + (l[k]).toNat) % 18446744073709551616 = valB (l.take (k + 1)) := by
  rw [← valB_take_succ h]
  refine Nat.mod_eq_of_lt (Nat.lt_of_lt_of_le (valB_take_lt l (k + 1)) ?_)
  exact Nat.le_trans (Nat.pow_le_pow_right (by omega) (show k + 1 ≤ 8 by omega)) (by decide)
theorem less_hl (a b : IDV) : (decide (hiI a < hiI b) || (decide (hiI a = hiI b) && decide (loI a < loI b))) = decide (valI a < valI b) := by
  have h1 := loI_lt a
  have h2 := loI_lt b
  rw [← Bool.decide_and, ← Bool.decide_or]
  refine decide_eq_decide.2 ?_
  rw [valI_hl a, valI_hl b]
  omega

theorem wide_spec (a : IDV) (w : World) :
    Calls Try.prog 50 [.agg (cI a).toArray].toArray w fun r w' => r = .returned (.tuple #[.int .u64 ((hiI a : Nat) : Int), .int .u64 ((loI a : Nat) : Int)]) ∧ Bel w w' := by
  refine calls_of_J (args := [.agg (cI a).toArray]) (e := [(0, .agg (cI a).toArray)]) Try.func50 rfl rfl ⟨rfl, trivial⟩ (St.start w) ?_
  refine JC.seq (fun K0 hK0 => ?_)
  refine JC.region ?_
  refine J.box rfl rfl rfl (fun b1 => ?_)
  refine J.assign rfl rfl ?_
  refine J.assign rfl rfl ?_
  refine J.nil ?_
  refine JX.thenN (hK0 _ _ ?_)
  refine JC.seq (fun K1 hK1 => ?_)
  refine JC.region ?_
  refine J.assign rfl rfl ?_
  refine J.assign rfl rfl ?_
  refine J.nil ?_
  refine JX.thenN (hK1 _ _ ?_)
  refine JC.seq (fun K2 hK2 => ?_)
  refine JC.seq (fun K3 hK3 => ?_)
  refine JC.region ?_
  refine J.assign rfl rfl ?_
  refine J.nil ?_
  refine JX.thenN (hK3 _ _ ?_)
  refine JC.block ?_
  refine JC.conseq (JC.cov (f := (fun k => [(1, .pointer (some ⟨b1, 0, none⟩)), (4, .int .u64 ((valB ((bI a).take k) : Nat) : Int)), (5, .int .u64 ((valB (((bI a).drop 8).take k) : Nat) : Int)), (6, .int .i64 ((k : Nat) : Int))]) 0) ⟨rfl, rfl, rfl, rfl, trivial⟩ (JC.loop (α := Nat) (fun k => [(1, .pointer (some ⟨b1, 0, none⟩)), (4, .int .u64 ((valB ((bI a).take k) : Nat) : Int)), (5, .int .u64 ((valB (((bI a).drop 8).take k) : Nat) : Int)), (6, .int .i64 ((k : Nat) : Int))]) (fun k w' => (k ≤ 8) ∧ St w [] [(b1, cb (cI a) 23)] w') (fun k => 8 - k) 0 (fun k => ?_))) (fun w hw => ⟨by omega, hw⟩)
  refine JC.pr (fun hk8 => ?_)
  refine JC.seq (fun K4 hK4 => ?_)
  refine JC.seq (fun K5 hK5 => ?_)
  refine JC.region ?_
  refine J.move rfl rfl ?_
  refine J.bin rfl rfl rfl rfl ?_
  refine J.nil ?_
  refine JX.thenN (hK5 _ _ ?_)
  refine JC.cond rfl (fun h0 => ?_) (fun h0 => ?_)
  · skip
    have hlt : k < 8 := by simp at h0; omega
    refine JC.skip ?_
    refine JX.thenN (hK4 _ _ ?_)
    refine JC.seq (fun K6 hK6 => ?_)
    refine JC.block ?_
    refine JC.seq (fun K7 hK7 => ?_)
    refine JC.region ?_
    refine J.move rfl rfl ?_
    refine J.bin rfl rfl rfl rfl ?_
    refine J.move rfl rfl ?_
    refine J.indexAddrA Ty.ar23 Ty.s5 rfl rfl (by omega) (by omega) rfl ?_
    refine J.load1 (v := u8 ((bI a)[k]'(by show _ < 16; omega))) Ty.a5 rfl (fun w1 hw => (cell_of (hw.own _ (.head _))).trans (by rw [show 0 + ((k : Int) : Int).toNat * 1 = k by omega]; show ((bI a).map u8)[k]? = _; rw [List.getElem?_map, List.getElem?_eq_getElem (show k < (bI a).length by show _ < 16; omega)]; rfl)) rfl ?_
    refine J.convInt Ty.u5 Ty.u81 rfl rfl ?_
    refine J.bin rfl rfl rfl rfl ?_
    refine J.name 17 rfl ((muladd_u64 _ ((bI a)[k]'(by show _ < 16; omega)).toNat).trans (by rw [take_bound hlt])) ?_
    refine J.assign rfl rfl ?_
    refine J.nil ?_
    refine JX.thenN (hK7 _ _ ?_)
    refine JC.region ?_
    refine J.move rfl rfl ?_
    refine J.bin rfl rfl rfl rfl ?_
    refine J.move rfl rfl ?_
    (first | refine J.addN rfl rfl (by omega) (by omega) rfl ?_ | refine J.bin rfl rfl rfl rfl ?_)
    refine J.indexAddrA Ty.ar23 Ty.s5 rfl rfl (by omega) (by omega) rfl ?_
    refine J.load1 (v := u8 ((bI a)[8 + k]'(by show _ < 16; omega))) Ty.a5 rfl (fun w1 hw => (cell_of (hw.own _ (.head _))).trans (by rw [show 0 + (8 + (k : Int) : Int).toNat * 1 = 8 + k by omega]; show ((bI a).map u8)[8 + k]? = _; rw [List.getElem?_map, List.getElem?_eq_getElem (show 8 + k < (bI a).length by show _ < 16; omega)]; rfl)) rfl ?_
    refine J.convInt Ty.u5 Ty.u81 rfl rfl ?_
    refine J.bin rfl rfl rfl rfl ?_
    refine J.name 25 rfl ((muladd_u64 _ ((bI a)[8 + k]'(by show _ < 16; omega)).toNat).trans (by
      have e : (bI a)[8 + k]'(by show _ < 16; omega) = ((bI a).drop 8)[k]'(by show k < 8; omega) := by rw [List.getElem_drop]
      rw [e, take_bound hlt (by show k < 8; omega)])) ?_
    refine J.assign rfl rfl ?_
    refine J.nil ?_
    refine JX.blockN ?_
    refine JX.thenN (hK6 _ _ ?_)
    refine JC.region ?_
    refine J.move rfl rfl ?_
    (first | refine J.addN rfl rfl (by omega) (by omega) rfl ?_ | refine J.bin rfl rfl rfl rfl ?_)
    refine J.assign rfl rfl ?_
    refine J.nil ?_
    refine JX.thenN ?_
    refine JX.again (k + 1) ?_ ?_ ?_
    · omega
    · exact ⟨rfl, rfl, rfl, rfl, trivial⟩
    · exact fun w1 hw => ⟨hlt, hw⟩
  · skip
    have hge : k = 8 := by simp at h0; omega
    subst hge
    refine JC.exit ?_
    refine JX.thenE ?_
    refine JX.thenE ?_
    refine JX.blockE ?_
    refine JX.thenN (hK2 _ _ ?_)
    refine JC.seq (fun K8 hK8 => ?_)
    refine JC.region ?_
    refine J.move rfl rfl ?_
    refine J.move rfl rfl ?_
    refine J.assign rfl rfl ?_
    refine J.assign rfl rfl ?_
    refine J.nil ?_
    refine JX.thenN (hK8 _ _ ?_)
    refine JC.ret ?_
    refine JX.ret2 rfl rfl rfl (fun w hw => ?_)
    exact ⟨rfl, hw.below⟩

theorem less_spec (a b : IDV) (w : World) :
    Calls Try.prog 21 [.agg (cI a).toArray, .agg (cI b).toArray].toArray w fun r w' => r = .returned (.bool (decide (valI a < valI b))) ∧ Bel w w' := by
  refine calls_of_J (args := [.agg (cI a).toArray, .agg (cI b).toArray]) (e := [(0, .agg (cI a).toArray), (1, .agg (cI b).toArray)]) Try.func21 rfl rfl ⟨rfl, rfl, trivial⟩ (St.start w) ?_
  refine JC.seq (fun K0 hK0 => ?_)
  refine JC.region ?_
  refine J.box rfl rfl rfl (fun b2 => ?_)
  refine J.box rfl rfl rfl (fun b3 => ?_)
  refine J.assign rfl rfl ?_
  refine J.nil ?_
  refine JX.thenN (hK0 _ _ ?_)
  refine JC.seq (fun K1 hK1 => ?_)
  refine JC.region ?_
  refine J.loadOA (vs := cI a) Ty.a23 Ty.s23 rfl (by repeat first | exact .head _ | apply List.Mem.tail | apply List.mem_append_right) (by exact rfl) rfl rfl ?_
  refine J.callB (v := .tuple #[.int .u64 ((hiI a : Nat) : Int), .int .u64 ((loI a : Nat) : Int)]) (fun w1 w2 hw hb => hw.step hb) Ty.bd50 rfl rfl (fun w1 hw => wide_spec a w1) ?_
  refine J.move rfl rfl ?_
  refine J.extract rfl rfl rfl ?_
  refine J.extract rfl rfl rfl ?_
  refine J.assign rfl rfl ?_
  refine J.assign rfl rfl ?_
  refine J.nil ?_
  refine JX.thenN (hK1 _ _ ?_)
  refine JC.seq (fun K2 hK2 => ?_)
  refine JC.region ?_
  refine J.loadOA (vs := cI b) Ty.a23 Ty.s23 rfl (by repeat first | exact .head _ | apply List.Mem.tail | apply List.mem_append_right) (by exact rfl) rfl rfl ?_
  refine J.callB (v := .tuple #[.int .u64 ((hiI b : Nat) : Int), .int .u64 ((loI b : Nat) : Int)]) (fun w1 w2 hw hb => hw.step hb) Ty.bd50 rfl rfl (fun w1 hw => wide_spec b w1) ?_
  refine J.move rfl rfl ?_
  refine J.extract rfl rfl rfl ?_
  refine J.extract rfl rfl rfl ?_
  refine J.assign rfl rfl ?_
  refine J.assign rfl rfl ?_
  refine J.nil ?_
  refine JX.thenN (hK2 _ _ ?_)
  refine JC.seq (fun K3 hK3 => ?_)
  refine JC.region ?_
  refine J.move rfl rfl ?_
  refine J.move rfl rfl ?_
  refine J.bin rfl rfl rfl rfl ?_
  refine J.name 21 rfl (show _ = Value.bool (decide (hiI a < hiI b)) by first | (congr 1; refine decide_eq_decide.2 ?_; omega) | (simp; done) | (simp; omega)) ?_
  refine J.move rfl rfl ?_
  refine J.split 22 rfl (fun hs22 => ?_) (fun hs22 => ?_)
  · skip
    try simp only [decide_eq_true_eq, decide_eq_false_iff_not, beq_iff_eq, bne_iff_ne, bne_eq_false_iff_eq, ne_eq, beq_eq_false_iff_ne, Bool.not_eq_true, Bool.not_eq_false, Int.not_lt, Int.not_le] at hs22
    first
    | exact absurd hs22 (by decide)
    | skip
      first | refine J.skip rfl rfl rfl rfl rfl ?_ | refine J.skipU rfl rfl rfl rfl ?_ | (refine J.unguard rfl rfl rfl ?_; refine J.move rfl rfl ?_)
      first | refine J.skip rfl rfl rfl rfl rfl ?_ | refine J.skipU rfl rfl rfl rfl ?_ | (refine J.unguard rfl rfl rfl ?_; refine J.move rfl rfl ?_)
      first | refine J.skip rfl rfl rfl rfl rfl ?_ | refine J.skipU rfl rfl rfl rfl ?_ | (refine J.unguard rfl rfl rfl ?_; refine J.bin rfl rfl rfl rfl ?_; refine J.name 25 rfl (show _ = Value.bool (decide (hiI a = hiI b)) by first | (congr 1; refine decide_eq_decide.2 ?_; omega) | (simp; done) | (simp; omega)) ?_)
      first | refine J.skip rfl rfl rfl rfl rfl ?_ | refine J.skipU rfl rfl rfl rfl ?_ | (refine J.unguard rfl rfl rfl ?_; refine J.move rfl rfl ?_)
      first | refine J.skip rfl rfl rfl rfl rfl ?_ | refine J.skipU rfl rfl rfl rfl ?_ | (refine J.unguard rfl rfl rfl ?_; refine J.move rfl rfl ?_)
      first | refine J.skip rfl rfl rfl rfl rfl ?_ | refine J.skipU rfl rfl rfl rfl ?_ | (refine J.unguard rfl rfl rfl ?_; refine J.move rfl rfl ?_)
      first | refine J.skip rfl rfl rfl rfl rfl ?_ | refine J.skipU rfl rfl rfl rfl ?_ | (refine J.unguard rfl rfl rfl ?_; refine J.bin rfl rfl rfl rfl ?_; refine J.name 29 rfl (show _ = Value.bool (decide (loI a < loI b)) by first | (congr 1; refine decide_eq_decide.2 ?_; omega) | (simp; done) | (simp; omega)) ?_)
      first | refine J.skip rfl rfl rfl rfl rfl ?_ | refine J.skipU rfl rfl rfl rfl ?_ | (refine J.unguard rfl rfl rfl ?_; (first | refine J.pickT rfl rfl rfl ?_ | refine J.pickF rfl rfl rfl ?_))
      (first | refine J.pickT rfl rfl rfl ?_ | refine J.pickF rfl rfl rfl ?_)
      refine J.assign rfl rfl ?_
      refine J.nil ?_
      refine JX.thenN (hK3 _ _ ?_)
      refine JC.ret ?_
      refine JX.ret1 rfl rfl (fun w hw => ?_)
      refine ⟨?_, hw.below⟩
      rw [← less_hl]
      simp_all
  · skip
    try simp only [decide_eq_true_eq, decide_eq_false_iff_not, beq_iff_eq, bne_iff_ne, bne_eq_false_iff_eq, ne_eq, beq_eq_false_iff_ne, Bool.not_eq_true, Bool.not_eq_false, Int.not_lt, Int.not_le] at hs22
    first
    | exact absurd hs22 (by decide)
    | skip
      first | refine J.skip rfl rfl rfl rfl rfl ?_ | refine J.skipU rfl rfl rfl rfl ?_ | (refine J.unguard rfl rfl rfl ?_; refine J.move rfl rfl ?_)
      first | refine J.skip rfl rfl rfl rfl rfl ?_ | refine J.skipU rfl rfl rfl rfl ?_ | (refine J.unguard rfl rfl rfl ?_; refine J.move rfl rfl ?_)
      first | refine J.skip rfl rfl rfl rfl rfl ?_ | refine J.skipU rfl rfl rfl rfl ?_ | (refine J.unguard rfl rfl rfl ?_; refine J.bin rfl rfl rfl rfl ?_; refine J.name 25 rfl (show _ = Value.bool (decide (hiI a = hiI b)) by first | (congr 1; refine decide_eq_decide.2 ?_; omega) | (simp; done) | (simp; omega)) ?_)
      first | refine J.skip rfl rfl rfl rfl rfl ?_ | refine J.skipU rfl rfl rfl rfl ?_ | (refine J.unguard rfl rfl rfl ?_; refine J.move rfl rfl ?_)
      refine J.split 26 rfl (fun hs26 => ?_) (fun hs26 => ?_)
      · skip
        try simp only [decide_eq_true_eq, decide_eq_false_iff_not, beq_iff_eq, bne_iff_ne, bne_eq_false_iff_eq, ne_eq, beq_eq_false_iff_ne, Bool.not_eq_true, Bool.not_eq_false, Int.not_lt, Int.not_le] at hs26
        first
        | exact absurd hs26 (by decide)
        | skip
          first | refine J.skip rfl rfl rfl rfl rfl ?_ | refine J.skipU rfl rfl rfl rfl ?_ | (refine J.unguard rfl rfl rfl ?_; refine J.move rfl rfl ?_)
          first | refine J.skip rfl rfl rfl rfl rfl ?_ | refine J.skipU rfl rfl rfl rfl ?_ | (refine J.unguard rfl rfl rfl ?_; refine J.move rfl rfl ?_)
          first | refine J.skip rfl rfl rfl rfl rfl ?_ | refine J.skipU rfl rfl rfl rfl ?_ | (refine J.unguard rfl rfl rfl ?_; refine J.bin rfl rfl rfl rfl ?_; refine J.name 29 rfl (show _ = Value.bool (decide (loI a < loI b)) by first | (congr 1; refine decide_eq_decide.2 ?_; omega) | (simp; done) | (simp; omega)) ?_)
          first | refine J.skip rfl rfl rfl rfl rfl ?_ | refine J.skipU rfl rfl rfl rfl ?_ | (refine J.unguard rfl rfl rfl ?_; (first | refine J.pickT rfl rfl rfl ?_ | refine J.pickF rfl rfl rfl ?_))
          (first | refine J.pickT rfl rfl rfl ?_ | refine J.pickF rfl rfl rfl ?_)
          refine J.assign rfl rfl ?_
          refine J.nil ?_
          refine JX.thenN (hK3 _ _ ?_)
          refine JC.ret ?_
          refine JX.ret1 rfl rfl (fun w hw => ?_)
          refine ⟨?_, hw.below⟩
          rw [← less_hl]
          simp_all
      · skip
        try simp only [decide_eq_true_eq, decide_eq_false_iff_not, beq_iff_eq, bne_iff_ne, bne_eq_false_iff_eq, ne_eq, beq_eq_false_iff_ne, Bool.not_eq_true, Bool.not_eq_false, Int.not_lt, Int.not_le] at hs26
        first
        | exact absurd hs26 (by decide)
        | skip
          first | refine J.skip rfl rfl rfl rfl rfl ?_ | refine J.skipU rfl rfl rfl rfl ?_ | (refine J.unguard rfl rfl rfl ?_; refine J.move rfl rfl ?_)
          first | refine J.skip rfl rfl rfl rfl rfl ?_ | refine J.skipU rfl rfl rfl rfl ?_ | (refine J.unguard rfl rfl rfl ?_; refine J.move rfl rfl ?_)
          first | refine J.skip rfl rfl rfl rfl rfl ?_ | refine J.skipU rfl rfl rfl rfl ?_ | (refine J.unguard rfl rfl rfl ?_; refine J.bin rfl rfl rfl rfl ?_; refine J.name 29 rfl (show _ = Value.bool (decide (loI a < loI b)) by first | (congr 1; refine decide_eq_decide.2 ?_; omega) | (simp; done) | (simp; omega)) ?_)
          first | refine J.skip rfl rfl rfl rfl rfl ?_ | refine J.skipU rfl rfl rfl rfl ?_ | (refine J.unguard rfl rfl rfl ?_; (first | refine J.pickT rfl rfl rfl ?_ | refine J.pickF rfl rfl rfl ?_))
          (first | refine J.pickT rfl rfl rfl ?_ | refine J.pickF rfl rfl rfl ?_)
          refine J.assign rfl rfl ?_
          refine J.nil ?_
          refine JX.thenN (hK3 _ _ ?_)
          refine JC.ret ?_
          refine JX.ret1 rfl rfl (fun w hw => ?_)
          refine ⟨?_, hw.below⟩
          rw [← less_hl]
          simp_all

end Go.Proofs.Ytoaenmlhehcjfaa
/-
  Numbers and texts in bytes: wire.PutNum, PutText: contracts.
-/
namespace Go.Proofs.Ytoaenmlhehcjfaa
open Go.J Go.RowKit
set_option linter.unusedVariables false
set_option linter.unusedSimpArgs false
set_option maxRecDepth 8000
/-- how many bytes a number takes -/
def widF : Nat → Nat → Nat
  | 0, _ => 0
  | f + 1, n => if n = 0 then 0 else widF f (n / 256) + 1
def wid (n : Nat) : Nat := widF 8 n
theorem widF_le : ∀ f n, widF f n ≤ f
  | 0, _ => Nat.le_refl _
  | f + 1, n => by
    unfold widF
    have := widF_le f (n / 256)
    split <;> omega
theorem wid_le (n : Nat) : wid n ≤ 8 := widF_le 8 n
theorem widF_lt : ∀ (f n k : Nat), k < f → (k < widF f n ↔ 0 < n / 256 ^ k)
  | 0, _, k, h => by omega
  | f + 1, n, 0, _ => by
    unfold widF
    rw [Nat.pow_zero, Nat.div_one]
    split <;> omega
  | f + 1, n, k + 1, h => by
    unfold widF
    by_cases h0 : n = 0
    · rw [if_pos h0, h0, Nat.zero_div]; omega
    · rw [if_neg h0, Nat.add_lt_add_iff_right, widF_lt f (n / 256) k (by omega), Nat.div_div_eq_div_mul, Nat.pow_succ, Nat.mul_comm]
theorem wid_lt {n k : Nat} (h : k < 8) : k < wid n ↔ 0 < n / 2 ^ (8 * k) := by
  rw [Nat.pow_mul]
  exact widF_lt 8 n k h
theorem wid_pow : ∀ (f n : Nat), n < 256 ^ f → n < 256 ^ widF f n
  | 0, n, h => h
  | f + 1, n, h => by
    unfold widF
    by_cases h0 : n = 0
    · rw [if_pos h0, h0]; decide
    · rw [if_neg h0, Nat.pow_succ]
      have := wid_pow f (n / 256) (by rw [Nat.pow_succ] at h; omega)
      omega
theorem wid_ub {n : Nat} (h : n < 18446744073709551616) : n < 256 ^ wid n := wid_pow 8 n h
/-- a number's bytes -/
def numB (n : Nat) : List UInt8 := UInt8.ofNat (wid n) :: (List.range (wid n)).map (fun i => UInt8.ofNat (n / 2 ^ (8 * (wid n - 1 - i))))
def textB (bs : List UInt8) : List UInt8 := numB bs.length ++ bs
theorem numB_len (n : Nat) : (numB n).length = 1 + wid n := by simp [numB]; omega
theorem numB_le (n : Nat) : (numB n).length ≤ 9 := by
  have := wid_le n
  rw [numB_len]; omega
theorem numB_0 (n : Nat) : (numB n).take 1 = [UInt8.ofNat (wid n)] := rfl
theorem numB_snoc {n i : Nat} (h : i < wid n) : (numB n).take (1 + (i + 1)) = (numB n).take (1 + i) ++ [UInt8.ofNat (n / 2 ^ (8 * (wid n - 1 - i)))] := by
  rw [show 1 + (i + 1) = (1 + i) + 1 by omega, take_add_one (by rw [numB_len]; omega)]
  congr 2
  simp only [numB, Nat.add_comm 1 i, List.getElem_cons_succ, List.getElem_map, List.getElem_range]
theorem nums_le (ns : List Nat) : (ns.flatMap numB).length ≤ 9 * ns.length := by
  induction ns with
  | nil => exact Nat.le_refl _
  | cons n ns ih =>
    rw [List.flatMap_cons, List.length_append, List.length_cons]
    have := numB_le n
    omega
theorem nums_snoc {ns : List Nat} {k n : Nat} (h : ns[k]? = some n) : (ns.take (k + 1)).flatMap numB = (ns.take k).flatMap numB ++ numB n := by
  rw [List.take_add_one, h, List.flatMap_append]
  simp
theorem shr_nat (n j : Nat) {q : Int} (hq : q = ((8 * j : Nat) : Int)) (hj : j ≤ 7) : Int.fdiv ((n : Nat) : Int) (2 ^ (min q.toNat IntKind.u64.bits)) = ((n / 2 ^ (8 * j) : Nat) : Int) := by
  have e1 : min q.toNat IntKind.u64.bits = 8 * j := by
    have : IntKind.u64.bits = 64 := rfl
    omega
  have e2 : ((2 : Int) ^ (8 * j)) = ((2 ^ (8 * j) : Nat) : Int) := by simp
  rw [e1, e2, Int.fdiv_eq_ediv_of_nonneg _ (Int.natCast_nonneg _)]
  rfl
theorem conv_u8 (n : Nat) : Value.int .u8 (IntKind.u8.wrap ((n : Nat) : Int)) = u8 (UInt8.ofNat n) := by
  rw [wrap_u8m]
  show Value.int .u8 _ = Value.int .u8 _
  congr 1 <;> simp
theorem byte_num (n i : Nat) (h : i < wid n) {q : Int} (hq : q = 8 * ((wid n : Int) - 1 - (i : Int))) : Value.int .u8 (IntKind.u8.wrap (Int.fdiv ((n : Nat) : Int) (2 ^ (min q.toNat IntKind.u64.bits)))) = u8 (UInt8.ofNat (n / 2 ^ (8 * (wid n - 1 - i)))) := by
  have := wid_le n
  rw [shr_nat n (wid n - 1 - i) (by omega) (by omega), conv_u8]
structure ByS where
  i : Nat
  v : Value
  lp : List (Nat × Obj)

theorem putNum_spec (v : Value) (ns : List Nat) (w : World) (hr : Row w v ns.length (ns.map fun n => .int .u64 ((n : Nat) : Int))) (hn : ns.length ≤ 1000) :
    Calls Try.prog 39 [v].toArray w fun r w' => ∃ x : Value × List (Nat × Obj), r = .returned x.1 ∧ Vec 5 1 x.1 (ns.flatMap numB).length ((ns.flatMap numB).map u8) x.2 ∧ St w [] x.2 w' := by
  obtain ⟨a, c, rfl, hc, hra⟩ := hr
  refine calls_of_J (args := [.slice a ns.length c]) (e := [(0, .slice a ns.length c)]) Try.func39 rfl rfl ⟨rfl, trivial⟩ (St.start w) ?_
  refine JC.seq (fun K0 hK0 => ?_)
  refine JC.region ?_
  refine J.assign rfl rfl ?_
  refine J.nil ?_
  refine JX.thenN (hK0 _ _ ?_)
  refine JC.seq (fun K1 hK1 => ?_)
  refine JC.region ?_
  refine J.assign rfl rfl ?_
  refine J.nil ?_
  refine JX.thenN (hK1 _ _ ?_)
  refine JC.seq (fun K2 hK2 => ?_)
  refine JC.seq (fun K3 hK3 => ?_)
  refine JC.region ?_
  refine J.move rfl rfl ?_
  refine J.lenS rfl Ty.u118 rfl rfl ?_
  refine J.move rfl rfl ?_
  refine J.nil ?_
  refine JX.thenN (hK3 _ _ ?_)
  refine JC.block ?_
  refine JC.conseq (JC.cov (f := (fun st => [(8, .slice a ns.length c), (9, .int .i64 ((ns.length : Nat) : Int)), (10, .int .i64 ((st.i : Nat) : Int)), (3, st.v)]) (⟨0, .slice none 0 0, []⟩ : ByS)) ⟨rfl, rfl, rfl, rfl, trivial⟩ (JC.loop (α := ByS) (fun st => [(8, .slice a ns.length c), (9, .int .i64 ((ns.length : Nat) : Int)), (10, .int .i64 ((st.i : Nat) : Int)), (3, st.v)]) (fun st w' => (st.i ≤ ns.length ∧ Vec 5 1 st.v (((ns.take st.i).flatMap numB)).length ((((ns.take st.i).flatMap numB)).map u8) st.lp) ∧ St w [] st.lp w') (fun st => ns.length - st.i) (⟨0, .slice none 0 0, []⟩ : ByS) (fun st => ?_))) (fun w hw => ⟨⟨Nat.zero_le _, Vec.nil _ _⟩, hw⟩)
  obtain ⟨k, v3, l3⟩ := st
  refine JC.pr (fun hI => ?_)
  obtain ⟨hk, hv3⟩ := hI
  try simp only at hk hv3 ⊢
  refine JC.seq (fun K4 hK4 => ?_)
  refine JC.region ?_
  refine J.bin rfl rfl rfl rfl ?_
  refine J.nil ?_
  refine JX.thenN (hK4 _ _ ?_)
  refine JC.seq (fun K5 hK5 => ?_)
  refine JC.cond rfl (fun h0 => ?_) (fun h0 => ?_)
  · skip
    have hlt : k < ns.length := by simp at h0; omega
    obtain ⟨nk, hnk⟩ : ∃ x, ns[k]? = some x := ⟨_, List.getElem?_eq_getElem hlt⟩
    obtain ⟨b, o, rfl, hcl⟩ : ∃ b o, a = some ⟨b, o, none⟩ ∧ Cells w b o (ns.map fun n => .int .u64 ((n : Nat) : Int)) := by
      rcases hra with h | h
      · have h2 := congrArg List.length h; simp at h2; rw [h2] at hlt; simp at hlt
      · exact h
    have hcell : w.cell? ⟨b, o + (k : Int).toNat * 1, none⟩ = some (.int .u64 ((nk : Nat) : Int)) := by
      rw [Int.toNat_natCast, Nat.mul_one, hcl k (by rw [List.length_map]; exact hlt), List.getElem?_map, hnk]; rfl
    have hwl := wid_le nk
    have hfl : ((ns.take k).flatMap numB).length ≤ 9000 := by
      have := nums_le (ns.take k)
      rw [List.length_take] at this
      omega
    refine JC.skip ?_
    refine JX.thenN (hK5 _ _ ?_)
    refine JC.seq (fun K6 hK6 => ?_)
    refine JC.block ?_
    refine JC.seq (fun K7 hK7 => ?_)
    refine JC.region ?_
    refine J.indexAddrS Ty.el118 Ty.s81 rfl rfl (by omega) (by omega) rfl ?_
    refine J.loadR Ty.a81 rfl hcell (by simp) rfl ?_
    refine J.assign rfl rfl ?_
    refine J.nil ?_
    refine JX.thenN (hK7 _ _ ?_)
    refine JC.seq (fun K8 hK8 => ?_)
    refine JC.region ?_
    refine J.assign rfl rfl ?_
    refine J.nil ?_
    refine JX.thenN (hK8 _ _ ?_)
    refine JC.seqCut (α := Unit) (fun _ => [(8, .slice (some ⟨b, o, none⟩) ns.length c), (9, .int .i64 ((ns.length : Nat) : Int)), (10, .int .i64 ((k : Nat) : Int)), (3, v3), (5, .int .u64 ((nk : Nat) : Int)), (6, .int .i64 ((wid nk : Nat) : Int))]) (fun _ w' => St w [] l3 w') (fun _ => ?_) (fun K9 hK9 => ?_)
    · skip
      refine JC.seq (fun K10 hK10 => ?_)
      refine JC.region ?_
      refine J.move rfl rfl ?_
      refine J.move rfl rfl ?_
      refine J.convInt Ty.u3 Ty.u5 rfl rfl ?_
      refine J.name 27 rfl (conv_u8 (wid nk)) ?_
      refine J.buildSl Ty.el26 Ty.s5 Ty.z5 rfl rfl rfl rfl rfl rfl rfl (fun b28 => ?_)
      refine J.perm (l3 ++ ((b28, cb ([UInt8.ofNat (wid nk)].map u8) 5) :: [])) (by (refine perm_cnt (fun _ => ?_)); simp only [cntB_append, cntB_cons, cntB_nil, Nat.add_zero, Nat.zero_add]; try ac_rfl) ?_
      refine J.append (lp := l3) (xs := (((ns.take k).flatMap numB)).map u8) (ys := ([UInt8.ofNat (wid nk)]).map u8) (k := (((ns.take k).flatMap numB)).length) (m := ([UInt8.ofNat (wid nk)]).length) Ty.el26 Ty.s5 Ty.b5 Ty.z5 rfl (.inl ⟨5, Ty.u26⟩) rfl rfl hv3 (fun w1 hw => .inl (Row.own (cs := ([UInt8.ofNat (wid nk)]).map u8) (tb := 5) (fr := (0, 0)) hw (List.mem_append_right _ (.head _)) (List.take_of_length_le (Nat.le_refl _)) (Nat.le_refl _))) (by rw [List.length_map, Nat.mul_one]) (one_u8 _) (by simp only [List.length_singleton]; omega) (by simp only [List.length_singleton]; omega) rfl (fun v29 l29 hv29 => ?_)
      rw [← List.map_append, ← List.length_append] at hv29
      rw [← numB_0] at hv29
      refine J.assign rfl rfl ?_
      refine J.nil ?_
      refine JX.thenN (hK10 _ _ ?_)
      refine JC.seq (fun K11 hK11 => ?_)
      refine JC.region ?_
      refine J.move rfl rfl ?_
      refine J.move rfl rfl ?_
      refine J.nil ?_
      refine JX.thenN (hK11 _ _ ?_)
      refine JC.block ?_
      refine JC.conseq (JC.cov (f := (fun st => [(8, .slice (some ⟨b, o, none⟩) ns.length c), (9, .int .i64 ((ns.length : Nat) : Int)), (10, .int .i64 ((k : Nat) : Int)), (5, .int .u64 ((nk : Nat) : Int)), (6, .int .i64 ((wid nk : Nat) : Int)), (30, .int .i64 ((wid nk : Nat) : Int)), (31, .int .i64 ((st.i : Nat) : Int)), (3, st.v)]) (⟨0, v29, l29⟩ : ByS)) ⟨rfl, rfl, rfl, rfl, rfl, rfl, rfl, rfl, trivial⟩ (JC.loop (α := ByS) (fun st => [(8, .slice (some ⟨b, o, none⟩) ns.length c), (9, .int .i64 ((ns.length : Nat) : Int)), (10, .int .i64 ((k : Nat) : Int)), (5, .int .u64 ((nk : Nat) : Int)), (6, .int .i64 ((wid nk : Nat) : Int)), (30, .int .i64 ((wid nk : Nat) : Int)), (31, .int .i64 ((st.i : Nat) : Int)), (3, st.v)]) (fun st w' => (st.i ≤ wid nk ∧ Vec 5 1 st.v ((((ns.take k).flatMap numB) ++ (numB nk).take (1 + st.i))).length (((((ns.take k).flatMap numB) ++ (numB nk).take (1 + st.i))).map u8) st.lp) ∧ St w [] st.lp w') (fun st => wid nk - st.i) (⟨0, v29, l29⟩ : ByS) (fun st => ?_))) (fun w hw => ⟨⟨Nat.zero_le _, hv29⟩, hw.drop (List.sublist_append_left _ _)⟩)
      obtain ⟨i, v4, l4⟩ := st
      refine JC.pr (fun hI => ?_)
      obtain ⟨hi, hv4⟩ := hI
      try simp only at hi hv4 ⊢
      have hwl := wid_le nk
      have hfl : ((ns.take k).flatMap numB).length ≤ 9000 := by
        have := nums_le (ns.take k)
        rw [List.length_take] at this
        omega
      have hnl := numB_len nk
      refine JC.seq (fun K12 hK12 => ?_)
      refine JC.region ?_
      refine J.bin rfl rfl rfl rfl ?_
      refine J.nil ?_
      refine JX.thenN (hK12 _ _ ?_)
      refine JC.seq (fun K13 hK13 => ?_)
      refine JC.cond rfl (fun h2 => ?_) (fun h2 => ?_)
      · skip
        have hil : i < wid nk := by simp at h2; omega
        refine JC.skip ?_
        refine JX.thenN (hK13 _ _ ?_)
        refine JC.seq (fun K14 hK14 => ?_)
        refine JC.block ?_
        refine JC.seq (fun K15 hK15 => ?_)
        refine JC.region ?_
        refine J.move rfl rfl ?_
        refine J.assign rfl rfl ?_
        refine J.nil ?_
        refine JX.thenN (hK15 _ _ ?_)
        refine JC.region ?_
        refine J.move rfl rfl ?_
        refine J.move rfl rfl ?_
        refine J.move rfl rfl ?_
        refine J.subN rfl rfl (by omega) (by omega) rfl ?_
        refine J.move rfl rfl ?_
        refine J.subN rfl rfl (by omega) (by omega) rfl ?_
        refine J.mulN rfl rfl (by omega) (by omega) rfl ?_
        refine J.shrN rfl rfl (by omega) rfl ?_
        refine J.convInt Ty.u81 Ty.u5 rfl rfl ?_
        refine J.name 42 rfl (byte_num nk i hil rfl) ?_
        refine J.buildSl Ty.el26 Ty.s5 Ty.z5 rfl rfl rfl rfl rfl rfl rfl (fun b43 => ?_)
        refine J.perm (l4 ++ ((b43, cb ([UInt8.ofNat (nk / 2 ^ (8 * (wid nk - 1 - i)))].map u8) 5) :: [])) (by (refine perm_cnt (fun _ => ?_)); simp only [cntB_append, cntB_cons, cntB_nil, Nat.add_zero, Nat.zero_add]; try ac_rfl) ?_
        refine J.append (lp := l4) (xs := ((((ns.take k).flatMap numB) ++ (numB nk).take (1 + i))).map u8) (ys := ([UInt8.ofNat (nk / 2 ^ (8 * (wid nk - 1 - i)))]).map u8) (k := ((((ns.take k).flatMap numB) ++ (numB nk).take (1 + i))).length) (m := ([UInt8.ofNat (nk / 2 ^ (8 * (wid nk - 1 - i)))]).length) Ty.el26 Ty.s5 Ty.b5 Ty.z5 rfl (.inl ⟨5, Ty.u26⟩) rfl rfl hv4 (fun w1 hw => .inl (Row.own (cs := ([UInt8.ofNat (nk / 2 ^ (8 * (wid nk - 1 - i)))]).map u8) (tb := 5) (fr := (0, 0)) hw (List.mem_append_right _ (.head _)) (List.take_of_length_le (Nat.le_refl _)) (Nat.le_refl _))) (by rw [List.length_map, Nat.mul_one]) (one_u8 _) (by simp only [List.length_singleton, List.length_append, List.length_take]; omega) (by simp only [List.length_singleton, List.length_append, List.length_take]; omega) rfl (fun v44 l44 hv44 => ?_)
        rw [← List.map_append, ← List.length_append] at hv44
        rw [List.append_assoc, ← numB_snoc hil] at hv44
        refine J.assign rfl rfl ?_
        refine J.nil ?_
        refine JX.blockN ?_
        refine JX.thenN (hK14 _ _ ?_)
        refine JC.region ?_
        (first | refine J.addN rfl rfl (by omega) (by omega) rfl ?_ | refine J.bin rfl rfl rfl rfl ?_)
        refine J.move rfl rfl ?_
        refine J.nil ?_
        refine JX.thenN ?_
        refine JX.again (⟨i + 1, v44, l44⟩ : ByS) ?_ ?_ ?_
        · simp only; omega
        · exact ⟨rfl, rfl, rfl, rfl, rfl, rfl, rfl, rfl, trivial⟩
        · exact fun w1 hw => ⟨⟨hil, hv44⟩, hw.drop (List.sublist_append_left _ _)⟩
      · skip
        have hie : i = wid nk := by simp at h2; omega
        rw [hie, List.take_of_length_le (l := numB nk) (by rw [numB_len]; exact Nat.le_refl _), ← nums_snoc hnk] at hv4
        refine JC.exit ?_
        refine JX.thenE ?_
        refine JX.thenE ?_
        refine JX.blockE ?_
        refine JX.blockN ?_
        refine JX.thenN (hK6 _ _ ?_)
        refine JC.region ?_
        (first | refine J.addN rfl rfl (by omega) (by omega) rfl ?_ | refine J.bin rfl rfl rfl rfl ?_)
        refine J.move rfl rfl ?_
        refine J.nil ?_
        refine JX.thenN ?_
        refine JX.again (⟨k + 1, v4, l4⟩ : ByS) ?_ ?_ ?_
        · simp only; omega
        · exact ⟨rfl, rfl, rfl, rfl, trivial⟩
        · exact fun w1 hw => ⟨⟨hlt, hv4⟩, hw⟩
    · skip
      refine JC.block ?_
      refine JC.conseq (JC.cov (f := (fun j => [(8, .slice (some ⟨b, o, none⟩) ns.length c), (9, .int .i64 ((ns.length : Nat) : Int)), (10, .int .i64 ((k : Nat) : Int)), (3, v3), (5, .int .u64 ((nk : Nat) : Int)), (6, .int .i64 ((j : Nat) : Int))]) 0) ⟨rfl, rfl, rfl, rfl, rfl, rfl, trivial⟩ (JC.loop (α := Nat) (fun j => [(8, .slice (some ⟨b, o, none⟩) ns.length c), (9, .int .i64 ((ns.length : Nat) : Int)), (10, .int .i64 ((k : Nat) : Int)), (3, v3), (5, .int .u64 ((nk : Nat) : Int)), (6, .int .i64 ((j : Nat) : Int))]) (fun j w' => (j ≤ wid nk) ∧ St w [] l3 w') (fun j => wid nk - j) 0 (fun j => ?_))) (fun w hw => ⟨Nat.zero_le _, hw⟩)
      refine JC.pr (fun hj => ?_)
      refine JC.seq (fun K16 hK16 => ?_)
      refine JC.seq (fun K17 hK17 => ?_)
      by_cases h8 : j < 8
      · skip
        refine JC.region ?_
        refine J.move rfl rfl ?_
        refine J.bin rfl rfl rfl rfl ?_
        refine J.name 15 rfl (show _ = Value.bool true by simp; omega) ?_
        refine J.move rfl rfl ?_
        first | refine J.skip rfl rfl rfl rfl rfl ?_ | refine J.skipU rfl rfl rfl rfl ?_ | (refine J.unguard rfl rfl rfl ?_; refine J.move rfl rfl ?_)
        first | refine J.skip rfl rfl rfl rfl rfl ?_ | refine J.skipU rfl rfl rfl rfl ?_ | (refine J.unguard rfl rfl rfl ?_; refine J.move rfl rfl ?_)
        refine J.unguard rfl rfl rfl ?_
        refine J.mulN rfl rfl (by omega) (by omega) rfl ?_
        refine J.name 19 rfl (show _ = Value.int .i64 ((8 * j : Nat) : Int) from congrArg (Value.int .i64) (by omega)) ?_
        refine J.unguard rfl rfl rfl ?_
        refine J.shrN rfl rfl (by omega) rfl ?_
        refine J.name 20 rfl (show _ = Value.int .u64 ((nk / 2 ^ (8 * j) : Nat) : Int) from congrArg (Value.int .u64) (shr_nat nk j rfl (by omega))) ?_
        refine J.unguard rfl rfl rfl ?_
        refine J.bin rfl rfl rfl rfl ?_
        refine J.name 21 rfl (show _ = Value.bool (decide (j < wid nk)) from congrArg Value.bool (decide_eq_decide.2 ((show ((nk / 2 ^ (8 * j) : Nat) : Int) > 0 ↔ 0 < nk / 2 ^ (8 * j) by omega).trans (wid_lt h8).symm))) ?_
        (first | refine J.pickT rfl rfl rfl ?_ | refine J.pickF rfl rfl rfl ?_)
        refine J.nil ?_
        refine JX.thenN (hK17 _ _ ?_)
        refine JC.cond rfl (fun h1 => ?_) (fun h1 => ?_)
        · skip
          have hjl : j < wid nk := by simpa using h1
          refine JC.skip ?_
          refine JX.thenN (hK16 _ _ ?_)
          refine JC.block ?_
          refine JC.region ?_
          refine J.move rfl rfl ?_
          (first | refine J.addN rfl rfl (by omega) (by omega) rfl ?_ | refine J.bin rfl rfl rfl rfl ?_)
          refine J.assign rfl rfl ?_
          refine J.nil ?_
          refine JX.blockN ?_
          refine JX.thenN ?_
          refine JX.again (j + 1) ?_ ?_ ?_
          · omega
          · exact ⟨rfl, rfl, rfl, rfl, rfl, rfl, trivial⟩
          · exact fun w1 hw => ⟨hjl, hw⟩
        · skip
          have hje : j = wid nk := by simp at h1; omega
          refine JC.exit ?_
          refine JX.thenE ?_
          refine JX.thenE ?_
          refine JX.blockE ?_
          refine JX.thenN ?_
          exact JX.cut (hK9 ()) ⟨rfl, rfl, rfl, rfl, rfl, by rw [← hje]; rfl, trivial⟩ (fun w1 hw => hw)
      · skip
        have hje : j = wid nk := by have := wid_le nk; omega
        refine JC.region ?_
        refine J.move rfl rfl ?_
        refine J.bin rfl rfl rfl rfl ?_
        refine J.name 15 rfl (show _ = Value.bool false by simp; omega) ?_
        refine J.move rfl rfl ?_
        first | refine J.skip rfl rfl rfl rfl rfl ?_ | refine J.skipU rfl rfl rfl rfl ?_ | (refine J.unguard rfl rfl rfl ?_; refine J.move rfl rfl ?_)
        first | refine J.skip rfl rfl rfl rfl rfl ?_ | refine J.skipU rfl rfl rfl rfl ?_ | (refine J.unguard rfl rfl rfl ?_; refine J.move rfl rfl ?_)
        first | refine J.skip rfl rfl rfl rfl rfl ?_ | refine J.skipU rfl rfl rfl rfl ?_ | (refine J.unguard rfl rfl rfl ?_; (first | refine J.mulN rfl rfl (by omega) (by omega) rfl ?_ | refine J.bin rfl rfl rfl rfl ?_))
        first | refine J.skip rfl rfl rfl rfl rfl ?_ | refine J.skipU rfl rfl rfl rfl ?_ | (refine J.unguard rfl rfl rfl ?_; refine J.bin rfl rfl rfl rfl ?_)
        first | refine J.skip rfl rfl rfl rfl rfl ?_ | refine J.skipU rfl rfl rfl rfl ?_ | (refine J.unguard rfl rfl rfl ?_; refine J.bin rfl rfl rfl rfl ?_)
        (first | refine J.pickT rfl rfl rfl ?_ | refine J.pickF rfl rfl rfl ?_)
        refine J.nil ?_
        refine JX.thenN (hK17 _ _ ?_)
        first | refine JC.condF rfl ?_ | refine JC.cond rfl (fun h => by first | (exfalso; simp at h; omega) | (simp at h)) (fun _ => ?_)
        refine JC.exit ?_
        refine JX.thenE ?_
        refine JX.thenE ?_
        refine JX.blockE ?_
        refine JX.thenN ?_
        exact JX.cut (hK9 ()) ⟨rfl, rfl, rfl, rfl, rfl, by rw [← hje]; rfl, trivial⟩ (fun w1 hw => hw)
  · skip
    have hge : k = ns.length := by simp at h0; omega
    rw [hge, List.take_of_length_le (Nat.le_refl _)] at hv3
    refine JC.exit ?_
    refine JX.thenE ?_
    refine JX.thenE ?_
    refine JX.blockE ?_
    refine JX.thenN (hK2 _ _ ?_)
    refine JC.seq (fun K18 hK18 => ?_)
    refine JC.region ?_
    refine J.move rfl rfl ?_
    refine J.assign rfl rfl ?_
    refine J.nil ?_
    refine JX.thenN (hK18 _ _ ?_)
    refine JC.ret ?_
    refine JX.ret1 rfl rfl (fun w hw => ?_)
    exact ⟨(v3, l3), rfl, hv3, hw⟩

theorem putText_spec (v sv : Value) (bs : List UInt8) (w : World) (hr : Row w v 1 [sv]) (hs : Row w sv bs.length (bs.map u8)) (hl : bs.length ≤ 140737488351232) :
    Calls Try.prog 40 [v].toArray w fun r w' => ∃ x : Value × List (Nat × Obj), r = .returned x.1 ∧ Vec 5 1 x.1 (textB bs).length ((textB bs).map u8) x.2 ∧ St w [] x.2 w' := by
  obtain ⟨b, o, c, rfl, hc, hcl⟩ := hr.some (by simp)
  obtain ⟨as_, cs_, rfl, hcs, _⟩ := id hs
  refine calls_of_J (args := [.slice (some ⟨b, o, none⟩) 1 c]) (e := [(0, .slice (some ⟨b, o, none⟩) 1 c)]) Try.func40 rfl rfl ⟨rfl, trivial⟩ (St.start w) ?_
  refine JC.seq (fun K0 hK0 => ?_)
  refine JC.region ?_
  refine J.assign rfl rfl ?_
  refine J.nil ?_
  refine JX.thenN (hK0 _ _ ?_)
  refine JC.seq (fun K1 hK1 => ?_)
  refine JC.region ?_
  refine J.assign rfl rfl ?_
  refine J.nil ?_
  refine JX.thenN (hK1 _ _ ?_)
  refine JC.seq (fun K2 hK2 => ?_)
  refine JC.seq (fun K3 hK3 => ?_)
  refine JC.region ?_
  refine J.move rfl rfl ?_
  refine J.lenS rfl Ty.u57 rfl rfl ?_
  refine J.move rfl rfl ?_
  refine J.nil ?_
  refine JX.thenN (hK3 _ _ ?_)
  refine JC.block ?_
  refine JC.conseq (JC.cov (f := (fun st => [(6, .slice (some ⟨b, o, none⟩) 1 c), (7, .int .i64 1), (8, .int .i64 ((st.i : Nat) : Int)), (3, st.v)]) (⟨0, .slice none 0 0, []⟩ : ByS)) ⟨rfl, rfl, rfl, rfl, trivial⟩ (JC.loop (α := ByS) (fun st => [(6, .slice (some ⟨b, o, none⟩) 1 c), (7, .int .i64 1), (8, .int .i64 ((st.i : Nat) : Int)), (3, st.v)]) (fun st w' => (st.i ≤ 1 ∧ Vec 5 1 st.v (((List.replicate st.i bs).flatMap textB)).length ((((List.replicate st.i bs).flatMap textB)).map u8) st.lp) ∧ St w [] st.lp w') (fun st => 1 - st.i) (⟨0, .slice none 0 0, []⟩ : ByS) (fun st => ?_))) (fun w hw => ⟨⟨Nat.zero_le _, Vec.nil _ _⟩, hw⟩)
  obtain ⟨k, v3, l3⟩ := st
  refine JC.pr (fun hI => ?_)
  obtain ⟨hk, hv3⟩ := hI
  try simp only at hk hv3 ⊢
  refine JC.seq (fun K4 hK4 => ?_)
  refine JC.region ?_
  refine J.bin rfl rfl rfl rfl ?_
  refine J.nil ?_
  refine JX.thenN (hK4 _ _ ?_)
  refine JC.seq (fun K5 hK5 => ?_)
  refine JC.cond rfl (fun h0 => ?_) (fun h0 => ?_)
  · skip
    have hk0 : k = 0 := by simp at h0; omega
    subst hk0
    refine JC.skip ?_
    refine JX.thenN (hK5 _ _ ?_)
    refine JC.seq (fun K6 hK6 => ?_)
    refine JC.block ?_
    refine JC.seq (fun K7 hK7 => ?_)
    refine JC.region ?_
    refine J.indexAddrS Ty.el57 Ty.s26 rfl rfl (by omega) (by omega) rfl ?_
    refine J.loadR (v := .slice as_ bs.length cs_) Ty.a26 rfl (hcl 0 Nat.one_pos) (by simp) rfl ?_
    refine J.assign rfl rfl ?_
    refine J.nil ?_
    refine JX.thenN (hK7 _ _ ?_)
    refine JC.region ?_
    refine J.move rfl rfl ?_
    refine J.move rfl rfl ?_
    refine J.lenS rfl Ty.u26 rfl rfl ?_
    refine J.convInt Ty.u3 Ty.u81 rfl rfl ?_
    refine J.name 15 rfl (show _ = Value.int .u64 ((bs.length : Nat) : Int) from congrArg (Value.int .u64) (wrap_u64 (by omega) (by omega))) ?_
    refine J.buildSl Ty.el118 Ty.s81 Ty.z81 rfl rfl rfl rfl rfl rfl rfl (fun b16 => ?_)
    refine J.perm ([] ++ ((b16, cb [.int .u64 ((bs.length : Nat) : Int)] 81) :: l3)) (.refl _) ?_
    refine J.callS (α := Value × List (Nat × Obj)) (V := (·.1)) (Pr := fun x => Vec 5 1 x.1 ([bs.length].flatMap numB).length (([bs.length].flatMap numB).map u8) x.2) (L := (·.2)) (l1 := []) Ty.bd39 rfl rfl (fun w1 hw => putNum_spec _ [bs.length] w1 (Row.own (cs := [.int .u64 ((bs.length : Nat) : Int)]) (tb := 81) (fr := (0, 0)) hw (.head _) rfl (Nat.le_refl _)) (by simp)) (fun x hv17 => ?_)
    obtain ⟨v17, l17⟩ := x
    simp only at hv17 ⊢
    rw [show [bs.length].flatMap numB = (numB bs.length) by simp] at hv17
    have hnl := numB_le bs.length
    refine J.perm (l3 ++ (l17 ++ [(b16, cb [.int .u64 ((bs.length : Nat) : Int)] 81)])) (by (refine perm_cnt (fun _ => ?_)); simp only [cntB_append, cntB_cons, cntB_nil, Nat.add_zero, Nat.zero_add]; try ac_rfl) ?_
    refine J.append (lp := l3) (xs := (((List.replicate 0 bs).flatMap textB)).map u8) (ys := ((numB bs.length)).map u8) (k := (((List.replicate 0 bs).flatMap textB)).length) (m := ((numB bs.length)).length) Ty.el26 Ty.s5 Ty.b5 Ty.z5 rfl (.inl ⟨5, Ty.u26⟩) rfl rfl hv3 (fun w1 hw => .inl (hv17.row (l := l3 ++ [(b16, cb [.int .u64 ((bs.length : Nat) : Int)] 81)]) (hw.perm (by (refine perm_cnt (fun _ => ?_)); simp only [cntB_append, cntB_cons, cntB_nil, Nat.add_zero, Nat.zero_add]; try ac_rfl)))) (by rw [List.length_map, Nat.mul_one]) (one_u8 _) (by simp only [List.replicate_zero, List.flatMap_nil, List.length_nil]; omega) (by simp only [List.replicate_zero, List.flatMap_nil, List.length_nil]; omega) rfl (fun v18 l18 hv18 => ?_)
    rw [← List.map_append, ← List.length_append] at hv18
    
    refine J.move rfl rfl ?_
    refine J.perm (l18 ++ (l17 ++ [(b16, cb [.int .u64 ((bs.length : Nat) : Int)] 81)])) (by (refine perm_cnt (fun _ => ?_)); simp only [cntB_append, cntB_cons, cntB_nil, Nat.add_zero, Nat.zero_add]; try ac_rfl) ?_
    refine J.append (lp := l18) (xs := (((List.replicate 0 bs).flatMap textB) ++ (numB bs.length)).map u8) (ys := (bs).map u8) (k := (((List.replicate 0 bs).flatMap textB) ++ (numB bs.length)).length) (m := (bs).length) Ty.el26 Ty.s5 Ty.b5 Ty.z5 rfl (.inl ⟨5, Ty.u26⟩) rfl rfl hv18 (fun w1 hw => .inl (hs.below (hw.drop (List.nil_sublist _)).below)) (by rw [List.length_map, Nat.mul_one]) (one_u8 _) (by simp only [List.replicate_zero, List.flatMap_nil, List.nil_append]; omega) (by simp only [List.replicate_zero, List.flatMap_nil, List.nil_append]; omega) rfl (fun v20 l20 hv20 => ?_)
    rw [← List.map_append, ← List.length_append] at hv20
    rw [show ((List.replicate 0 bs).flatMap textB) ++ (numB bs.length) ++ bs = ((List.replicate (0 + 1) bs).flatMap textB) by simp [textB]] at hv20
    refine J.assign rfl rfl ?_
    refine J.nil ?_
    refine JX.blockN ?_
    refine JX.thenN (hK6 _ _ ?_)
    refine JC.region ?_
    (first | refine J.addN rfl rfl (by omega) (by omega) rfl ?_ | refine J.bin rfl rfl rfl rfl ?_)
    refine J.move rfl rfl ?_
    refine J.nil ?_
    refine JX.thenN ?_
    refine JX.again (⟨0 + 1, v20, l20⟩ : ByS) ?_ ?_ ?_
    · simp only; omega
    · exact ⟨rfl, rfl, rfl, rfl, trivial⟩
    · exact fun w1 hw => ⟨⟨Nat.le_refl _, hv20⟩, hw.drop (List.sublist_append_left _ _)⟩
  · skip
    have hk1 : k = 1 := by simp at h0; omega
    subst hk1
    rw [show ((List.replicate 1 bs).flatMap textB) = textB bs by simp] at hv3
    refine JC.exit ?_
    refine JX.thenE ?_
    refine JX.thenE ?_
    refine JX.blockE ?_
    refine JX.thenN (hK2 _ _ ?_)
    refine JC.seq (fun K8 hK8 => ?_)
    refine JC.region ?_
    refine J.move rfl rfl ?_
    refine J.assign rfl rfl ?_
    refine J.nil ?_
    refine JX.thenN (hK8 _ _ ?_)
    refine JC.ret ?_
    refine JX.ret1 rfl rfl (fun w hw => ?_)
    exact ⟨(v3, l3), rfl, hv3, hw⟩

end Go.Proofs.Ytoaenmlhehcjfaa
