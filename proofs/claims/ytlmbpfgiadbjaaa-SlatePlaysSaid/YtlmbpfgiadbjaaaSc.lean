/-
  Are two lists of bytes one: the document's function; and a log is opened.
-/
import Derived.Test.YtlmbpfgiadbjaaaSb
namespace Go.Proofs.Ytlmbpfgiadbjaaa
open Go.J Go.RowKit
set_option linter.unusedVariables false
set_option linter.unusedSimpArgs false
set_option maxRecDepth 4000
theorem pref_succ {ra rb : List (List UInt8)} {i : Nat} (h1 : i < ra.length) (h2 : i < rb.length) (h : ra.take i = rb.take i) (he : ra[i] = rb[i]) : ra.take (i + 1) = rb.take (i + 1) := by
  rw [take_add_one h1, take_add_one h2, h, he]

theorem sameAll_spec (va vb : Value) (ra rb : List (List UInt8)) (w : World) (ha : RowRecs w va ra) (hb : RowRecs w vb rb) (hal : ra.length < 4611686018427387904) :
    Calls Try.prog 30 [va, vb].toArray w fun r w' => r = .returned (.bool (decide (ra = rb))) ∧ Below w.heap.size w w' := by
  obtain ⟨vsa, har, hla, hra0⟩ := ha
  obtain ⟨vsb, hbr, hlb, hrb0⟩ := hb
  obtain ⟨a, c, rfl, hc, _⟩ := id har
  obtain ⟨a2, c2, rfl, hc2, _⟩ := id hbr
  refine calls_of_J (args := [.slice a ra.length c, .slice a2 rb.length c2]) (e := [(0, .slice a ra.length c), (1, .slice a2 rb.length c2)]) Try.func30 rfl rfl ⟨rfl, rfl, trivial⟩ (St.start w) ?_
  refine JC.seq (fun K0 hK0 => ?_)
  refine JC.region ?_
  refine J.assign rfl rfl ?_
  refine J.nil ?_
  refine JX.thenN (hK0 _ _ ?_)
  refine JC.seq (fun K1 hK1 => ?_)
  refine JC.seq (fun K2 hK2 => ?_)
  refine JC.region ?_
  refine J.move rfl rfl ?_
  refine J.lenS rfl Ty.u47 rfl rfl ?_
  refine J.move rfl rfl ?_
  refine J.lenS rfl Ty.u47 rfl rfl ?_
  refine J.bin rfl rfl rfl rfl ?_
  refine J.nil ?_
  refine JX.thenN (hK2 _ _ ?_)
  refine JC.cond rfl (fun h0 => ?_) (fun h0 => ?_)
  · skip
    have hne : ra ≠ rb := fun e => by subst e; simp at h0
    refine JC.seq (fun K3 hK3 => ?_)
    refine JC.region ?_
    refine J.assign rfl rfl ?_
    refine J.nil ?_
    refine JX.thenN (hK3 _ _ ?_)
    refine JC.ret ?_
    refine JX.thenR ?_
    refine JX.ret1 rfl rfl (fun w hw => ?_)
    first
    | exact ⟨by rw [decide_eq_false hne], hw.below⟩
    | exact ⟨by rw [decide_eq_true heq], hw.below⟩
  · skip
    have hll : ra.length = rb.length := by simp at h0; omega
    refine JC.skip ?_
    refine JX.thenN (hK1 _ _ ?_)
    refine JC.seq (fun K4 hK4 => ?_)
    refine JC.seq (fun K5 hK5 => ?_)
    refine JC.region ?_
    refine J.assign rfl rfl ?_
    refine J.nil ?_
    refine JX.thenN (hK5 _ _ ?_)
    refine JC.block ?_
    refine JC.conseq (JC.cov (f := (fun i => [(0, .slice a ra.length c), (1, .slice a2 rb.length c2), (5, .int .i64 ((i : Nat) : Int))]) 0) ⟨rfl, rfl, rfl, trivial⟩ (JC.loop (α := Nat) (fun i => [(0, .slice a ra.length c), (1, .slice a2 rb.length c2), (5, .int .i64 ((i : Nat) : Int))]) (fun i w' => (i ≤ ra.length ∧ ra.take i = rb.take i) ∧ St w [] [] w') (fun i => ra.length - i) 0 (fun i => ?_))) (fun w hw => ⟨⟨Nat.zero_le _, by simp⟩, hw⟩)
    refine JC.pr (fun hx => ?_)
    obtain ⟨hi, hpre⟩ := hx
    refine JC.seq (fun K6 hK6 => ?_)
    refine JC.seq (fun K7 hK7 => ?_)
    refine JC.region ?_
    refine J.move rfl rfl ?_
    refine J.move rfl rfl ?_
    refine J.lenS rfl Ty.u47 rfl rfl ?_
    refine J.bin rfl rfl rfl rfl ?_
    refine J.nil ?_
    refine JX.thenN (hK7 _ _ ?_)
    refine JC.cond rfl (fun h1 => ?_) (fun h1 => ?_)
    · skip
      have hlt : i < ra.length := by simp at h1; omega
      obtain ⟨q, o, c', hqe, _, hcl⟩ := Row.some har (by omega)
      simp only [Value.slice.injEq] at hqe
      obtain ⟨rfl, _, rfl⟩ := hqe
      obtain ⟨q2, o2, c3, hqe, _, hcl2⟩ := Row.some hbr (by omega)
      simp only [Value.slice.injEq] at hqe
      obtain ⟨rfl, _, rfl⟩ := hqe
      have hra := hra0 i (vsa[i]'(by omega)) ra[i] (List.getElem?_eq_getElem (by omega)) (List.getElem?_eq_getElem (by omega))
      have hrb := hrb0 i (vsb[i]'(by omega)) (rb[i]'(by omega)) (List.getElem?_eq_getElem (by omega)) (List.getElem?_eq_getElem (by omega))
      refine JC.skip ?_
      refine JX.thenN (hK6 _ _ ?_)
      refine JC.seq (fun K8 hK8 => ?_)
      refine JC.block ?_
      refine JC.seq (fun K9 hK9 => ?_)
      apply JC.drawL 11 [Eqv _, Eqv _, Eqv _, Eqv _, Eqv _, Eqv _, Eqv _, Eqv _, Eqv _, Eqv _, Eqv _] Ty.mixed rfl rfl rfl (by kernel_rfl) rfl rfl (fun w w' hw hb => hw.step hb) ⟨fun _ _ _ h _ => h, fun _ _ _ h _ => h, fun _ _ _ h _ => h, fun _ _ _ h _ => h, fun _ _ _ h _ => h, fun _ _ _ h _ => h, fun _ _ _ h _ => h, fun _ _ _ h _ => h, fun _ _ _ h _ => h, fun _ _ _ h _ => h, fun _ _ _ h _ => h, trivial⟩ ?hstep ?htail
      case hstep =>
        refine ⟨fun wi => ?_, fun wi => ?_, fun wi => ?_, fun wi => ?_, fun wi => ?_, fun wi => ?_, fun wi => ?_, fun wi => ?_, fun wi => ?_, fun wi => ?_, fun wi => ?_, trivial⟩
        · skip
          refine Fin.nil ?_
          refine J.move rfl rfl ?_
          refine J.nil (JX.fin rfl (fun w hw => ⟨rfl, (by rw [hw.1]; exact Below.refl _ _)⟩))
        · skip
          refine Fin.nil ?_
          refine J.move rfl rfl ?_
          refine J.nil (JX.fin rfl (fun w hw => ⟨rfl, (by rw [hw.1]; exact Below.refl _ _)⟩))
        · skip
          refine Fin.cons (fun v6_0 => ?_)
          refine Fin.cons (fun v6_1 => ?_)
          refine Fin.nil ?_
          refine J.prE (fun h => ?_); subst h
          refine J.prE (fun h => ?_); subst h
          refine J.indexAddrS Ty.el47 Ty.s28 rfl rfl (by omega) (by omega) rfl ?_
          refine J.nil (JX.fin rfl (fun w hw => ⟨rfl, (by rw [hw.1]; exact Below.refl _ _)⟩))
        · skip
          refine Fin.cons (fun v6_2 => ?_)
          refine Fin.nil ?_
          refine J.prE (fun h => ?_); subst h
          refine J.load1 (v := vsa[i]'(by omega)) Ty.a28 rfl (fun w1 hw => (hcl.st (by omega) hw.2).get (List.getElem?_eq_getElem (by omega)) (by simp)) rfl ?_
          refine J.nil (JX.fin rfl (fun w hw => ⟨rfl, (by rw [hw.1]; exact Below.refl _ _)⟩))
        · skip
          refine Fin.cons (fun v6_3 => ?_)
          refine Fin.nil ?_
          refine J.prE (fun h => ?_); subst h
          refine J.toStr (m := ra[i].length) (bs := ra[i]) Ty.el28 Ty.u5 Ty.u9 rfl (fun w1 hw => hra.st (.inr (by simp)) hw.2) rfl rfl ?_
          refine J.nil (JX.fin rfl (fun w hw => ⟨rfl, (by rw [hw.1]; exact Below.refl _ _)⟩))
        · skip
          refine Fin.nil ?_
          refine J.move rfl rfl ?_
          refine J.nil (JX.fin rfl (fun w hw => ⟨rfl, (by rw [hw.1]; exact Below.refl _ _)⟩))
        · skip
          refine Fin.nil ?_
          refine J.move rfl rfl ?_
          refine J.nil (JX.fin rfl (fun w hw => ⟨rfl, (by rw [hw.1]; exact Below.refl _ _)⟩))
        · skip
          refine Fin.cons (fun v6_5 => ?_)
          refine Fin.cons (fun v6_6 => ?_)
          refine Fin.nil ?_
          refine J.prE (fun h => ?_); subst h
          refine J.prE (fun h => ?_); subst h
          refine J.indexAddrS Ty.el47 Ty.s28 rfl rfl (by omega) (by omega) rfl ?_
          refine J.nil (JX.fin rfl (fun w hw => ⟨rfl, (by rw [hw.1]; exact Below.refl _ _)⟩))
        · skip
          refine Fin.cons (fun v6_7 => ?_)
          refine Fin.nil ?_
          refine J.prE (fun h => ?_); subst h
          refine J.load1 (v := vsb[i]'(by omega)) Ty.a28 rfl (fun w1 hw => (hcl2.st (by omega) hw.2).get (List.getElem?_eq_getElem (by omega)) (by simp)) rfl ?_
          refine J.nil (JX.fin rfl (fun w hw => ⟨rfl, (by rw [hw.1]; exact Below.refl _ _)⟩))
        · skip
          refine Fin.cons (fun v6_8 => ?_)
          refine Fin.nil ?_
          refine J.prE (fun h => ?_); subst h
          refine J.toStr (m := (rb[i]'(by omega)).length) (bs := rb[i]'(by omega)) Ty.el28 Ty.u5 Ty.u9 rfl (fun w1 hw => hrb.st (.inr (by simp)) hw.2) rfl rfl ?_
          refine J.nil (JX.fin rfl (fun w hw => ⟨rfl, (by rw [hw.1]; exact Below.refl _ _)⟩))
        · skip
          refine Fin.cons (fun v6_4 => ?_)
          refine Fin.cons (fun v6_9 => ?_)
          refine Fin.nil ?_
          refine J.prE (fun h => ?_); subst h
          refine J.prE (fun h => ?_); subst h
          (first | refine J.strNe rfl rfl rfl ?_ | refine J.bin rfl rfl rfl rfl ?_)
          refine J.nil (JX.fin rfl (fun w hw => ⟨rfl, (by rw [hw.1]; exact Below.refl _ _)⟩))
      case htail =>
        refine Fin.cons (fun v6_0 => ?_)
        refine Fin.cons (fun v6_1 => ?_)
        refine Fin.cons (fun v6_2 => ?_)
        refine Fin.cons (fun v6_3 => ?_)
        refine Fin.cons (fun v6_4 => ?_)
        refine Fin.cons (fun v6_5 => ?_)
        refine Fin.cons (fun v6_6 => ?_)
        refine Fin.cons (fun v6_7 => ?_)
        refine Fin.cons (fun v6_8 => ?_)
        refine Fin.cons (fun v6_9 => ?_)
        refine Fin.cons (fun v6_10 => ?_)
        refine Fin.nil ?_
        refine J.prE (fun h => ?_); subst h
        refine J.prE (fun h => ?_); subst h
        refine J.prE (fun h => ?_); subst h
        refine J.prE (fun h => ?_); subst h
        refine J.prE (fun h => ?_); subst h
        refine J.prE (fun h => ?_); subst h
        refine J.prE (fun h => ?_); subst h
        refine J.prE (fun h => ?_); subst h
        refine J.prE (fun h => ?_); subst h
        refine J.prE (fun h => ?_); subst h
        refine J.prE (fun h => ?_); subst h
        refine J.nil ?_
        refine JX.thenN (hK9 _ _ ?_)
        refine JC.cond rfl (fun h2 => ?_) (fun h2 => ?_)
        · skip
          have hne : ra ≠ rb := fun e => by subst e; simp at h2
          refine JC.seq (fun K10 hK10 => ?_)
          refine JC.region ?_
          refine J.assign rfl rfl ?_
          refine J.nil ?_
          refine JX.thenN (hK10 _ _ ?_)
          refine JC.ret ?_
          refine JX.blockR ?_
          refine JX.thenR ?_
          refine JX.thenR ?_
          refine JX.blockR ?_
          refine JX.thenR ?_
          refine JX.ret1 rfl rfl (fun w hw => ?_)
          first
          | exact ⟨by rw [decide_eq_false hne], hw.below⟩
          | exact ⟨by rw [decide_eq_true heq], hw.below⟩
        · skip
          have hee : ra[i] = rb[i]'(by omega) := by simpa using h2
          refine JC.skip ?_
          refine JX.blockN ?_
          refine JX.thenN (hK8 _ _ ?_)
          refine JC.region ?_
          refine J.move rfl rfl ?_
          (first | refine J.addN rfl rfl (by omega) (by omega) rfl ?_ | refine J.bin rfl rfl rfl rfl ?_)
          refine J.assign rfl rfl ?_
          refine J.nil ?_
          refine JX.thenN ?_
          refine JX.again (i + 1) ?_ ?_ ?_
          · omega
          · exact ⟨rfl, rfl, rfl, trivial⟩
          · exact fun w1 hw => ⟨⟨hlt, pref_succ hlt (by omega) hpre hee⟩, hw⟩
    · skip
      obtain rfl : i = ra.length := by simp at h1; omega
      have heq : ra = rb := by rw [List.take_of_length_le (Nat.le_refl _), List.take_of_length_le (by omega)] at hpre; exact hpre
      refine JC.exit ?_
      refine JX.thenE ?_
      refine JX.thenE ?_
      refine JX.blockE ?_
      refine JX.thenN (hK4 _ _ ?_)
      refine JC.seq (fun K11 hK11 => ?_)
      refine JC.region ?_
      refine J.assign rfl rfl ?_
      refine J.nil ?_
      refine JX.thenN (hK11 _ _ ?_)
      refine JC.ret ?_
      refine JX.ret1 rfl rfl (fun w hw => ?_)
      first
      | exact ⟨by rw [decide_eq_false hne], hw.below⟩
      | exact ⟨by rw [decide_eq_true heq], hw.below⟩


def sizeAt (B : List UInt8) (at_ : Nat) : Nat := (B.getD (64 * at_) 0).toNat * 256 + (B.getD (64 * at_ + 1) 0).toNat
/-- the records that lie in the sectors up to top -/
def parseS (B : List UInt8) (top : Nat) : Nat → Nat → Option (List (List UInt8))
  | 0, at_ => if at_ = top then some [] else none
  | n + 1, at_ => if top ≤ at_ then none else if 1024 < sizeAt B at_ ∨ top - at_ < needN (sizeAt B at_) then none
      else (parseS B top n (at_ + needN (sizeAt B at_))).map (((B.drop (64 * at_ + 2)).take (sizeAt B at_)) :: ·)
structure LogP where
  gen : Nat
  used : Nat
  cnt : Nat
  recs : List (List UInt8)
def badHead (n : Nat) (h : Nat × Nat × Nat) : Prop := 9223372036854775808 ≤ h.1 ∨ n - 2 < h.2.1 ∨ h.2.1 < h.2.2
instance (n : Nat) (h : Nat × Nat × Nat) : Decidable (badHead n h) := by unfold badHead; infer_instance
/-- what opening a log answers -/
def openP (B : List UInt8) (n : Nat) : Int × Option LogP :=
  if n < 3 then (1, none) else
  if badHead n (bestP B 2) then (2, none) else
  match parseS B (2 + (bestP B 2).2.1) (bestP B 2).2.2 2 with
  | none => (2, none)
  | some rs => (0, some ⟨(bestP B 2).1, (bestP B 2).2.1, (bestP B 2).2.2, rs⟩)
abbrev lgO (d : Nat) (q : LogP) (down : Bool) : Obj := cb [.pointer (some ⟨d, 0, none⟩), .int .u64 ((q.gen : Nat) : Int), .int .i64 ((q.used : Nat) : Int), .int .i64 ((q.cnt : Nat) : Int), .bool down] 80
theorem best_two (B : List UInt8) (h : Nat × Nat × Nat) (hh : (if (headP (sec B 0)).1 < (headP (sec B 1)).1 then headP (sec B 1) else headP (sec B 0)) = h) : bestP B 2 = if h.1 = 0 then (0, 0, 0) else h := by
  subst hh
  simp only [bestP]
  by_cases h0 : (headP (sec B 0)).1 = 0
  · simp only [h0]
    by_cases h1 : (headP (sec B 1)).1 = 0
    · simp [h1, h0]
    · simp [h1, show 0 < (headP (sec B 1)).1 by omega]
  · simp only [show 0 < (headP (sec B 0)).1 by omega, if_true]
    by_cases h1 : (headP (sec B 0)).1 < (headP (sec B 1)).1
    · simp only [h1, if_true]; rw [if_neg (by omega)]
    · simp only [h1, if_false]; rw [if_neg h0]
theorem shr63 (g : Nat) (hg : g < 18446744073709551616) : (decide (Int.fdiv ((g : Nat) : Int) (2 ^ (min (63 : Int).toNat IntKind.u64.bits)) > 0)) = decide (9223372036854775808 ≤ g) := by
  have e : ((2 : Int) ^ (min (63 : Int).toNat IntKind.u64.bits)) = 9223372036854775808 := by decide
  rw [e, Int.fdiv_eq_ediv_of_nonneg _ (by omega)]
  by_cases h : 9223372036854775808 ≤ g
  · rw [decide_eq_true h, decide_eq_true (by omega)]
  · rw [decide_eq_false h, decide_eq_false (by omega)]
theorem head_cases (n : Nat) (h : Nat × Nat × Nat) : 9223372036854775808 ≤ h.1 ∨ (¬ 9223372036854775808 ≤ h.1 ∧ n - 2 < h.2.1) ∨ (¬ 9223372036854775808 ≤ h.1 ∧ h.2.1 ≤ n - 2 ∧ h.2.1 < h.2.2) ∨ (¬ 9223372036854775808 ≤ h.1 ∧ h.2.1 ≤ n - 2 ∧ h.2.2 ≤ h.2.1) := by omega
theorem openP_small {B : List UInt8} {n : Nat} (h : n < 3) : openP B n = (1, none) := by rw [openP, if_pos h]
theorem openP_bad {B : List UInt8} {n : Nat} (h : ¬ n < 3) (hb : badHead n (bestP B 2)) : openP B n = (2, none) := by rw [openP, if_neg h, if_pos hb]
theorem openP_none {B : List UInt8} {n : Nat} (h : ¬ n < 3) {b : Nat × Nat × Nat} (hh : bestP B 2 = b) (hp : parseS B (2 + b.2.1) b.2.2 2 = none) : openP B n = (2, none) := by
  rw [openP, if_neg h]
  split
  · rfl
  · rw [hh, hp]
theorem openP_some {B : List UInt8} {n : Nat} (h : ¬ n < 3) {b : Nat × Nat × Nat} (hh : bestP B 2 = b) (hb : ¬ badHead n b) {rs : List (List UInt8)} (hp : parseS B (2 + b.2.1) b.2.2 2 = some rs) : openP B n = (0, some ⟨b.1, b.2.1, b.2.2, rs⟩) := by
  rw [openP, if_neg h, hh, if_neg hb, hp]
theorem or_i64 (a x : Nat) (ha : a < 256) (hx : x < 256) :
    Value.int .i64 (IntKind.i64.wrap ((BitVec.ofInt 64 ((a * 256 : Nat) : Int) ||| BitVec.ofInt 64 ((x : Nat) : Int)).toNat : Int)) = .int .i64 ((a * 256 + x : Nat) : Int) := by
  rw [or_byte a x hx (by omega), wrap_i64 (by omega) (by omega)]
theorem sec_getD {B : List UInt8} {at_ j : Nat} (hj : j < 64) (h : 64 * at_ + 64 ≤ B.length) : (sec B at_)[j]'(by rw [sec_len64 h]; exact hj) = B.getD (64 * at_ + j) 0 := by
  have e : (sec B at_)[j]? = B[64 * at_ + j]? := by rw [sec, List.getElem?_take_of_lt hj, List.getElem?_drop]
  rw [List.getD_eq_getElem?_getD, ← e, List.getElem?_eq_getElem (by rw [sec_len64 h]; exact hj)]; rfl
theorem size_cases (sz top at_ : Nat) : 1024 < sz ∨ (sz ≤ 1024 ∧ top - at_ < needN sz) ∨ (sz ≤ 1024 ∧ needN sz ≤ top - at_) := by omega
theorem need_bounds {sz : Nat} : 1 ≤ needN sz ∧ sz + 2 ≤ 64 * needN sz ∧ 64 * needN sz ≤ sz + 65 := by unfold needN; omega
theorem sec_more {B : List UInt8} {at_ i : Nat} : (B.drop (64 * at_)).take (64 * i) ++ sec B (at_ + i) = (B.drop (64 * at_)).take (64 * (i + 1)) := by
  rw [sec, show 64 * (i + 1) = 64 * i + 64 by omega, List.take_add, List.drop_drop, show 64 * at_ + 64 * i = 64 * (at_ + i) by omega]
theorem rec_of {B : List UInt8} {at_ m sz : Nat} (h : sz + 2 ≤ 64 * m) : (((B.drop (64 * at_)).take (64 * m)).drop 2).take sz = (B.drop (64 * at_ + 2)).take sz := by
  rw [List.drop_take, List.take_take, List.drop_drop, show min sz (64 * m - 2) = sz by omega]


structure OpSt where
  k : Nat
  at_ : Nat
  out : List (List UInt8)
  vs : List Value
  v15 : Value
  lv : List (Nat × Obj)
  lps : List (Nat × Obj)

theorem bestP_lt (B : List UInt8) : ∀ k, (bestP B k).1 < 18446744073709551616 := by
  intro k
  induction k with
  | zero => simp [bestP]
  | succ k ih => unfold bestP; split; exact (headP_lt _).1; exact ih

theorem open_spec (d s n : Nat) (B : List UInt8) (p k : Int) (w : World) (hw0 : Own w [(d, dkO s n p k), (s, dkS B)]) (hB : B.length = 64 * n) (hn : n ≤ 4096) :
    Calls Try.prog 26 [.pointer (some ⟨d, 0, none⟩)].toArray w fun r w' => match openP B n with
      | (e, none) => r = .returned (.tuple #[.pointer none, .slice none 0 0, .int .i64 e]) ∧ Below w.heap.size w w'
      | (_, some q) => ∃ (b : Nat) (v : Value) (vs : List Value) (lv lps : List (Nat × Obj)), r = .returned (.tuple #[.pointer (some ⟨b, 0, none⟩), v, .int .i64 0]) ∧ Vec 28 1 v q.recs.length vs lv ∧ Recs 5 vs q.recs lps ∧ St w [] ((b, lgO d q false) :: (lv ++ lps)) w' := by
  refine calls_of_J (args := [.pointer (some ⟨d, 0, none⟩)]) (e := [(0, .pointer (some ⟨d, 0, none⟩))]) Try.func26 rfl rfl ⟨rfl, trivial⟩ (St.start w) ?_
  refine JC.seq (fun K0 hK0 => ?_)
  refine JC.region ?_
  refine J.assign rfl rfl ?_
  refine J.assign rfl rfl ?_
  refine J.assign rfl rfl ?_
  refine J.nil ?_
  refine JX.thenN (hK0 _ _ ?_)
  refine JC.seq (fun K1 hK1 => ?_)
  refine JC.seq (fun K2 hK2 => ?_)
  refine JC.region ?_
  refine J.move rfl rfl ?_
  refine J.callB (fun w1 w2 hw hb => hw.step hb) Ty.bd23 rfl rfl (fun w1 hw => size_spec d s n p k w1 (hw0.at hw)) ?_
  refine J.bin rfl rfl rfl rfl ?_
  refine J.nil ?_
  refine JX.thenN (hK2 _ _ ?_)
  refine JC.cond rfl (fun h0 => ?_) (fun h0 => ?_)
  · skip
    have hopen := openP_small (B := B) (show n < 3 by simp at h0; omega)
    refine JC.seq (fun K3 hK3 => ?_)
    refine JC.region ?_
    refine J.assign rfl rfl ?_
    refine J.assign rfl rfl ?_
    refine J.assign rfl rfl ?_
    refine J.nil ?_
    refine JX.thenN (hK3 _ _ ?_)
    refine JC.ret ?_
    refine JX.thenR ?_
    refine JX.ret3 rfl rfl rfl rfl (fun w1 hw => ?_)
    rw [hopen]
    first
    | exact ⟨rfl, hw.below⟩
    | exact ⟨b151, v15, vs, lv, lps, rfl, hol ▸ hvo, hro, hw⟩
  · skip
    have hn3 : ¬ n < 3 := by simp at h0; omega
    obtain ⟨h, hh⟩ : ∃ h, (if (headP (sec B 0)).1 < (headP (sec B 1)).1 then headP (sec B 1) else headP (sec B 0)) = h := ⟨_, rfl⟩
    obtain ⟨⟨gen, used, cnt_⟩, hbest⟩ : ∃ x, bestP B 2 = x := ⟨_, rfl⟩
    have hgl : gen < 18446744073709551616 := by
      have h1 := bestP_lt B 2
      rw [hbest] at h1
      exact h1
    refine JC.skip ?_
    refine JX.thenN (hK1 _ _ ?_)
    refine JC.seq (fun K4 hK4 => ?_)
    refine JC.region ?_
    refine J.move rfl rfl ?_
    refine J.perm ([] ++ ([])) (by (refine perm_cnt (fun _ => ?_)); simp only [cntB_append, cntB_cons, cntB_nil, Nat.add_zero, Nat.zero_add]; try ac_rfl) ?_
    refine J.callS (l1 := []) Ty.bd20 rfl rfl (fun w1 hw => (read_spec d s n B p k 0 w1 (hw0.at hw) hB (by omega) (by omega)).mono fun _ w2 ⟨x, h1, h2, h3⟩ => ⟨x, h1, h2, St.free (hw0.at hw) h3⟩) (fun x hva => ?_)
    obtain ⟨va, lpa⟩ := x
    simp only at hva ⊢
    refine J.move rfl rfl ?_
    refine J.extract rfl rfl rfl ?_
    refine J.extract rfl rfl rfl ?_
    refine J.assign rfl rfl ?_
    refine J.assign rfl rfl ?_
    refine J.nil ?_
    refine JX.thenN (hK4 _ _ ?_)
    refine JC.seq (fun K5 hK5 => ?_)
    refine JC.region ?_
    refine J.move rfl rfl ?_
    refine J.perm ([] ++ (lpa ++ [])) (by (refine perm_cnt (fun _ => ?_)); simp only [cntB_append, cntB_cons, cntB_nil, Nat.add_zero, Nat.zero_add]; try ac_rfl) ?_
    refine J.callS (l1 := []) Ty.bd20 rfl rfl (fun w1 hw => (read_spec d s n B p k 1 w1 (hw0.at hw) hB (by omega) (by omega)).mono fun _ w2 ⟨x, h1, h2, h3⟩ => ⟨x, h1, h2, St.free (hw0.at hw) h3⟩) (fun x hvb => ?_)
    obtain ⟨vb, lpb⟩ := x
    simp only at hvb ⊢
    refine J.move rfl rfl ?_
    refine J.extract rfl rfl rfl ?_
    refine J.extract rfl rfl rfl ?_
    refine J.assign rfl rfl ?_
    refine J.assign rfl rfl ?_
    refine J.nil ?_
    refine JX.thenN (hK5 _ _ ?_)
    refine JC.seq (fun K6 hK6 => ?_)
    refine JC.region ?_
    refine J.move rfl rfl ?_
    refine J.callB (fun w1 w2 hw hb => hw.step hb) Ty.bd38 rfl rfl (fun w1 hw => head_spec _ (sec B 0) w1 (hva.row (l := lpb) (hw.perm (by (refine perm_cnt (fun _ => ?_)); simp only [cntB_append, cntB_cons, cntB_nil, Nat.add_zero, Nat.zero_add]; try ac_rfl))) (sec_len64 (by omega))) ?_
    refine J.move rfl rfl ?_
    refine J.extract rfl rfl rfl ?_
    refine J.extract rfl rfl rfl ?_
    refine J.extract rfl rfl rfl ?_
    refine J.assign rfl rfl ?_
    refine J.assign rfl rfl ?_
    refine J.assign rfl rfl ?_
    refine J.nil ?_
    refine JX.thenN (hK6 _ _ ?_)
    refine JC.seqCut (α := Unit) (fun _ => [(0, .pointer (some ⟨d, 0, none⟩)), (9, .int .u64 ((h.1 : Nat) : Int)), (10, .int .u64 ((h.2.1 : Nat) : Int)), (11, .int .u64 ((h.2.2 : Nat) : Int))]) (fun _ w' => St w [] [] w') (fun _ => ?_) (fun K7 hK7 => ?_)
    · skip
      refine JC.seqCut (α := Unit) (fun _ => [(0, .pointer (some ⟨d, 0, none⟩)), (9, .int .u64 ((gen : Nat) : Int)), (10, .int .u64 ((used : Nat) : Int)), (11, .int .u64 ((cnt_ : Nat) : Int))]) (fun _ w' => St w [] [] w') (fun _ => ?_) (fun K8 hK8 => ?_)
      · skip
        refine JC.seq (fun K9 hK9 => ?_)
        refine JC.seq (fun K10 hK10 => ?_)
        refine JC.region ?_
        rcases head_cases n (gen, used, cnt_) with hc | ⟨hc0, hc⟩ | ⟨hc0, hc1, hc⟩ | ⟨hc0, hc1, hc2⟩
        · skip
          try simp only at hc
          try simp only at hc0
          try simp only at hc1
          try simp only at hc2
          have hopen := openP_bad (B := B) hn3 (by rw [hbest]; exact .inl hc)
          refine J.move rfl rfl ?_
          refine J.bin rfl rfl rfl rfl ?_
          refine J.bin rfl rfl rfl rfl ?_
          refine J.name 58 rfl (congrArg Value.bool ((shr63 gen hgl).trans (decide_eq_true hc))) ?_
          refine J.move rfl rfl ?_
          first
            | (refine J.skip rfl rfl rfl rfl rfl ?_)
            | (refine J.skipU rfl rfl rfl rfl ?_)
            | (refine J.unguard rfl rfl rfl ?_; refine J.move rfl rfl ?_)
          first
            | (refine J.skip rfl rfl rfl rfl rfl ?_)
            | (refine J.skipU rfl rfl rfl rfl ?_)
            | (refine J.unguard rfl rfl rfl ?_; refine J.move rfl rfl ?_)
          first
            | (refine J.skip rfl rfl rfl rfl rfl ?_)
            | (refine J.skipU rfl rfl rfl rfl ?_)
            | (refine J.unguard rfl rfl rfl ?_; refine J.callB (fun w1 w2 hw hb => hw.step hb) Ty.bd23 rfl rfl (fun w1 hw => size_spec d s n p k w1 (hw0.at hw)) ?_)
          first
            | (refine J.skip rfl rfl rfl rfl rfl ?_)
            | (refine J.skipU rfl rfl rfl rfl ?_)
            | (refine J.unguard rfl rfl rfl ?_; (first | refine J.subN rfl rfl (by omega) (by omega) rfl ?_ | refine J.bin rfl rfl rfl rfl ?_))
          first
            | (refine J.skip rfl rfl rfl rfl rfl ?_)
            | (refine J.skipU rfl rfl rfl rfl ?_)
            | (refine J.unguard rfl rfl rfl ?_; refine J.convInt Ty.u3 Ty.u65 rfl rfl ?_)
          first
            | (refine J.skip rfl rfl rfl rfl rfl ?_)
            | (refine J.skipU rfl rfl rfl rfl ?_)
            | (refine J.unguard rfl rfl rfl ?_; refine J.bin rfl rfl rfl rfl ?_)
          (first | refine J.pickT rfl rfl rfl ?_ | refine J.pickF rfl rfl rfl ?_)
          refine J.move rfl rfl ?_
          first
            | (refine J.skip rfl rfl rfl rfl rfl ?_)
            | (refine J.skipU rfl rfl rfl rfl ?_)
            | (refine J.unguard rfl rfl rfl ?_; refine J.move rfl rfl ?_)
          first
            | (refine J.skip rfl rfl rfl rfl rfl ?_)
            | (refine J.skipU rfl rfl rfl rfl ?_)
            | (refine J.unguard rfl rfl rfl ?_; refine J.move rfl rfl ?_)
          first
            | (refine J.skip rfl rfl rfl rfl rfl ?_)
            | (refine J.skipU rfl rfl rfl rfl ?_)
            | (refine J.unguard rfl rfl rfl ?_; refine J.bin rfl rfl rfl rfl ?_)
          (first | refine J.pickT rfl rfl rfl ?_ | refine J.pickF rfl rfl rfl ?_)
          refine J.nil ?_
          refine JX.thenN (hK10 _ _ ?_)
          first | refine JC.condT rfl ?_ | refine JC.cond rfl (fun _ => ?_) (fun h => by first | (exfalso; simp at h; omega) | (simp at h))
          refine JC.seq (fun K11 hK11 => ?_)
          refine JC.region ?_
          refine J.assign rfl rfl ?_
          refine J.assign rfl rfl ?_
          refine J.assign rfl rfl ?_
          refine J.nil ?_
          refine JX.thenN (hK11 _ _ ?_)
          refine JC.ret ?_
          refine JX.thenR ?_
          refine JX.ret3 rfl rfl rfl rfl (fun w1 hw => ?_)
          rw [hopen]
          first
          | exact ⟨rfl, hw.below⟩
          | exact ⟨b151, v15, vs, lv, lps, rfl, hol ▸ hvo, hro, hw⟩
        · skip
          try simp only at hc
          try simp only at hc0
          try simp only at hc1
          try simp only at hc2
          have hopen := openP_bad (B := B) hn3 (by rw [hbest]; exact .inr (.inl hc))
          refine J.move rfl rfl ?_
          refine J.bin rfl rfl rfl rfl ?_
          refine J.bin rfl rfl rfl rfl ?_
          refine J.name 58 rfl (congrArg Value.bool ((shr63 gen hgl).trans (decide_eq_false hc0))) ?_
          refine J.move rfl rfl ?_
          first
            | (refine J.skip rfl rfl rfl rfl rfl ?_)
            | (refine J.skipU rfl rfl rfl rfl ?_)
            | (refine J.unguard rfl rfl rfl ?_; refine J.move rfl rfl ?_)
          first
            | (refine J.skip rfl rfl rfl rfl rfl ?_)
            | (refine J.skipU rfl rfl rfl rfl ?_)
            | (refine J.unguard rfl rfl rfl ?_; refine J.move rfl rfl ?_)
          first
            | (refine J.skip rfl rfl rfl rfl rfl ?_)
            | (refine J.skipU rfl rfl rfl rfl ?_)
            | (refine J.unguard rfl rfl rfl ?_; refine J.callB (fun w1 w2 hw hb => hw.step hb) Ty.bd23 rfl rfl (fun w1 hw => size_spec d s n p k w1 (hw0.at hw)) ?_)
          first
            | (refine J.skip rfl rfl rfl rfl rfl ?_)
            | (refine J.skipU rfl rfl rfl rfl ?_)
            | (refine J.unguard rfl rfl rfl ?_; (first | refine J.subN rfl rfl (by omega) (by omega) rfl ?_ | refine J.bin rfl rfl rfl rfl ?_))
          refine J.unguard rfl rfl rfl ?_
          refine J.convInt Ty.u3 Ty.u65 rfl rfl ?_
          refine J.name 64 rfl (congrArg (Value.int .u64) (show _ = ((n - 2 : Nat) : Int) by rw [wrap_u64 (by omega) (by omega)]; omega)) ?_
          refine J.unguard rfl rfl rfl ?_
          refine J.bin rfl rfl rfl rfl ?_
          refine J.name 65 rfl (show Value.bool _ = .bool true by simp <;> omega) ?_
          (first | refine J.pickT rfl rfl rfl ?_ | refine J.pickF rfl rfl rfl ?_)
          refine J.move rfl rfl ?_
          first
            | (refine J.skip rfl rfl rfl rfl rfl ?_)
            | (refine J.skipU rfl rfl rfl rfl ?_)
            | (refine J.unguard rfl rfl rfl ?_; refine J.move rfl rfl ?_)
          first
            | (refine J.skip rfl rfl rfl rfl rfl ?_)
            | (refine J.skipU rfl rfl rfl rfl ?_)
            | (refine J.unguard rfl rfl rfl ?_; refine J.move rfl rfl ?_)
          first
            | (refine J.skip rfl rfl rfl rfl rfl ?_)
            | (refine J.skipU rfl rfl rfl rfl ?_)
            | (refine J.unguard rfl rfl rfl ?_; refine J.bin rfl rfl rfl rfl ?_)
          (first | refine J.pickT rfl rfl rfl ?_ | refine J.pickF rfl rfl rfl ?_)
          refine J.nil ?_
          refine JX.thenN (hK10 _ _ ?_)
          first | refine JC.condT rfl ?_ | refine JC.cond rfl (fun _ => ?_) (fun h => by first | (exfalso; simp at h; omega) | (simp at h))
          refine JC.seq (fun K12 hK12 => ?_)
          refine JC.region ?_
          refine J.assign rfl rfl ?_
          refine J.assign rfl rfl ?_
          refine J.assign rfl rfl ?_
          refine J.nil ?_
          refine JX.thenN (hK12 _ _ ?_)
          refine JC.ret ?_
          refine JX.thenR ?_
          refine JX.ret3 rfl rfl rfl rfl (fun w1 hw => ?_)
          rw [hopen]
          first
          | exact ⟨rfl, hw.below⟩
          | exact ⟨b151, v15, vs, lv, lps, rfl, hol ▸ hvo, hro, hw⟩
        · skip
          try simp only at hc
          try simp only at hc0
          try simp only at hc1
          try simp only at hc2
          have hopen := openP_bad (B := B) hn3 (by rw [hbest]; exact .inr (.inr hc))
          refine J.move rfl rfl ?_
          refine J.bin rfl rfl rfl rfl ?_
          refine J.bin rfl rfl rfl rfl ?_
          refine J.name 58 rfl (congrArg Value.bool ((shr63 gen hgl).trans (decide_eq_false hc0))) ?_
          refine J.move rfl rfl ?_
          first
            | (refine J.skip rfl rfl rfl rfl rfl ?_)
            | (refine J.skipU rfl rfl rfl rfl ?_)
            | (refine J.unguard rfl rfl rfl ?_; refine J.move rfl rfl ?_)
          first
            | (refine J.skip rfl rfl rfl rfl rfl ?_)
            | (refine J.skipU rfl rfl rfl rfl ?_)
            | (refine J.unguard rfl rfl rfl ?_; refine J.move rfl rfl ?_)
          first
            | (refine J.skip rfl rfl rfl rfl rfl ?_)
            | (refine J.skipU rfl rfl rfl rfl ?_)
            | (refine J.unguard rfl rfl rfl ?_; refine J.callB (fun w1 w2 hw hb => hw.step hb) Ty.bd23 rfl rfl (fun w1 hw => size_spec d s n p k w1 (hw0.at hw)) ?_)
          first
            | (refine J.skip rfl rfl rfl rfl rfl ?_)
            | (refine J.skipU rfl rfl rfl rfl ?_)
            | (refine J.unguard rfl rfl rfl ?_; (first | refine J.subN rfl rfl (by omega) (by omega) rfl ?_ | refine J.bin rfl rfl rfl rfl ?_))
          refine J.unguard rfl rfl rfl ?_
          refine J.convInt Ty.u3 Ty.u65 rfl rfl ?_
          refine J.name 64 rfl (congrArg (Value.int .u64) (show _ = ((n - 2 : Nat) : Int) by rw [wrap_u64 (by omega) (by omega)]; omega)) ?_
          refine J.unguard rfl rfl rfl ?_
          refine J.bin rfl rfl rfl rfl ?_
          refine J.name 65 rfl (show Value.bool _ = .bool false by simp <;> omega) ?_
          (first | refine J.pickT rfl rfl rfl ?_ | refine J.pickF rfl rfl rfl ?_)
          refine J.move rfl rfl ?_
          first
            | (refine J.skip rfl rfl rfl rfl rfl ?_)
            | (refine J.skipU rfl rfl rfl rfl ?_)
            | (refine J.unguard rfl rfl rfl ?_; refine J.move rfl rfl ?_)
          first
            | (refine J.skip rfl rfl rfl rfl rfl ?_)
            | (refine J.skipU rfl rfl rfl rfl ?_)
            | (refine J.unguard rfl rfl rfl ?_; refine J.move rfl rfl ?_)
          refine J.unguard rfl rfl rfl ?_
          refine J.bin rfl rfl rfl rfl ?_
          refine J.name 70 rfl (show Value.bool _ = .bool true by simp <;> omega) ?_
          (first | refine J.pickT rfl rfl rfl ?_ | refine J.pickF rfl rfl rfl ?_)
          refine J.nil ?_
          refine JX.thenN (hK10 _ _ ?_)
          first | refine JC.condT rfl ?_ | refine JC.cond rfl (fun _ => ?_) (fun h => by first | (exfalso; simp at h; omega) | (simp at h))
          refine JC.seq (fun K13 hK13 => ?_)
          refine JC.region ?_
          refine J.assign rfl rfl ?_
          refine J.assign rfl rfl ?_
          refine J.assign rfl rfl ?_
          refine J.nil ?_
          refine JX.thenN (hK13 _ _ ?_)
          refine JC.ret ?_
          refine JX.thenR ?_
          refine JX.ret3 rfl rfl rfl rfl (fun w1 hw => ?_)
          rw [hopen]
          first
          | exact ⟨rfl, hw.below⟩
          | exact ⟨b151, v15, vs, lv, lps, rfl, hol ▸ hvo, hro, hw⟩
        · skip
          try simp only at hc
          try simp only at hc0
          try simp only at hc1
          try simp only at hc2
          have hgood : ¬ badHead n (gen, used, cnt_) := by unfold badHead; simp only; omega
          have hul : used ≤ 4096 := by omega
          refine J.move rfl rfl ?_
          refine J.bin rfl rfl rfl rfl ?_
          refine J.bin rfl rfl rfl rfl ?_
          refine J.name 58 rfl (congrArg Value.bool ((shr63 gen hgl).trans (decide_eq_false hc0))) ?_
          refine J.move rfl rfl ?_
          first
            | (refine J.skip rfl rfl rfl rfl rfl ?_)
            | (refine J.skipU rfl rfl rfl rfl ?_)
            | (refine J.unguard rfl rfl rfl ?_; refine J.move rfl rfl ?_)
          first
            | (refine J.skip rfl rfl rfl rfl rfl ?_)
            | (refine J.skipU rfl rfl rfl rfl ?_)
            | (refine J.unguard rfl rfl rfl ?_; refine J.move rfl rfl ?_)
          first
            | (refine J.skip rfl rfl rfl rfl rfl ?_)
            | (refine J.skipU rfl rfl rfl rfl ?_)
            | (refine J.unguard rfl rfl rfl ?_; refine J.callB (fun w1 w2 hw hb => hw.step hb) Ty.bd23 rfl rfl (fun w1 hw => size_spec d s n p k w1 (hw0.at hw)) ?_)
          first
            | (refine J.skip rfl rfl rfl rfl rfl ?_)
            | (refine J.skipU rfl rfl rfl rfl ?_)
            | (refine J.unguard rfl rfl rfl ?_; (first | refine J.subN rfl rfl (by omega) (by omega) rfl ?_ | refine J.bin rfl rfl rfl rfl ?_))
          refine J.unguard rfl rfl rfl ?_
          refine J.convInt Ty.u3 Ty.u65 rfl rfl ?_
          refine J.name 64 rfl (congrArg (Value.int .u64) (show _ = ((n - 2 : Nat) : Int) by rw [wrap_u64 (by omega) (by omega)]; omega)) ?_
          refine J.unguard rfl rfl rfl ?_
          refine J.bin rfl rfl rfl rfl ?_
          refine J.name 65 rfl (show Value.bool _ = .bool false by simp <;> omega) ?_
          (first | refine J.pickT rfl rfl rfl ?_ | refine J.pickF rfl rfl rfl ?_)
          refine J.move rfl rfl ?_
          first
            | (refine J.skip rfl rfl rfl rfl rfl ?_)
            | (refine J.skipU rfl rfl rfl rfl ?_)
            | (refine J.unguard rfl rfl rfl ?_; refine J.move rfl rfl ?_)
          first
            | (refine J.skip rfl rfl rfl rfl rfl ?_)
            | (refine J.skipU rfl rfl rfl rfl ?_)
            | (refine J.unguard rfl rfl rfl ?_; refine J.move rfl rfl ?_)
          refine J.unguard rfl rfl rfl ?_
          refine J.bin rfl rfl rfl rfl ?_
          refine J.name 70 rfl (show Value.bool _ = .bool false by simp <;> omega) ?_
          (first | refine J.pickT rfl rfl rfl ?_ | refine J.pickF rfl rfl rfl ?_)
          refine J.nil ?_
          refine JX.thenN (hK10 _ _ ?_)
          first | refine JC.condF rfl ?_ | refine JC.cond rfl (fun h => by first | (exfalso; simp at h; omega) | (simp at h)) (fun _ => ?_)
          refine JC.skip ?_
          refine JX.thenN (hK9 _ _ ?_)
          refine JC.seq (fun K14 hK14 => ?_)
          refine JC.region ?_
          refine J.assign rfl rfl ?_
          refine J.nil ?_
          refine JX.thenN (hK14 _ _ ?_)
          refine JC.seq (fun K15 hK15 => ?_)
          refine JC.region ?_
          refine J.assign rfl rfl ?_
          refine J.nil ?_
          refine JX.thenN (hK15 _ _ ?_)
          refine JC.seq (fun K16 hK16 => ?_)
          refine JC.seq (fun K17 hK17 => ?_)
          refine JC.region ?_
          refine J.move rfl rfl ?_
          refine J.move rfl rfl ?_
          refine J.nil ?_
          refine JX.thenN (hK17 _ _ ?_)
          refine JC.block ?_
          refine JC.conseq (JC.cov (f := (fun st => [(0, .pointer (some ⟨d, 0, none⟩)), (9, .int .u64 ((gen : Nat) : Int)), (10, .int .u64 ((used : Nat) : Int)), (11, .int .u64 ((cnt_ : Nat) : Int)), (15, st.v15), (16, .int .i64 ((st.at_ : Nat) : Int)), (72, .int .u64 ((cnt_ : Nat) : Int)), (73, .int .u64 ((st.k : Nat) : Int))]) (⟨0, 2, [], [], .slice none 0 0, [], []⟩ : OpSt)) ⟨rfl, rfl, rfl, rfl, rfl, rfl, rfl, rfl, trivial⟩ (JC.loop (α := OpSt) (fun st => [(0, .pointer (some ⟨d, 0, none⟩)), (9, .int .u64 ((gen : Nat) : Int)), (10, .int .u64 ((used : Nat) : Int)), (11, .int .u64 ((cnt_ : Nat) : Int)), (15, st.v15), (16, .int .i64 ((st.at_ : Nat) : Int)), (72, .int .u64 ((cnt_ : Nat) : Int)), (73, .int .u64 ((st.k : Nat) : Int))]) (fun st w' => (st.k ≤ cnt_ ∧ 2 ≤ st.at_ ∧ st.at_ ≤ 2 + used ∧ st.out.length = st.k ∧ Vec 28 1 st.v15 st.k st.vs st.lv ∧ Recs 5 st.vs st.out st.lps ∧ parseS B (2 + used) cnt_ 2 = (parseS B (2 + used) (cnt_ - st.k) st.at_).map (st.out ++ ·)) ∧ St w [] (st.lv ++ st.lps) w') (fun st => cnt_ - st.k) (⟨0, 2, [], [], .slice none 0 0, [], []⟩ : OpSt) (fun st => ?_))) (fun w hw => ⟨⟨Nat.zero_le _, Nat.le_refl _, by show 2 ≤ 2 + used; omega, rfl, Vec.nil _ _, .nil, by simp⟩, hw⟩)
          obtain ⟨k1, at_, out, vs, v15, lv, lps⟩ := st
          refine JC.pr (fun hx => ?_)
          obtain ⟨hk, hat, hat2, hol, hvo, hro, hpar⟩ := hx
          simp only at hk hat hat2 hol hvo hro hpar ⊢
          refine JC.seq (fun K18 hK18 => ?_)
          refine JC.region ?_
          refine J.bin rfl rfl rfl rfl ?_
          refine J.nil ?_
          refine JX.thenN (hK18 _ _ ?_)
          refine JC.seq (fun K19 hK19 => ?_)
          refine JC.cond rfl (fun h4 => ?_) (fun h4 => ?_)
          · skip
            have hlt : k1 < cnt_ := by simp at h4; omega
            have hsuc : cnt_ - k1 = (cnt_ - (k1 + 1)) + 1 := by omega
            refine JC.skip ?_
            refine JX.thenN (hK19 _ _ ?_)
            refine JC.seq (fun K20 hK20 => ?_)
            refine JC.block ?_
            refine JC.seq (fun K21 hK21 => ?_)
            refine JC.seq (fun K22 hK22 => ?_)
            refine JC.region ?_
            refine J.move rfl rfl ?_
            refine J.move rfl rfl ?_
            refine J.convInt Ty.u65 Ty.u3 rfl rfl ?_
            refine J.name 77 rfl (congrArg (Value.int .i64) (show _ = ((used : Nat) : Int) from wrap_i64 (by omega) (by omega))) ?_
            (first | refine J.addN rfl rfl (by omega) (by omega) rfl ?_ | refine J.bin rfl rfl rfl rfl ?_)
            refine J.bin rfl rfl rfl rfl ?_
            refine J.nil ?_
            refine JX.thenN (hK22 _ _ ?_)
            refine JC.cond rfl (fun h5 => ?_) (fun h5 => ?_)
            · skip
              have hopen := openP_none (B := B) hn3 hbest (by rw [hpar, hsuc, parseS, if_pos (by simp at h5; omega)]; rfl)
              refine JC.seq (fun K23 hK23 => ?_)
              refine JC.region ?_
              refine J.assign rfl rfl ?_
              refine J.assign rfl rfl ?_
              refine J.assign rfl rfl ?_
              refine J.nil ?_
              refine JX.thenN (hK23 _ _ ?_)
              refine JC.ret ?_
              refine JX.thenR ?_
              refine JX.blockR ?_
              refine JX.thenR ?_
              refine JX.thenR ?_
              refine JX.blockR ?_
              refine JX.thenR ?_
              refine JX.ret3 rfl rfl rfl rfl (fun w1 hw => ?_)
              rw [hopen]
              first
              | exact ⟨rfl, hw.below⟩
              | exact ⟨b151, v15, vs, lv, lps, rfl, hol ▸ hvo, hro, hw⟩
            · skip
              have hlt5 : at_ < 2 + used := by simp at h5; omega
              refine JC.skip ?_
              refine JX.thenN (hK21 _ _ ?_)
              refine JC.seq (fun K24 hK24 => ?_)
              refine JC.region ?_
              refine J.move rfl rfl ?_
              refine J.move rfl rfl ?_
              refine J.perm ([] ++ (lv ++ lps)) (by (refine perm_cnt (fun _ => ?_)); simp only [cntB_append, cntB_cons, cntB_nil, Nat.add_zero, Nat.zero_add]; try ac_rfl) ?_
              refine J.callS (l1 := []) Ty.bd20 rfl rfl (fun w1 hw => (read_spec d s n B p k ((at_ : Nat) : Int) w1 (hw0.at hw) hB (by omega) (by omega)).mono fun _ w2 ⟨x, h1, h2, h3⟩ => ⟨x, h1, h2, St.free (hw0.at hw) h3⟩) (fun x hv84 => ?_)
              obtain ⟨v84, lp84⟩ := x
              simp only at hv84 ⊢
              obtain ⟨a84, c84, rfl, hc84⟩ := hv84.form
              have hsl := sec_len64 (B := B) (k := at_) (by omega)
              obtain ⟨q84, sp84, hq84, rfl, _, _⟩ := hv84.at (j := 0) (by omega)
              subst hq84
              rw [show ((at_ : Nat) : Int).toNat = at_ from rfl] at hv84
              have hv84' : Vec 5 1 (.slice (some ⟨q84, 0, none⟩) 64 c84) (64 * 1) (((B.drop (64 * at_)).take (64 * 1)).map u8) [(q84, cb ((sec B at_).map u8 ++ sp84) 5)] := hv84
              refine J.perm ((q84, cb ((sec B at_).map u8 ++ sp84) 5) :: (lv ++ lps)) (by (refine perm_cnt (fun _ => ?_)); simp only [cntB_append, cntB_cons, cntB_nil, Nat.add_zero, Nat.zero_add]; try ac_rfl) ?_
              refine J.move rfl rfl ?_
              refine J.extract rfl rfl rfl ?_
              refine J.extract rfl rfl rfl ?_
              refine J.assign rfl rfl ?_
              refine J.assign rfl rfl ?_
              refine J.nil ?_
              refine JX.thenN (hK24 _ _ ?_)
              refine JC.seq (fun K25 hK25 => ?_)
              apply JC.drawL 10 [Eqv _, Eqv _, Eqv _, Eqv _, Eqv _, Eqv _, Eqv _, Eqv _, Eqv _, Eqv _] Ty.mixed rfl rfl rfl (by kernel_rfl) rfl rfl (fun w w' hw hb => hw.step hb) ⟨fun _ _ _ h _ => h, fun _ _ _ h _ => h, fun _ _ _ h _ => h, fun _ _ _ h _ => h, fun _ _ _ h _ => h, fun _ _ _ h _ => h, fun _ _ _ h _ => h, fun _ _ _ h _ => h, fun _ _ _ h _ => h, fun _ _ _ h _ => h, trivial⟩ ?hstep ?htail
              case hstep =>
                refine ⟨fun wi => ?_, fun wi => ?_, fun wi => ?_, fun wi => ?_, fun wi => ?_, fun wi => ?_, fun wi => ?_, fun wi => ?_, fun wi => ?_, fun wi => ?_, trivial⟩
                · skip
                  refine Fin.nil ?_
                  refine J.move rfl rfl ?_
                  refine J.nil (JX.fin rfl (fun w hw => ⟨rfl, (by rw [hw.1]; exact Below.refl _ _)⟩))
                · skip
                  refine Fin.cons (fun v20_0 => ?_)
                  refine Fin.nil ?_
                  refine J.prE (fun h => ?_); subst h
                  refine J.indexAddrS Ty.el28 Ty.s5 rfl rfl (by omega) (by omega) rfl ?_
                  refine J.nil (JX.fin rfl (fun w hw => ⟨rfl, (by rw [hw.1]; exact Below.refl _ _)⟩))
                · skip
                  refine Fin.cons (fun v20_1 => ?_)
                  refine Fin.nil ?_
                  refine J.prE (fun h => ?_); subst h
                  refine J.load1 (v := u8 ((sec B at_)[0]'(by omega))) Ty.a5 rfl (fun w1 hw => (cell_of (hw.2.own _ (.head _))).trans (at_u8 (j := 0) (by omega))) rfl ?_
                  refine J.nil (JX.fin rfl (fun w hw => ⟨rfl, (by rw [hw.1]; exact Below.refl _ _)⟩))
                · skip
                  refine Fin.cons (fun v20_2 => ?_)
                  refine Fin.nil ?_
                  refine J.prE (fun h => ?_); subst h
                  refine J.convInt Ty.u5 Ty.u3 rfl rfl ?_
                  refine J.name 89 rfl (congrArg (Value.int .i64) (show _ = (((B.getD (64 * at_) 0).toNat : Nat) : Int) by rw [sec_getD (by omega) (by omega), Nat.add_zero]; exact wrap_i64 (by omega) (by have := UInt8.toNat_lt (B.getD (64 * at_) 0); omega))) ?_
                  refine J.nil (JX.fin rfl (fun w hw => ⟨rfl, (by rw [hw.1]; exact Below.refl _ _)⟩))
                · skip
                  refine Fin.cons (fun v20_3 => ?_)
                  refine Fin.nil ?_
                  refine J.prE (fun h => ?_); subst h
                  refine J.bin rfl rfl rfl rfl ?_
                  refine J.name 90 rfl (congrArg (Value.int .i64) (show _ = (((B.getD (64 * at_) 0).toNat * 256 : Nat) : Int) by have := UInt8.toNat_lt (B.getD (64 * at_) 0); rw [show (2 : Int) ^ (min (8 : Int).toNat IntKind.i64.bits) = 256 from rfl, wrap_i64 (by omega) (by omega)]; omega)) ?_
                  refine J.nil (JX.fin rfl (fun w hw => ⟨rfl, (by rw [hw.1]; exact Below.refl _ _)⟩))
                · skip
                  refine Fin.nil ?_
                  refine J.move rfl rfl ?_
                  refine J.nil (JX.fin rfl (fun w hw => ⟨rfl, (by rw [hw.1]; exact Below.refl _ _)⟩))
                · skip
                  refine Fin.cons (fun v20_5 => ?_)
                  refine Fin.nil ?_
                  refine J.prE (fun h => ?_); subst h
                  refine J.indexAddrS Ty.el28 Ty.s5 rfl rfl (by omega) (by omega) rfl ?_
                  refine J.nil (JX.fin rfl (fun w hw => ⟨rfl, (by rw [hw.1]; exact Below.refl _ _)⟩))
                · skip
                  refine Fin.cons (fun v20_6 => ?_)
                  refine Fin.nil ?_
                  refine J.prE (fun h => ?_); subst h
                  refine J.load1 (v := u8 ((sec B at_)[1]'(by omega))) Ty.a5 rfl (fun w1 hw => (cell_of (hw.2.own _ (.head _))).trans (at_u8 (j := 1) (by omega))) rfl ?_
                  refine J.nil (JX.fin rfl (fun w hw => ⟨rfl, (by rw [hw.1]; exact Below.refl _ _)⟩))
                · skip
                  refine Fin.cons (fun v20_7 => ?_)
                  refine Fin.nil ?_
                  refine J.prE (fun h => ?_); subst h
                  refine J.convInt Ty.u5 Ty.u3 rfl rfl ?_
                  refine J.name 94 rfl (congrArg (Value.int .i64) (show _ = (((B.getD (64 * at_ + 1) 0).toNat : Nat) : Int) by rw [sec_getD (by omega) (by omega)]; exact wrap_i64 (by omega) (by have := UInt8.toNat_lt (B.getD (64 * at_ + 1) 0); omega))) ?_
                  refine J.nil (JX.fin rfl (fun w hw => ⟨rfl, (by rw [hw.1]; exact Below.refl _ _)⟩))
                · skip
                  refine Fin.cons (fun v20_4 => ?_)
                  refine Fin.cons (fun v20_8 => ?_)
                  refine Fin.nil ?_
                  refine J.prE (fun h => ?_); subst h
                  refine J.prE (fun h => ?_); subst h
                  refine J.bin rfl rfl rfl rfl ?_
                  refine J.name 95 rfl (show _ = Value.int .i64 ((sizeAt B at_ : Nat) : Int) from or_i64 _ _ (UInt8.toNat_lt _) (UInt8.toNat_lt _)) ?_
                  refine J.nil (JX.fin rfl (fun w hw => ⟨rfl, (by rw [hw.1]; exact Below.refl _ _)⟩))
              case htail =>
                refine Fin.cons (fun v20_0 => ?_)
                refine Fin.cons (fun v20_1 => ?_)
                refine Fin.cons (fun v20_2 => ?_)
                refine Fin.cons (fun v20_3 => ?_)
                refine Fin.cons (fun v20_4 => ?_)
                refine Fin.cons (fun v20_5 => ?_)
                refine Fin.cons (fun v20_6 => ?_)
                refine Fin.cons (fun v20_7 => ?_)
                refine Fin.cons (fun v20_8 => ?_)
                refine Fin.cons (fun v20_9 => ?_)
                refine Fin.nil ?_
                refine J.prE (fun h => ?_); subst h
                refine J.prE (fun h => ?_); subst h
                refine J.prE (fun h => ?_); subst h
                refine J.prE (fun h => ?_); subst h
                refine J.prE (fun h => ?_); subst h
                refine J.prE (fun h => ?_); subst h
                refine J.prE (fun h => ?_); subst h
                refine J.prE (fun h => ?_); subst h
                refine J.prE (fun h => ?_); subst h
                refine J.prE (fun h => ?_); subst h
                refine J.assign rfl rfl ?_
                refine J.nil ?_
                refine JX.thenN (hK25 _ _ ?_)
                refine JC.seq (fun K26 hK26 => ?_)
                refine JC.seq (fun K27 hK27 => ?_)
                refine JC.region ?_
                rcases size_cases (sizeAt B at_) (2 + used) at_ with hc | ⟨hz1, hc⟩ | ⟨hz1, hz2⟩
                · skip
                  have hopen := openP_none (B := B) hn3 hbest (by rw [hpar, hsuc, parseS, if_neg (by omega), if_pos (.inl hc)]; rfl)
                  refine J.move rfl rfl ?_
                  refine J.bin rfl rfl rfl rfl ?_
                  refine J.name 97 rfl (show Value.bool _ = .bool true by simp <;> omega) ?_
                  refine J.move rfl rfl ?_
                  first
                    | (refine J.skip rfl rfl rfl rfl rfl ?_)
                    | (refine J.skipU rfl rfl rfl rfl ?_)
                    | (refine J.unguard rfl rfl rfl ?_; refine J.move rfl rfl ?_)
                  first
                    | (refine J.skip rfl rfl rfl rfl rfl ?_)
                    | (refine J.skipU rfl rfl rfl rfl ?_)
                    | (refine J.unguard rfl rfl rfl ?_; refine J.callB (fun w1 w2 hw hb => hw.step hb) Ty.bd39 rfl rfl (fun w1 hw => need_spec (sizeAt B at_) w1 (by omega)) ?_)
                  first
                    | (refine J.skip rfl rfl rfl rfl rfl ?_)
                    | (refine J.skipU rfl rfl rfl rfl ?_)
                    | (refine J.unguard rfl rfl rfl ?_; refine J.move rfl rfl ?_)
                  first
                    | (refine J.skip rfl rfl rfl rfl rfl ?_)
                    | (refine J.skipU rfl rfl rfl rfl ?_)
                    | (refine J.unguard rfl rfl rfl ?_; refine J.convInt Ty.u65 Ty.u3 rfl rfl ?_)
                  first
                    | (refine J.skip rfl rfl rfl rfl rfl ?_)
                    | (refine J.skipU rfl rfl rfl rfl ?_)
                    | (refine J.unguard rfl rfl rfl ?_; (first | refine J.addN rfl rfl (by omega) (by omega) rfl ?_ | refine J.bin rfl rfl rfl rfl ?_))
                  first
                    | (refine J.skip rfl rfl rfl rfl rfl ?_)
                    | (refine J.skipU rfl rfl rfl rfl ?_)
                    | (refine J.unguard rfl rfl rfl ?_; refine J.move rfl rfl ?_)
                  first
                    | (refine J.skip rfl rfl rfl rfl rfl ?_)
                    | (refine J.skipU rfl rfl rfl rfl ?_)
                    | (refine J.unguard rfl rfl rfl ?_; (first | refine J.subN rfl rfl (by omega) (by omega) rfl ?_ | refine J.bin rfl rfl rfl rfl ?_))
                  first
                    | (refine J.skip rfl rfl rfl rfl rfl ?_)
                    | (refine J.skipU rfl rfl rfl rfl ?_)
                    | (refine J.unguard rfl rfl rfl ?_; refine J.bin rfl rfl rfl rfl ?_)
                  (first | refine J.pickT rfl rfl rfl ?_ | refine J.pickF rfl rfl rfl ?_)
                  refine J.nil ?_
                  refine JX.thenN (hK27 _ _ ?_)
                  first | refine JC.condT rfl ?_ | refine JC.cond rfl (fun _ => ?_) (fun h => by first | (exfalso; simp at h; omega) | (simp at h))
                  refine JC.seq (fun K28 hK28 => ?_)
                  refine JC.region ?_
                  refine J.assign rfl rfl ?_
                  refine J.assign rfl rfl ?_
                  refine J.assign rfl rfl ?_
                  refine J.nil ?_
                  refine JX.thenN (hK28 _ _ ?_)
                  refine JC.ret ?_
                  refine JX.thenR ?_
                  refine JX.blockR ?_
                  refine JX.thenR ?_
                  refine JX.thenR ?_
                  refine JX.blockR ?_
                  refine JX.thenR ?_
                  refine JX.ret3 rfl rfl rfl rfl (fun w1 hw => ?_)
                  rw [hopen]
                  first
                  | exact ⟨rfl, hw.below⟩
                  | exact ⟨b151, v15, vs, lv, lps, rfl, hol ▸ hvo, hro, hw⟩
                · skip
                  have hopen := openP_none (B := B) hn3 hbest (by rw [hpar, hsuc, parseS, if_neg (by omega), if_pos (.inr hc)]; rfl)
                  refine J.move rfl rfl ?_
                  refine J.bin rfl rfl rfl rfl ?_
                  refine J.name 97 rfl (show Value.bool _ = .bool false by simp <;> omega) ?_
                  refine J.move rfl rfl ?_
                  first
                    | (refine J.skip rfl rfl rfl rfl rfl ?_)
                    | (refine J.skipU rfl rfl rfl rfl ?_)
                    | (refine J.unguard rfl rfl rfl ?_; refine J.move rfl rfl ?_)
                  first
                    | (refine J.skip rfl rfl rfl rfl rfl ?_)
                    | (refine J.skipU rfl rfl rfl rfl ?_)
                    | (refine J.unguard rfl rfl rfl ?_; refine J.callB (fun w1 w2 hw hb => hw.step hb) Ty.bd39 rfl rfl (fun w1 hw => need_spec (sizeAt B at_) w1 (by omega)) ?_)
                  first
                    | (refine J.skip rfl rfl rfl rfl rfl ?_)
                    | (refine J.skipU rfl rfl rfl rfl ?_)
                    | (refine J.unguard rfl rfl rfl ?_; refine J.move rfl rfl ?_)
                  refine J.unguard rfl rfl rfl ?_
                  refine J.convInt Ty.u65 Ty.u3 rfl rfl ?_
                  refine J.name 102 rfl (congrArg (Value.int .i64) (show _ = ((used : Nat) : Int) from wrap_i64 (by omega) (by omega))) ?_
                  first
                    | (refine J.skip rfl rfl rfl rfl rfl ?_)
                    | (refine J.skipU rfl rfl rfl rfl ?_)
                    | (refine J.unguard rfl rfl rfl ?_; (first | refine J.addN rfl rfl (by omega) (by omega) rfl ?_ | refine J.bin rfl rfl rfl rfl ?_))
                  first
                    | (refine J.skip rfl rfl rfl rfl rfl ?_)
                    | (refine J.skipU rfl rfl rfl rfl ?_)
                    | (refine J.unguard rfl rfl rfl ?_; refine J.move rfl rfl ?_)
                  first
                    | (refine J.skip rfl rfl rfl rfl rfl ?_)
                    | (refine J.skipU rfl rfl rfl rfl ?_)
                    | (refine J.unguard rfl rfl rfl ?_; (first | refine J.subN rfl rfl (by omega) (by omega) rfl ?_ | refine J.bin rfl rfl rfl rfl ?_))
                  refine J.unguard rfl rfl rfl ?_
                  refine J.bin rfl rfl rfl rfl ?_
                  refine J.name 106 rfl (show Value.bool _ = .bool true by simp <;> omega) ?_
                  (first | refine J.pickT rfl rfl rfl ?_ | refine J.pickF rfl rfl rfl ?_)
                  refine J.nil ?_
                  refine JX.thenN (hK27 _ _ ?_)
                  first | refine JC.condT rfl ?_ | refine JC.cond rfl (fun _ => ?_) (fun h => by first | (exfalso; simp at h; omega) | (simp at h))
                  refine JC.seq (fun K29 hK29 => ?_)
                  refine JC.region ?_
                  refine J.assign rfl rfl ?_
                  refine J.assign rfl rfl ?_
                  refine J.assign rfl rfl ?_
                  refine J.nil ?_
                  refine JX.thenN (hK29 _ _ ?_)
                  refine JC.ret ?_
                  refine JX.thenR ?_
                  refine JX.blockR ?_
                  refine JX.thenR ?_
                  refine JX.thenR ?_
                  refine JX.blockR ?_
                  refine JX.thenR ?_
                  refine JX.ret3 rfl rfl rfl rfl (fun w1 hw => ?_)
                  rw [hopen]
                  first
                  | exact ⟨rfl, hw.below⟩
                  | exact ⟨b151, v15, vs, lv, lps, rfl, hol ▸ hvo, hro, hw⟩
                · skip
                  have hnb := @need_bounds (sizeAt B at_)
                  have hrl : ((B.drop (64 * at_ + 2)).take (sizeAt B at_)).length = sizeAt B at_ := by simp; omega
                  refine J.move rfl rfl ?_
                  refine J.bin rfl rfl rfl rfl ?_
                  refine J.name 97 rfl (show Value.bool _ = .bool false by simp <;> omega) ?_
                  refine J.move rfl rfl ?_
                  first
                    | (refine J.skip rfl rfl rfl rfl rfl ?_)
                    | (refine J.skipU rfl rfl rfl rfl ?_)
                    | (refine J.unguard rfl rfl rfl ?_; refine J.move rfl rfl ?_)
                  first
                    | (refine J.skip rfl rfl rfl rfl rfl ?_)
                    | (refine J.skipU rfl rfl rfl rfl ?_)
                    | (refine J.unguard rfl rfl rfl ?_; refine J.callB (fun w1 w2 hw hb => hw.step hb) Ty.bd39 rfl rfl (fun w1 hw => need_spec (sizeAt B at_) w1 (by omega)) ?_)
                  first
                    | (refine J.skip rfl rfl rfl rfl rfl ?_)
                    | (refine J.skipU rfl rfl rfl rfl ?_)
                    | (refine J.unguard rfl rfl rfl ?_; refine J.move rfl rfl ?_)
                  refine J.unguard rfl rfl rfl ?_
                  refine J.convInt Ty.u65 Ty.u3 rfl rfl ?_
                  refine J.name 102 rfl (congrArg (Value.int .i64) (show _ = ((used : Nat) : Int) from wrap_i64 (by omega) (by omega))) ?_
                  first
                    | (refine J.skip rfl rfl rfl rfl rfl ?_)
                    | (refine J.skipU rfl rfl rfl rfl ?_)
                    | (refine J.unguard rfl rfl rfl ?_; (first | refine J.addN rfl rfl (by omega) (by omega) rfl ?_ | refine J.bin rfl rfl rfl rfl ?_))
                  first
                    | (refine J.skip rfl rfl rfl rfl rfl ?_)
                    | (refine J.skipU rfl rfl rfl rfl ?_)
                    | (refine J.unguard rfl rfl rfl ?_; refine J.move rfl rfl ?_)
                  first
                    | (refine J.skip rfl rfl rfl rfl rfl ?_)
                    | (refine J.skipU rfl rfl rfl rfl ?_)
                    | (refine J.unguard rfl rfl rfl ?_; (first | refine J.subN rfl rfl (by omega) (by omega) rfl ?_ | refine J.bin rfl rfl rfl rfl ?_))
                  refine J.unguard rfl rfl rfl ?_
                  refine J.bin rfl rfl rfl rfl ?_
                  refine J.name 106 rfl (show Value.bool _ = .bool false by simp <;> omega) ?_
                  (first | refine J.pickT rfl rfl rfl ?_ | refine J.pickF rfl rfl rfl ?_)
                  refine J.nil ?_
                  refine JX.thenN (hK27 _ _ ?_)
                  first | refine JC.condF rfl ?_ | refine JC.cond rfl (fun h => by first | (exfalso; simp at h; omega) | (simp at h)) (fun _ => ?_)
                  refine JC.skip ?_
                  refine JX.thenN (hK26 _ _ ?_)
                  refine JC.seq (fun K30 hK30 => ?_)
                  refine JC.seq (fun K31 hK31 => ?_)
                  refine JC.region ?_
                  refine J.assign rfl rfl ?_
                  refine J.nil ?_
                  refine JX.thenN (hK31 _ _ ?_)
                  refine JC.block ?_
                  refine JC.conseq (JC.cov (f := (fun st => [(0, .pointer (some ⟨d, 0, none⟩)), (9, .int .u64 ((gen : Nat) : Int)), (10, .int .u64 ((used : Nat) : Int)), (11, .int .u64 ((cnt_ : Nat) : Int)), (15, v15), (16, .int .i64 ((at_ : Nat) : Int)), (72, .int .u64 ((cnt_ : Nat) : Int)), (73, .int .u64 ((k1 : Nat) : Int)), (19, .int .i64 ((sizeAt B at_ : Nat) : Int)), (17, st.2.1), (20, .int .i64 ((st.1 : Nat) : Int))]) ((1, _, _) : Nat × Value × List (Nat × Obj))) ⟨rfl, rfl, rfl, rfl, rfl, rfl, rfl, rfl, rfl, rfl, rfl, trivial⟩ (JC.loop (α := Nat × Value × List (Nat × Obj)) (fun st => [(0, .pointer (some ⟨d, 0, none⟩)), (9, .int .u64 ((gen : Nat) : Int)), (10, .int .u64 ((used : Nat) : Int)), (11, .int .u64 ((cnt_ : Nat) : Int)), (15, v15), (16, .int .i64 ((at_ : Nat) : Int)), (72, .int .u64 ((cnt_ : Nat) : Int)), (73, .int .u64 ((k1 : Nat) : Int)), (19, .int .i64 ((sizeAt B at_ : Nat) : Int)), (17, st.2.1), (20, .int .i64 ((st.1 : Nat) : Int))]) (fun st w' => (1 ≤ st.1 ∧ st.1 ≤ needN (sizeAt B at_) ∧ Vec 5 1 st.2.1 (64 * st.1) (((B.drop (64 * at_)).take (64 * st.1)).map u8) st.2.2) ∧ St w [] (st.2.2 ++ (lv ++ lps)) w') (fun st => needN (sizeAt B at_) - st.1) ((1, _, _) : Nat × Value × List (Nat × Obj)) (fun st => ?_))) (fun w hw => ⟨⟨Nat.le_refl _, need_bounds.1, hv84'⟩, hw⟩)
                  obtain ⟨i, v17, lp17⟩ := st
                  refine JC.pr (fun hx => ?_)
                  obtain ⟨hi1, hi2, hv17⟩ := hx
                  simp only at hi1 hi2 hv17 ⊢
                  refine JC.seq (fun K32 hK32 => ?_)
                  refine JC.seq (fun K33 hK33 => ?_)
                  refine JC.region ?_
                  refine J.move rfl rfl ?_
                  refine J.move rfl rfl ?_
                  refine J.callB (fun w1 w2 hw hb => hw.step hb) Ty.bd39 rfl rfl (fun w1 hw => need_spec (sizeAt B at_) w1 (by omega)) ?_
                  refine J.bin rfl rfl rfl rfl ?_
                  refine J.nil ?_
                  refine JX.thenN (hK33 _ _ ?_)
                  refine JC.cond rfl (fun h7 => ?_) (fun h7 => ?_)
                  · skip
                    have hlt2 : i < needN (sizeAt B at_) := by simp at h7; omega
                    refine JC.skip ?_
                    refine JX.thenN (hK32 _ _ ?_)
                    refine JC.seq (fun K34 hK34 => ?_)
                    refine JC.block ?_
                    refine JC.seq (fun K35 hK35 => ?_)
                    refine JC.region ?_
                    refine J.move rfl rfl ?_
                    refine J.move rfl rfl ?_
                    refine J.move rfl rfl ?_
                    (first | refine J.addN rfl rfl (by omega) (by omega) rfl ?_ | refine J.bin rfl rfl rfl rfl ?_)
                    refine J.perm ([] ++ (lp17 ++ (lv ++ lps))) (by (refine perm_cnt (fun _ => ?_)); simp only [cntB_append, cntB_cons, cntB_nil, Nat.add_zero, Nat.zero_add]; try ac_rfl) ?_
                    refine J.callS (l1 := []) Ty.bd20 rfl rfl (fun w1 hw => (read_spec d s n B p k ((at_ + i : Nat) : Int) w1 (hw0.at hw) hB (by omega) (by omega)).mono fun _ w2 ⟨x, h1, h2, h3⟩ => ⟨x, h1, h2, St.free (hw0.at hw) h3⟩) (fun x hv119 => ?_)
                    obtain ⟨v119, lp119⟩ := x
                    simp only at hv119 ⊢
                    rw [show ((at_ + i : Nat) : Int).toNat = at_ + i from rfl] at hv119
                    refine J.move rfl rfl ?_
                    refine J.extract rfl rfl rfl ?_
                    refine J.extract rfl rfl rfl ?_
                    refine J.assign rfl rfl ?_
                    refine J.assign rfl rfl ?_
                    refine J.nil ?_
                    refine JX.thenN (hK35 _ _ ?_)
                    refine JC.region ?_
                    refine J.move rfl rfl ?_
                    refine J.move rfl rfl ?_
                    refine J.perm (lp17 ++ (lp119 ++ (lv ++ lps))) (by (refine perm_cnt (fun _ => ?_)); simp only [cntB_append, cntB_cons, cntB_nil, Nat.add_zero, Nat.zero_add]; try ac_rfl) ?_
                    refine J.append (lp := lp17) (ys := (sec B (at_ + i)).map u8) (m := 64) Ty.el28 Ty.s5 Ty.b5 Ty.z5 rfl (.inl ⟨5, Ty.u28⟩) rfl rfl hv17 (fun w1 hw => .inl (hv119.row (l := lp17 ++ (lv ++ lps)) (hw.perm (by (refine perm_cnt (fun _ => ?_)); simp only [cntB_append, cntB_cons, cntB_nil, Nat.add_zero, Nat.zero_add]; try ac_rfl)))) (by rw [List.length_map, sec_len64 (by omega)]) (one_u8 _) (by omega) (by omega) rfl (fun v124 lp124 hv124 => ?_)
                    refine J.assign rfl rfl ?_
                    refine J.nil ?_
                    refine JX.blockN ?_
                    refine JX.thenN (hK34 _ _ ?_)
                    refine JC.region ?_
                    refine J.move rfl rfl ?_
                    (first | refine J.addN rfl rfl (by omega) (by omega) rfl ?_ | refine J.bin rfl rfl rfl rfl ?_)
                    refine J.assign rfl rfl ?_
                    refine J.nil ?_
                    refine JX.thenN ?_
                    refine JX.again (i + 1, v124, lp124) ?_ ?_ ?_
                    · simp only; omega
                    · exact ⟨rfl, rfl, rfl, rfl, rfl, rfl, rfl, rfl, rfl, rfl, rfl, trivial⟩
                    · exact fun w1 hw => ⟨⟨by simp only; omega, hlt2, by simp only; rw [← sec_more, List.map_append]; exact hv124⟩, St.drop (St.perm (l' := lp119 ++ (lp124 ++ (lv ++ lps))) hw (by (refine perm_cnt (fun _ => ?_)); simp only [cntB_append, cntB_cons, cntB_nil, Nat.add_zero, Nat.zero_add]; try ac_rfl)) (List.sublist_append_right _ _)⟩
                  · skip
                    obtain rfl : i = needN (sizeAt B at_) := by simp at h7; omega
                    obtain ⟨a17, c17, rfl, hc17⟩ := hv17.form
                    refine JC.exit ?_
                    refine JX.thenE ?_
                    refine JX.thenE ?_
                    refine JX.blockE ?_
                    refine JX.thenN (hK30 _ _ ?_)
                    refine JC.seq (fun K36 hK36 => ?_)
                    refine JC.region ?_
                    refine J.move rfl rfl ?_
                    refine J.buildSl Ty.el28 Ty.s5 Ty.z5 rfl rfl rfl rfl rfl rfl rfl (fun b126 => ?_)
                    refine J.move rfl rfl ?_
                    refine J.move rfl rfl ?_
                    refine J.addN rfl rfl (by omega) (by omega) rfl ?_
                    refine J.name 129 rfl (show Value.int .i64 _ = .int .i64 ((2 + sizeAt B at_ : Nat) : Int) by congr 1) ?_
                    refine J.sliceS (i := 2) (j := 2 + sizeAt B at_) Ty.el28 Ty.s5 rfl rfl rfl (by simp [bnd]) rfl (by omega) (by omega) (by omega) rfl ?_
                    refine J.append (lp := [(b126, cb [] 5)]) (xs := []) (ys := ((B.drop (64 * at_ + 2)).take (sizeAt B at_)).map u8) (k := 0) (m := 2 + sizeAt B at_ - 2) Ty.el28 Ty.s5 Ty.b5 Ty.z5 rfl (.inl ⟨5, Ty.u28⟩) rfl rfl ⟨rfl, .inr ⟨b126, 0, [], rfl, rfl, rfl, Nat.le_refl _⟩⟩ (fun w1 hw => .inl ?_) (by rw [List.length_map, hrl]; omega) (one_u8 _) (by omega) (by omega) rfl (fun v131 lp131 hv131 => ?_)
                    · have h1 := (hv17.row (l := lv ++ lps) (hw.drop (List.sublist_append_right _ _))).slice (sz := 1) (i := 2) (j := 2 + sizeAt B at_) (by simp; omega) (by omega) (by omega)
                      rw [Nat.mul_one, Nat.mul_one, ← List.map_drop, ← List.map_take, show 2 + sizeAt B at_ - 2 = sizeAt B at_ by omega, rec_of hnb.2.1] at h1
                      rw [show 2 + sizeAt B at_ - 2 = sizeAt B at_ by omega]
                      exact h1
                    rw [List.nil_append, show 0 + (2 + sizeAt B at_ - 2) = sizeAt B at_ by omega] at hv131
                    obtain ⟨a131, c131, rfl, hc131⟩ := hv131.form
                    refine J.buildSl Ty.el47 Ty.s28 Ty.z28 rfl rfl rfl rfl rfl rfl rfl (fun b132 => ?_)
                    refine J.perm ((b132, cb [.slice a131 (sizeAt B at_) c131] 28) :: (lp131 ++ (lp17 ++ (lv ++ lps)))) (.refl _) ?_
                    refine J.perm (lv ++ ([(b132, cb [.slice a131 (sizeAt B at_) c131] 28)] ++ (lp131 ++ (lp17 ++ lps)))) (by (refine perm_cnt (fun _ => ?_)); simp only [cntB_append, cntB_cons, cntB_nil, Nat.add_zero, Nat.zero_add]; try ac_rfl) ?_
                    refine J.append (lp := lv) (ys := [.slice a131 (sizeAt B at_) c131]) (m := 1) Ty.el47 Ty.s28 Ty.b28 Ty.z28 rfl (.inl ⟨28, Ty.u47⟩) rfl rfl hvo (fun w1 hw => .inl (Row.own (cs := [.slice a131 (sizeAt B at_) c131]) (tb := 28) (fr := (0, 0)) hw (List.mem_append_right _ (.head _)) rfl (Nat.le_refl _))) rfl (by simp [Value.oneCell']) (by omega) (by omega) rfl (fun v133 lv133 hv133 => ?_)
                    have hpar2 : parseS B (2 + used) cnt_ 2 = (parseS B (2 + used) (cnt_ - (k1 + 1)) (at_ + needN (sizeAt B at_))).map (fun x => (out ++ [(B.drop (64 * at_ + 2)).take (sizeAt B at_)]) ++ x) := by
                      rw [hpar, hsuc, parseS, if_neg (by omega), if_neg (by omega), Option.map_map]
                      congr 1
                      funext x
                      simp
                    refine J.assign rfl rfl ?_
                    refine J.nil ?_
                    refine JX.thenN (hK36 _ _ ?_)
                    refine JC.region ?_
                    refine J.move rfl rfl ?_
                    refine J.move rfl rfl ?_
                    refine J.callB (fun w1 w2 hw hb => hw.step hb) Ty.bd39 rfl rfl (fun w1 hw => need_spec (sizeAt B at_) w1 (by omega)) ?_
                    (first | refine J.addN rfl rfl (by omega) (by omega) rfl ?_ | refine J.bin rfl rfl rfl rfl ?_)
                    refine J.assign rfl rfl ?_
                    refine J.nil ?_
                    refine JX.blockN ?_
                    refine JX.thenN (hK20 _ _ ?_)
                    refine JC.region ?_
                    refine J.bin rfl rfl rfl rfl ?_
                    refine J.name 138 rfl (congrArg (Value.int .u64) (show _ = ((k1 + 1 : Nat) : Int) from wrap_u64 (by omega) (by omega))) ?_
                    refine J.move rfl rfl ?_
                    refine J.nil ?_
                    refine JX.thenN ?_
                    refine JX.again (⟨k1 + 1, at_ + needN (sizeAt B at_), out ++ [(B.drop (64 * at_ + 2)).take (sizeAt B at_)], vs ++ [.slice a131 (sizeAt B at_) c131], v133, lv133, lps ++ lp131⟩ : OpSt) ?_ ?_ ?_
                    · simp only; omega
                    · exact ⟨rfl, rfl, rfl, rfl, rfl, rfl, rfl, rfl, trivial⟩
                    · exact fun w1 hw => ⟨⟨hlt, by simp only; omega, by simp only; omega, by simp [hol], hv133, .snoc hro (by rw [hrl]; exact hv131), hpar2⟩, St.drop (St.perm (l' := (lp17 ++ [(b132, cb [.slice a131 (sizeAt B at_) c131] 28)]) ++ (lv133 ++ (lps ++ lp131))) hw (by (refine perm_cnt (fun _ => ?_)); simp only [cntB_append, cntB_cons, cntB_nil, Nat.add_zero, Nat.zero_add]; try ac_rfl)) (List.sublist_append_right _ _)⟩
          · skip
            obtain rfl : cnt_ = k1 := by simp at h4; omega
            rw [Nat.sub_self] at hpar
            refine JC.exit ?_
            refine JX.thenE ?_
            refine JX.thenE ?_
            refine JX.blockE ?_
            refine JX.thenN (hK16 _ _ ?_)
            refine JC.seq (fun K37 hK37 => ?_)
            refine JC.seq (fun K38 hK38 => ?_)
            refine JC.region ?_
            refine J.move rfl rfl ?_
            refine J.move rfl rfl ?_
            refine J.convInt Ty.u65 Ty.u3 rfl rfl ?_
            refine J.name 141 rfl (congrArg (Value.int .i64) (show _ = ((used : Nat) : Int) from wrap_i64 (by omega) (by omega))) ?_
            (first | refine J.addN rfl rfl (by omega) (by omega) rfl ?_ | refine J.bin rfl rfl rfl rfl ?_)
            refine J.bin rfl rfl rfl rfl ?_
            refine J.nil ?_
            refine JX.thenN (hK38 _ _ ?_)
            refine JC.cond rfl (fun h8 => ?_) (fun h8 => ?_)
            · skip
              have hopen := openP_none (B := B) hn3 hbest (by rw [hpar, parseS, if_neg (by simp at h8; omega)]; rfl)
              refine JC.seq (fun K39 hK39 => ?_)
              refine JC.region ?_
              refine J.assign rfl rfl ?_
              refine J.assign rfl rfl ?_
              refine J.assign rfl rfl ?_
              refine J.nil ?_
              refine JX.thenN (hK39 _ _ ?_)
              refine JC.ret ?_
              refine JX.thenR ?_
              refine JX.ret3 rfl rfl rfl rfl (fun w1 hw => ?_)
              rw [hopen]
              first
              | exact ⟨rfl, hw.below⟩
              | exact ⟨b151, v15, vs, lv, lps, rfl, hol ▸ hvo, hro, hw⟩
            · skip
              have hopen := openP_some (B := B) hn3 hbest hgood (rs := out) (by rw [hpar, parseS, if_pos (by simp at h8; omega)]; simp)
              refine JC.skip ?_
              refine JX.thenN (hK37 _ _ ?_)
              refine JC.seq (fun K40 hK40 => ?_)
              refine JC.region ?_
              refine J.move rfl rfl ?_
              refine J.move rfl rfl ?_
              refine J.move rfl rfl ?_
              refine J.convInt Ty.u65 Ty.u3 rfl rfl ?_
              refine J.name 147 rfl (congrArg (Value.int .i64) (show _ = ((used : Nat) : Int) from wrap_i64 (by omega) (by omega))) ?_
              refine J.move rfl rfl ?_
              refine J.convInt Ty.u65 Ty.u3 rfl rfl ?_
              refine J.name 149 rfl (congrArg (Value.int .i64) (show _ = ((cnt_ : Nat) : Int) from wrap_i64 (by omega) (by omega))) ?_
              refine J.buildS Ty.pl80 Ty.z80 rfl rfl rfl ?_
              refine J.box rfl rfl rfl (fun b151 => ?_)
              refine J.move rfl rfl ?_
              refine J.assign rfl rfl ?_
              refine J.assign rfl rfl ?_
              refine J.assign rfl rfl ?_
              refine J.nil ?_
              refine JX.thenN (hK40 _ _ ?_)
              refine JC.ret ?_
              refine JX.ret3 rfl rfl rfl rfl (fun w1 hw => ?_)
              rw [hopen]
              first
              | exact ⟨rfl, hw.below⟩
              | exact ⟨b151, v15, vs, lv, lps, rfl, hol ▸ hvo, hro, hw⟩
      · skip
        refine JC.seq (fun K41 hK41 => ?_)
        refine JC.region ?_
        refine J.move rfl rfl ?_
        refine J.bin rfl rfl rfl rfl ?_
        refine J.nil ?_
        refine JX.thenN (hK41 _ _ ?_)
        refine JC.cond rfl (fun h2 => ?_) (fun h2 => ?_)
        · skip
          try simp only [decide_eq_true_eq, decide_eq_false_iff_not, beq_iff_eq, bne_iff_ne, bne_eq_false_iff_eq, ne_eq, beq_eq_false_iff_ne, Bool.not_eq_true, Bool.not_eq_false, Int.not_lt, Int.not_le] at h2
          refine JC.region ?_
          refine J.assign rfl rfl ?_
          refine J.assign rfl rfl ?_
          refine J.nil ?_
          refine JX.thenN ?_
          have hz : h.1 = 0 := by simp at h2; exact h2
          have hbz : bestP B 2 = (0, 0, 0) := by rw [best_two B h hh, if_pos hz]
          obtain ⟨rfl, rfl, rfl⟩ : gen = 0 ∧ used = 0 ∧ cnt_ = 0 := by rw [hbest] at hbz; simpa using hbz
          exact JX.cut (hK8 ()) ⟨rfl, by simp only [hz]; rfl, rfl, rfl, trivial⟩ (fun w1 hw => hw)
        · skip
          try simp only [decide_eq_true_eq, decide_eq_false_iff_not, beq_iff_eq, bne_iff_ne, bne_eq_false_iff_eq, ne_eq, beq_eq_false_iff_ne, Bool.not_eq_true, Bool.not_eq_false, Int.not_lt, Int.not_le] at h2
          refine JC.skip ?_
          refine JX.thenN ?_
          have hz : h.1 ≠ 0 := by simp at h2; exact h2
          have hbz : bestP B 2 = h := by rw [best_two B h hh, if_neg hz]
          obtain rfl : h = (gen, used, cnt_) := by rw [← hbz, hbest]
          exact JX.cut (hK8 ()) ⟨rfl, rfl, rfl, rfl, trivial⟩ (fun w1 hw => hw)
    · skip
      refine JC.seq (fun K42 hK42 => ?_)
      refine JC.region ?_
      refine J.move rfl rfl ?_
      refine J.callB (fun w1 w2 hw hb => hw.step hb) Ty.bd38 rfl rfl (fun w1 hw => head_spec _ (sec B 1) w1 (hvb.row (l := lpa) (hw.perm (by (refine perm_cnt (fun _ => ?_)); simp only [cntB_append, cntB_cons, cntB_nil, Nat.add_zero, Nat.zero_add]; try ac_rfl))) (sec_len64 (by omega))) ?_
      refine J.move rfl rfl ?_
      refine J.extract rfl rfl rfl ?_
      refine J.extract rfl rfl rfl ?_
      refine J.extract rfl rfl rfl ?_
      refine J.assign rfl rfl ?_
      refine J.assign rfl rfl ?_
      refine J.assign rfl rfl ?_
      refine J.nil ?_
      refine JX.thenN (hK42 _ _ ?_)
      refine JC.seq (fun K43 hK43 => ?_)
      refine JC.region ?_
      refine J.move rfl rfl ?_
      refine J.move rfl rfl ?_
      refine J.bin rfl rfl rfl rfl ?_
      refine J.nil ?_
      refine JX.thenN (hK43 _ _ ?_)
      refine JC.cond rfl (fun h1 => ?_) (fun h1 => ?_)
      · skip
        try simp only [decide_eq_true_eq, decide_eq_false_iff_not, beq_iff_eq, bne_iff_ne, bne_eq_false_iff_eq, ne_eq, beq_eq_false_iff_ne, Bool.not_eq_true, Bool.not_eq_false, Int.not_lt, Int.not_le] at h1
        refine JC.region ?_
        refine J.move rfl rfl ?_
        refine J.move rfl rfl ?_
        refine J.move rfl rfl ?_
        refine J.assign rfl rfl ?_
        refine J.assign rfl rfl ?_
        refine J.assign rfl rfl ?_
        refine J.nil ?_
        refine JX.thenN ?_
        exact JX.cut (hK7 ()) ⟨rfl, by rw [← hh, if_pos (by simp at h1; omega)]; rfl, by rw [← hh, if_pos (by simp at h1; omega)]; rfl, by rw [← hh, if_pos (by simp at h1; omega)]; rfl, trivial⟩ (fun w1 hw => hw.drop (List.nil_sublist _))
      · skip
        try simp only [decide_eq_true_eq, decide_eq_false_iff_not, beq_iff_eq, bne_iff_ne, bne_eq_false_iff_eq, ne_eq, beq_eq_false_iff_ne, Bool.not_eq_true, Bool.not_eq_false, Int.not_lt, Int.not_le] at h1
        refine JC.skip ?_
        refine JX.thenN ?_
        exact JX.cut (hK7 ()) ⟨rfl, by rw [← hh, if_neg (by simp at h1; omega)]; rfl, by rw [← hh, if_neg (by simp at h1; omega)]; rfl, by rw [← hh, if_neg (by simp at h1; omega)]; rfl, trivial⟩ (fun w1 hw => hw.drop (List.nil_sublist _))

end Go.Proofs.Ytlmbpfgiadbjaaa
