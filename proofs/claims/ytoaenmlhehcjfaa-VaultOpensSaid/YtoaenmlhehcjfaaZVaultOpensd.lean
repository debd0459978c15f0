/-
  VaultOpens: texts that its proof needs, part 4.
-/
import Derived.Test.YtoaenmlhehcjfaaZVaultOpensc
/-
 The vault's read: contract.
-/
namespace Go.Proofs.Ytoaenmlhehcjfaa
open Go.J Go.RowKit
set_option linter.unusedVariables false
set_option linter.unusedSimpArgs false
set_option maxRecDepth 8000
theorem getI_end (bs : List UInt8) (at_ : Nat) : (getI bs at_).2.1 ≤ bs.length := by
 unfold getI
 split
 ·exact Nat.zero_le _
 ·split
  ·exact Nat.zero_le _
  ·simp only; omega
theorem getT_len (bs : List UInt8) (at_ most : Nat) : (getT bs at_ most).1.length ≤ most := by
 unfold getT
 split
 ·exact Nat.zero_le _
 ·split
  ·exact Nat.zero_le _
  ·split
   ·exact Nat.zero_le _
   ·simp only [List.length_take]; omega
theorem getT_end (bs : List UInt8) (at_ most : Nat) : (getT bs at_ most).2.1 ≤ bs.length + most := by
 have h := getN_end bs at_
 unfold getT
 split
 ·exact Nat.zero_le _
 ·split
  ·exact Nat.zero_le _
  ·split
   ·exact Nat.zero_le _
   ·simp only; omega
/-- what a record says to a vault -/
def readP (inc : Nat) (bs : List UInt8) : Option (Nat ⊕ ItV) :=
  if (getN bs 0).2.2 ≠ 0 then none else
  if (getN bs 0).1 = 1 then
    (if (getN bs (getN bs 0).2.1).2.2 ≠ 0 ∨ (getN bs (getN bs 0).2.1).2.1 < bs.length ∨ 1048576 < (getN bs (getN bs 0).2.1).1 ∨ (getN bs (getN bs 0).2.1).1 ≤ inc then none else some (.inl (getN bs (getN bs 0).2.1).1))
  else if (getN bs 0).1 = 2 then
    (if (getI bs (getN bs 0).2.1).2.2 ≠ 0 then none else
     if (getN bs (getI bs (getN bs 0).2.1).2.1).2.2 ≠ 0 ∨ (getN bs (getI bs (getN bs 0).2.1).2.1).1 < 1 ∨ 4611686018427387904 ≤ (getN bs (getI bs (getN bs 0).2.1).2.1).1 then none else
     if (getI bs (getN bs (getI bs (getN bs 0).2.1).2.1).2.1).2.2 ≠ 0 then none else
     if (getT bs (getI bs (getN bs (getI bs (getN bs 0).2.1).2.1).2.1).2.1 64).2.2 ≠ 0 ∨ (getT bs (getI bs (getN bs (getI bs (getN bs 0).2.1).2.1).2.1).2.1 64).2.1 < bs.length then none else
     some (.inr ⟨(getI bs (getN bs 0).2.1).1, ⟨((getN bs (getI bs (getN bs 0).2.1).2.1).1 : Int), (getI bs (getN bs (getI bs (getN bs 0).2.1).2.1).2.1).1⟩, (getT bs (getI bs (getN bs (getI bs (getN bs 0).2.1).2.1).2.1).2.1 64).1⟩))
  else none
inductive ReadR where
 | no
 | inc (n : Nat)
 | item (h : HI) (es : Array MapEntry) (ck : Nat)
def ReadR.ok : ReadR → Bool
 | .no => false
 | _ => true
def ReadR.lst (vb mb : Nat) (lv : Value) (inc : Int) (es : Array MapEntry) (ck : Nat) : ReadR → List (Nat × Obj)
 | .no => [(vb, vaO lv mb inc), (mb, .map es ck)]
 | .inc n => [(vb, vaO lv mb ((n : Nat) : Int)), (mb, .map es ck)]
 | .item h es' ck' => (vb, vaO lv mb inc) :: (mb, .map es' ck') :: h.lp
def ReadR.Pr (L : List HI) (inc : Nat) (bs : List UInt8) : ReadR → Prop
 | .no => readP inc bs = none
 | .inc n => readP inc bs = some (.inl n)
 | .item h es' ck' => readP inc bs = some (.inr h.it) ∧ (okV h.ver.n ∧ Vec 5 1 h.sv h.bs.length (h.bs.map u8) h.lp) ∧ Vm (takeH L h) es' ck'
theorem set_key (key a : IDV) (ver : WV) (sv : Value) : setMany (cT key ver sv) 0 (cI a) = cT a ver sv := by rw [setMany_eq _ _ _ (by show _ ≤ 34; show 0 + 16 ≤ 34; omega)]; rfl
theorem set_n (key : IDV) (ver : WV) (sv : Value) (n : Int) : setMany (cT key ver sv) 16 [.int .i64 n] = cT key ⟨n, ver.who⟩ sv := rfl
theorem set_who (key : IDV) (ver : WV) (sv : Value) (a : IDV) : setMany (cT key ver sv) 17 (cI a) = cT key ⟨ver.n, a⟩ sv := by rw [setMany_eq _ _ _ (by show 17 + 16 ≤ 34; omega)]; rfl
theorem shr62 (g : Nat) (hg : g < 18446744073709551616) : (decide (Int.fdiv ((g : Nat) : Int) (2 ^ (min (62 : Int).toNat IntKind.u64.bits)) > 0)) = decide (4611686018427387904 ≤ g) := by
 have e : ((2 : Int) ^ (min (62 : Int).toNat IntKind.u64.bits)) = 4611686018427387904 := by decide
 rw [e, Int.fdiv_eq_ediv_of_nonneg _ (by omega)]
 by_cases h : 4611686018427387904 ≤ g
 ·rw [decide_eq_true h, decide_eq_true (by omega)]
 ·rw [decide_eq_false h, decide_eq_false (by omega)]
theorem okN_of {n : Nat} (h : n < 9223372036854775808) : okN ((n : Nat) : Int) := by
 show (Lit.int .i64 ((n : Nat) : Int)).wf = true
 simp only [Lit.wf]
 rw [Bool.and_eq_true]
 have h1 : IntKind.i64.min = -9223372036854775808 := by decide
 have h2 : IntKind.i64.max = 9223372036854775807 := by decide
 exact ⟨decide_eq_true (by omega), decide_eq_true (by omega)⟩

theorem readP_0 {inc n0 p0 : Nat} {e0 : Int} {bs : List UInt8} (hN0 : getN bs 0 = (n0, p0, e0)) (h : e0 ≠ 0 ∨ (n0 ≠ 1 ∧ n0 ≠ 2)) : readP inc bs = none := by
 unfold readP
 simp only [hN0]
 rcases h with h | ⟨h1, h2⟩
 ·rw [if_pos h]
 ·by_cases he : e0 ≠ 0
  ·rw [if_pos he]
  ·rw [if_neg he, if_neg h1, if_neg h2]
theorem readP_1 {inc p0 n1 p1 : Nat} {e1 : Int} {bs : List UInt8} (hN0 : getN bs 0 = (1, p0, 0)) (hN1 : getN bs p0 = (n1, p1, e1)) (h : e1 ≠ 0 ∨ p1 < bs.length ∨ 1048576 < n1 ∨ n1 ≤ inc) : readP inc bs = none := by
 unfold readP
 simp only [hN0, hN1]
 rw [if_neg (by simp), if_pos trivial, if_pos h]
theorem readP_inc {inc p0 n1 p1 : Nat} {e1 : Int} {bs : List UInt8} (hN0 : getN bs 0 = (1, p0, 0)) (hN1 : getN bs p0 = (n1, p1, e1)) (h0 : e1 = 0) (h1 : ¬ p1 < bs.length) (h2 : ¬ 1048576 < n1) (h3 : ¬ n1 ≤ inc) : readP inc bs = some (.inl n1) := by
 unfold readP
 simp only [hN0, hN1]
 rw [if_neg (by simp), if_pos trivial, if_neg (by rintro (h | h | h | h); exact h h0; exact h1 h; exact h2 h; exact h3 h)]
theorem readP_k1 {inc p0 p1 : Nat} {e1 : Int} {k1 : IDV} {bs : List UInt8} (hN0 : getN bs 0 = (2, p0, 0)) (hK1 : getI bs p0 = (k1, p1, e1)) (h : e1 ≠ 0) : readP inc bs = none := by
 unfold readP
 simp only [hN0, hK1]
 rw [if_neg (by simp), if_neg (by decide), if_pos trivial, if_pos h]
theorem readP_n2 {inc p0 p1 n2 p2 : Nat} {e1 e2 : Int} {k1 : IDV} {bs : List UInt8} (hN0 : getN bs 0 = (2, p0, 0)) (hK1 : getI bs p0 = (k1, p1, e1)) (hz1 : e1 = 0) (hN2 : getN bs p1 = (n2, p2, e2)) (h : e2 ≠ 0 ∨ n2 < 1 ∨ 4611686018427387904 ≤ n2) : readP inc bs = none := by
 unfold readP
 simp only [hN0, hK1, hN2]
 rw [if_neg (by simp), if_neg (by decide), if_pos trivial, if_neg (by rw [hz1]; simp), if_pos h]
theorem readP_k3 {inc p0 p1 n2 p2 p3 : Nat} {e1 e3 : Int} {k1 k3 : IDV} {bs : List UInt8} (hN0 : getN bs 0 = (2, p0, 0)) (hK1 : getI bs p0 = (k1, p1, e1)) (hz1 : e1 = 0) (hN2 : getN bs p1 = (n2, p2, 0)) (xb : ¬ n2 < 1) (xc : ¬ 4611686018427387904 ≤ n2) (hK3 : getI bs p2 = (k3, p3, e3)) (h : e3 ≠ 0) : readP inc bs = none := by
 unfold readP
 simp only [hN0, hK1, hN2, hK3]
 rw [if_neg (by simp), if_neg (by decide), if_pos trivial, if_neg (by rw [hz1]; simp), if_neg (by rintro (h | h | h); exact h rfl; exact xb h; exact xc h), if_pos h]
theorem readP_t4 {inc p0 p1 n2 p2 p3 p4 : Nat} {e1 e3 e4 : Int} {k1 k3 : IDV} {t4 bs : List UInt8} (hN0 : getN bs 0 = (2, p0, 0)) (hK1 : getI bs p0 = (k1, p1, e1)) (hz1 : e1 = 0) (hN2 : getN bs p1 = (n2, p2, 0)) (xb : ¬ n2 < 1) (xc : ¬ 4611686018427387904 ≤ n2) (hK3 : getI bs p2 = (k3, p3, e3)) (hz3 : e3 = 0) (hT4 : getT bs p3 64 = (t4, p4, e4)) (h : e4 ≠ 0 ∨ p4 < bs.length) : readP inc bs = none := by
 unfold readP
 simp only [hN0, hK1, hN2, hK3, hT4]
 rw [if_neg (by simp), if_neg (by decide), if_pos trivial, if_neg (by rw [hz1]; simp), if_neg (by rintro (h | h | h); exact h rfl; exact xb h; exact xc h), if_neg (by rw [hz3]; simp), if_pos h]
theorem readP_item {inc p0 p1 n2 p2 p3 p4 : Nat} {e1 e3 e4 : Int} {k1 k3 : IDV} {t4 bs : List UInt8} (hN0 : getN bs 0 = (2, p0, 0)) (hK1 : getI bs p0 = (k1, p1, e1)) (hz1 : e1 = 0) (hN2 : getN bs p1 = (n2, p2, 0)) (xb : ¬ n2 < 1) (xc : ¬ 4611686018427387904 ≤ n2) (hK3 : getI bs p2 = (k3, p3, e3)) (hz3 : e3 = 0) (hT4 : getT bs p3 64 = (t4, p4, e4)) (h0 : e4 = 0) (h1 : ¬ p4 < bs.length) : readP inc bs = some (.inr ⟨k1, ⟨((n2 : Nat) : Int), k3⟩, t4⟩) := by
 unfold readP
 simp only [hN0, hK1, hN2, hK3, hT4]
 rw [if_neg (by simp), if_neg (by decide), if_pos trivial, if_neg (by rw [hz1]; simp), if_neg (by rintro (h | h | h); exact h rfl; exact xb h; exact xc h), if_neg (by rw [hz3]; simp), if_neg (by rintro (h | h); exact h h0; exact h1 h)]

set_option maxHeartbeats 1000000 in
theorem vread_spec (vb mb inc : Nat) (lv : Value) (L : List HI) (es : Array MapEntry) (ck : Nat) (hT : Vm L es ck) (hV : VOK L) (v : Value) (bs : List UInt8) (w : World) (hw0 : Own w [(vb, vaO lv mb ((inc : Nat) : Int)), (mb, .map es ck)]) (hr : Row w v bs.length (bs.map u8)) (hoff : Off [vb, mb] v (bs.map u8)) (hl : bs.length ≤ 2000) (hinc : inc ≤ 1048576) :
  Calls Try.prog 45 [.pointer (some ⟨vb, 0, none⟩), v].toArray w fun r w' => ∃ s : ReadR, r = .returned (.bool s.ok) ∧ s.Pr L inc bs ∧ St w [vb, mb] (s.lst vb mb lv ((inc : Nat) : Int) es ck) w' := by
 obtain ⟨a, c, rfl, hc, _⟩ := id hr
 refine calls_of_J (args := [.pointer (some ⟨vb, 0, none⟩), .slice a bs.length c]) (e := [(0, .pointer (some ⟨vb, 0, none⟩)), (1, .slice a bs.length c)]) Try.func45 rfl rfl ⟨rfl, rfl, trivial⟩ (hw0.st) ?_; refine JC.seq (fun K0 hK0 => ?_); refine JC.region ?_; refine J.assign rfl rfl ?_; refine J.nil ?_; refine JX.thenN (hK0 _ _ ?_); refine JC.seq (fun K1 hK1 => ?_); refine JC.region ?_; refine J.move rfl rfl ?_
 obtain ⟨⟨n0, p0, e0⟩, hN0⟩ : ∃ x, getN bs 0 = x := ⟨_, rfl⟩
 have hn0b := getN_end bs 0
 have hn0u := getN_u64 bs 0
 rw [hN0] at hn0b hn0u
 simp only at hn0b hn0u
 refine J.callB (v := .tuple #[.int .u64 ((n0 : Nat) : Int), .int .i64 ((p0 : Nat) : Int), .int .i64 e0]) (fun w1 w2 hw hb => hw.step hb) Ty.bd64 rfl rfl (fun w1 hw => by have h9 := getNum_spec _ bs 0 w1 (hr.st hoff hw) (by omega) (by omega); rw [hN0] at h9; exact h9) ?_; refine J.move rfl rfl ?_; refine J.extract rfl rfl rfl ?_; refine J.extract rfl rfl rfl ?_; refine J.extract rfl rfl rfl ?_; refine J.assign rfl rfl ?_; refine J.assign rfl rfl ?_; refine J.assign rfl rfl ?_; refine J.nil ?_; refine JX.thenN (hK1 _ _ ?_); refine JC.seq (fun K2 hK2 => ?_); refine JC.seq (fun K3 hK3 => ?_); refine JC.region ?_; refine J.move rfl rfl ?_; refine J.bin rfl rfl rfl rfl ?_; refine J.nil ?_; refine JX.thenN (hK3 _ _ ?_); refine JC.cond rfl (fun h0 => ?_) (fun h0 => ?_)
 ·have hg : readP inc bs = none := readP_0 hN0 (.inl (by simpa using h0))
  refine JC.seq (fun K4 hK4 => ?_); refine JC.region ?_; refine J.assign rfl rfl ?_; refine J.nil ?_; refine JX.thenN (hK4 _ _ ?_); refine JC.ret ?_; refine JX.thenR ?_; refine JX.ret1 rfl rfl (fun w hw => ?_)
  first
  | exact ⟨.no, rfl, hg, hw⟩
  | exact ⟨.no, rfl, hg, hw.drop (List.sublist_cons_self _ _)⟩
  | exact ⟨.no, rfl, hg, (hw.drop (List.sublist_cons_self _ _)).drop (List.sublist_append_right _ _)⟩
  | exact ⟨.inc n1, rfl, hg, hw⟩
  | exact ⟨.item ⟨k1, ⟨((n2 : Nat) : Int), k3⟩, t4, .slice a4 t4.length c4, l4⟩ es5 ck5, rfl, ⟨hg, ⟨⟨by simp only; omega, by simp only; omega⟩, hv4⟩, hT5⟩, (hw.perm (zp : List.Perm _ ((b11, cb (cT k1 ⟨((n2 : Nat) : Int), k3⟩ (.slice a4 t4.length c4)) 28) :: ((vb, vaO lv mb ((inc : Nat) : Int)) :: (mb, .map es5 ck5) :: l4)))).drop (List.sublist_cons_self _ _)⟩
 ·have hz0 : e0 = 0 := by simpa using h0
  subst hz0
  refine JC.skip ?_; refine JX.thenN (hK2 _ _ ?_); refine JC.seq (fun K5 hK5 => ?_); refine JC.seq (fun K6 hK6 => ?_); refine JC.region ?_; refine J.move rfl rfl ?_; refine J.nil ?_; refine JX.thenN (hK6 _ _ ?_); refine JC.block ?_; refine JC.seq (fun K7 hK7 => ?_); refine JC.region ?_; refine J.bin rfl rfl rfl rfl ?_; refine J.assign rfl rfl ?_; refine J.nil ?_; refine JX.thenN (hK7 _ _ ?_); refine JC.cond rfl (fun h1 => ?_) (fun h1 => ?_)
  ·have hk1 : n0 = 1 := by simp at h1; omega
   subst hk1
   refine JC.seq (fun K8 hK8 => ?_); refine JC.region ?_; refine J.move rfl rfl ?_; refine J.move rfl rfl ?_
   obtain ⟨⟨n1, p1, e1⟩, hN1⟩ : ∃ x, getN bs p0 = x := ⟨_, rfl⟩
   have hn1b := getN_end bs p0
   have hn1u := getN_u64 bs p0
   rw [hN1] at hn1b hn1u
   simp only at hn1b hn1u
   refine J.callB (v := .tuple #[.int .u64 ((n1 : Nat) : Int), .int .i64 ((p1 : Nat) : Int), .int .i64 e1]) (fun w1 w2 hw hb => hw.step hb) Ty.bd64 rfl rfl (fun w1 hw => by have h9 := getNum_spec _ bs p0 w1 (hr.st hoff hw) (by omega) (by omega); rw [hN1] at h9; exact h9) ?_; refine J.move rfl rfl ?_; refine J.extract rfl rfl rfl ?_; refine J.extract rfl rfl rfl ?_; refine J.extract rfl rfl rfl ?_; refine J.assign rfl rfl ?_; refine J.assign rfl rfl ?_; refine J.assign rfl rfl ?_; refine J.nil ?_; refine JX.thenN (hK8 _ _ ?_); refine JC.seq (fun K9 hK9 => ?_); refine JC.seq (fun K10 hK10 => ?_)
   by_cases xa : e1 ≠ 0
   ·have hg : readP inc bs = none := readP_1 hN0 hN1 (.inl xa)
    refine JC.region ?_; refine J.move rfl rfl ?_; refine J.bin rfl rfl rfl rfl ?_; refine J.name 32 rfl (show _ = Value.bool true by simp [xa]) ?_; refine J.move rfl rfl ?_
    first | refine J.skip rfl rfl rfl rfl rfl ?_ | refine J.skipU rfl rfl rfl rfl ?_ | (refine J.unguard rfl rfl rfl ?_; refine J.move rfl rfl ?_)
    first | refine J.skip rfl rfl rfl rfl rfl ?_ | refine J.skipU rfl rfl rfl rfl ?_ | (refine J.unguard rfl rfl rfl ?_; refine J.move rfl rfl ?_)
    first | refine J.skip rfl rfl rfl rfl rfl ?_ | refine J.skipU rfl rfl rfl rfl ?_ | (refine J.unguard rfl rfl rfl ?_; refine J.lenS rfl Ty.u26 rfl rfl ?_)
    first | refine J.skip rfl rfl rfl rfl rfl ?_ | refine J.skipU rfl rfl rfl rfl ?_ | (refine J.unguard rfl rfl rfl ?_; refine J.bin rfl rfl rfl rfl ?_)
    (first | refine J.pickT rfl rfl rfl ?_ | refine J.pickF rfl rfl rfl ?_)
    refine J.move rfl rfl ?_
    first | refine J.skip rfl rfl rfl rfl rfl ?_ | refine J.skipU rfl rfl rfl rfl ?_ | (refine J.unguard rfl rfl rfl ?_; refine J.move rfl rfl ?_)
    first | refine J.skip rfl rfl rfl rfl rfl ?_ | refine J.skipU rfl rfl rfl rfl ?_ | (refine J.unguard rfl rfl rfl ?_; refine J.bin rfl rfl rfl rfl ?_)
    (first | refine J.pickT rfl rfl rfl ?_ | refine J.pickF rfl rfl rfl ?_)
    refine J.move rfl rfl ?_
    first | refine J.skip rfl rfl rfl rfl rfl ?_ | refine J.skipU rfl rfl rfl rfl ?_ | (refine J.unguard rfl rfl rfl ?_; refine J.move rfl rfl ?_)
    first | refine J.skip rfl rfl rfl rfl rfl ?_ | refine J.skipU rfl rfl rfl rfl ?_ | (refine J.unguard rfl rfl rfl ?_; refine J.convInt Ty.u81 Ty.u2 rfl rfl ?_)
    first | refine J.skip rfl rfl rfl rfl rfl ?_ | refine J.skipU rfl rfl rfl rfl ?_ | (refine J.unguard rfl rfl rfl ?_; refine J.move rfl rfl ?_)
    first | refine J.skip rfl rfl rfl rfl rfl ?_ | refine J.skipU rfl rfl rfl rfl ?_ | (refine J.unguard rfl rfl rfl ?_; refine J.nilCheck rfl rfl ?_)
    first | refine J.skip rfl rfl rfl rfl rfl ?_ | refine J.skipU rfl rfl rfl rfl ?_ | (refine J.unguard rfl rfl rfl ?_; refine J.fieldAddr Ty.fd99_2 rfl rfl ?_)
    first | refine J.skip rfl rfl rfl rfl rfl ?_ | refine J.skipU rfl rfl rfl rfl ?_ | (refine J.unguard rfl rfl rfl ?_; refine J.loadO Ty.a2 rfl zm (by exact rfl) rfl ?_)
    first | refine J.skip rfl rfl rfl rfl rfl ?_ | refine J.skipU rfl rfl rfl rfl ?_ | (refine J.unguard rfl rfl rfl ?_; refine J.bin rfl rfl rfl rfl ?_)
    (first | refine J.pickT rfl rfl rfl ?_ | refine J.pickF rfl rfl rfl ?_)
    refine J.nil ?_; refine JX.thenN (hK10 _ _ ?_)
    first | refine JC.condT rfl ?_ | refine JC.cond rfl (fun _ => ?_) (fun h => by first | (exfalso; simp at h; omega) | (simp at h))
    refine JC.seq (fun K11 hK11 => ?_); refine JC.region ?_; refine J.assign rfl rfl ?_; refine J.nil ?_; refine JX.thenN (hK11 _ _ ?_); refine JC.ret ?_; refine JX.thenR ?_; refine JX.blockR ?_; refine JX.thenR ?_; refine JX.ret1 rfl rfl (fun w hw => ?_)
    first
    | exact ⟨.no, rfl, hg, hw⟩
    | exact ⟨.no, rfl, hg, hw.drop (List.sublist_cons_self _ _)⟩
    | exact ⟨.no, rfl, hg, (hw.drop (List.sublist_cons_self _ _)).drop (List.sublist_append_right _ _)⟩
    | exact ⟨.inc n1, rfl, hg, hw⟩
    | exact ⟨.item ⟨k1, ⟨((n2 : Nat) : Int), k3⟩, t4, .slice a4 t4.length c4, l4⟩ es5 ck5, rfl, ⟨hg, ⟨⟨by simp only; omega, by simp only; omega⟩, hv4⟩, hT5⟩, (hw.perm (zp : List.Perm _ ((b11, cb (cT k1 ⟨((n2 : Nat) : Int), k3⟩ (.slice a4 t4.length c4)) 28) :: ((vb, vaO lv mb ((inc : Nat) : Int)) :: (mb, .map es5 ck5) :: l4)))).drop (List.sublist_cons_self _ _)⟩
   ·by_cases xb : p1 < bs.length
    ·have hg : readP inc bs = none := readP_1 hN0 hN1 (.inr (.inl xb))
     refine JC.region ?_; refine J.move rfl rfl ?_; refine J.bin rfl rfl rfl rfl ?_; refine J.name 32 rfl (show _ = Value.bool false by have xz : e1 = 0 := (by omega); simp [xz]) ?_; refine J.move rfl rfl ?_
     first | refine J.skip rfl rfl rfl rfl rfl ?_ | refine J.skipU rfl rfl rfl rfl ?_ | (refine J.unguard rfl rfl rfl ?_; refine J.move rfl rfl ?_)
     first | refine J.skip rfl rfl rfl rfl rfl ?_ | refine J.skipU rfl rfl rfl rfl ?_ | (refine J.unguard rfl rfl rfl ?_; refine J.move rfl rfl ?_)
     first | refine J.skip rfl rfl rfl rfl rfl ?_ | refine J.skipU rfl rfl rfl rfl ?_ | (refine J.unguard rfl rfl rfl ?_; refine J.lenS rfl Ty.u26 rfl rfl ?_)
     refine J.unguard rfl rfl rfl ?_; refine J.bin rfl rfl rfl rfl ?_; refine J.name 37 rfl (show _ = Value.bool true by simp; omega) ?_
     (first | refine J.pickT rfl rfl rfl ?_ | refine J.pickF rfl rfl rfl ?_)
     refine J.move rfl rfl ?_
     first | refine J.skip rfl rfl rfl rfl rfl ?_ | refine J.skipU rfl rfl rfl rfl ?_ | (refine J.unguard rfl rfl rfl ?_; refine J.move rfl rfl ?_)
     first | refine J.skip rfl rfl rfl rfl rfl ?_ | refine J.skipU rfl rfl rfl rfl ?_ | (refine J.unguard rfl rfl rfl ?_; refine J.bin rfl rfl rfl rfl ?_)
     (first | refine J.pickT rfl rfl rfl ?_ | refine J.pickF rfl rfl rfl ?_)
     refine J.move rfl rfl ?_
     first | refine J.skip rfl rfl rfl rfl rfl ?_ | refine J.skipU rfl rfl rfl rfl ?_ | (refine J.unguard rfl rfl rfl ?_; refine J.move rfl rfl ?_)
     first | refine J.skip rfl rfl rfl rfl rfl ?_ | refine J.skipU rfl rfl rfl rfl ?_ | (refine J.unguard rfl rfl rfl ?_; refine J.convInt Ty.u81 Ty.u2 rfl rfl ?_)
     first | refine J.skip rfl rfl rfl rfl rfl ?_ | refine J.skipU rfl rfl rfl rfl ?_ | (refine J.unguard rfl rfl rfl ?_; refine J.move rfl rfl ?_)
     first | refine J.skip rfl rfl rfl rfl rfl ?_ | refine J.skipU rfl rfl rfl rfl ?_ | (refine J.unguard rfl rfl rfl ?_; refine J.nilCheck rfl rfl ?_)
     first | refine J.skip rfl rfl rfl rfl rfl ?_ | refine J.skipU rfl rfl rfl rfl ?_ | (refine J.unguard rfl rfl rfl ?_; refine J.fieldAddr Ty.fd99_2 rfl rfl ?_)
     first | refine J.skip rfl rfl rfl rfl rfl ?_ | refine J.skipU rfl rfl rfl rfl ?_ | (refine J.unguard rfl rfl rfl ?_; refine J.loadO Ty.a2 rfl zm (by exact rfl) rfl ?_)
     first | refine J.skip rfl rfl rfl rfl rfl ?_ | refine J.skipU rfl rfl rfl rfl ?_ | (refine J.unguard rfl rfl rfl ?_; refine J.bin rfl rfl rfl rfl ?_)
     (first | refine J.pickT rfl rfl rfl ?_ | refine J.pickF rfl rfl rfl ?_)
     refine J.nil ?_; refine JX.thenN (hK10 _ _ ?_)
     first | refine JC.condT rfl ?_ | refine JC.cond rfl (fun _ => ?_) (fun h => by first | (exfalso; simp at h; omega) | (simp at h))
     refine JC.seq (fun K12 hK12 => ?_); refine JC.region ?_; refine J.assign rfl rfl ?_; refine J.nil ?_; refine JX.thenN (hK12 _ _ ?_); refine JC.ret ?_; refine JX.thenR ?_; refine JX.blockR ?_; refine JX.thenR ?_; refine JX.ret1 rfl rfl (fun w hw => ?_)
     first
     | exact ⟨.no, rfl, hg, hw⟩
     | exact ⟨.no, rfl, hg, hw.drop (List.sublist_cons_self _ _)⟩
     | exact ⟨.no, rfl, hg, (hw.drop (List.sublist_cons_self _ _)).drop (List.sublist_append_right _ _)⟩
     | exact ⟨.inc n1, rfl, hg, hw⟩
     | exact ⟨.item ⟨k1, ⟨((n2 : Nat) : Int), k3⟩, t4, .slice a4 t4.length c4, l4⟩ es5 ck5, rfl, ⟨hg, ⟨⟨by simp only; omega, by simp only; omega⟩, hv4⟩, hT5⟩, (hw.perm (zp : List.Perm _ ((b11, cb (cT k1 ⟨((n2 : Nat) : Int), k3⟩ (.slice a4 t4.length c4)) 28) :: ((vb, vaO lv mb ((inc : Nat) : Int)) :: (mb, .map es5 ck5) :: l4)))).drop (List.sublist_cons_self _ _)⟩
    ·by_cases xc : 1048576 < n1
     ·have hg : readP inc bs = none := readP_1 hN0 hN1 (.inr (.inr (.inl xc)))
      refine JC.region ?_; refine J.move rfl rfl ?_; refine J.bin rfl rfl rfl rfl ?_; refine J.name 32 rfl (show _ = Value.bool false by have xz : e1 = 0 := (by omega); simp [xz]) ?_; refine J.move rfl rfl ?_
      first | refine J.skip rfl rfl rfl rfl rfl ?_ | refine J.skipU rfl rfl rfl rfl ?_ | (refine J.unguard rfl rfl rfl ?_; refine J.move rfl rfl ?_)
      first | refine J.skip rfl rfl rfl rfl rfl ?_ | refine J.skipU rfl rfl rfl rfl ?_ | (refine J.unguard rfl rfl rfl ?_; refine J.move rfl rfl ?_)
      first | refine J.skip rfl rfl rfl rfl rfl ?_ | refine J.skipU rfl rfl rfl rfl ?_ | (refine J.unguard rfl rfl rfl ?_; refine J.lenS rfl Ty.u26 rfl rfl ?_)
      refine J.unguard rfl rfl rfl ?_; refine J.bin rfl rfl rfl rfl ?_; refine J.name 37 rfl (show _ = Value.bool false by simp; omega) ?_
      (first | refine J.pickT rfl rfl rfl ?_ | refine J.pickF rfl rfl rfl ?_)
      refine J.move rfl rfl ?_
      first | refine J.skip rfl rfl rfl rfl rfl ?_ | refine J.skipU rfl rfl rfl rfl ?_ | (refine J.unguard rfl rfl rfl ?_; refine J.move rfl rfl ?_)
      refine J.unguard rfl rfl rfl ?_; refine J.bin rfl rfl rfl rfl ?_; refine J.name 41 rfl (show _ = Value.bool true by simp; omega) ?_
      (first | refine J.pickT rfl rfl rfl ?_ | refine J.pickF rfl rfl rfl ?_)
      refine J.move rfl rfl ?_
      first | refine J.skip rfl rfl rfl rfl rfl ?_ | refine J.skipU rfl rfl rfl rfl ?_ | (refine J.unguard rfl rfl rfl ?_; refine J.move rfl rfl ?_)
      first | refine J.skip rfl rfl rfl rfl rfl ?_ | refine J.skipU rfl rfl rfl rfl ?_ | (refine J.unguard rfl rfl rfl ?_; refine J.convInt Ty.u81 Ty.u2 rfl rfl ?_)
      first | refine J.skip rfl rfl rfl rfl rfl ?_ | refine J.skipU rfl rfl rfl rfl ?_ | (refine J.unguard rfl rfl rfl ?_; refine J.move rfl rfl ?_)
      first | refine J.skip rfl rfl rfl rfl rfl ?_ | refine J.skipU rfl rfl rfl rfl ?_ | (refine J.unguard rfl rfl rfl ?_; refine J.nilCheck rfl rfl ?_)
      first | refine J.skip rfl rfl rfl rfl rfl ?_ | refine J.skipU rfl rfl rfl rfl ?_ | (refine J.unguard rfl rfl rfl ?_; refine J.fieldAddr Ty.fd99_2 rfl rfl ?_)
      first | refine J.skip rfl rfl rfl rfl rfl ?_ | refine J.skipU rfl rfl rfl rfl ?_ | (refine J.unguard rfl rfl rfl ?_; refine J.loadO Ty.a2 rfl zm (by exact rfl) rfl ?_)
      first | refine J.skip rfl rfl rfl rfl rfl ?_ | refine J.skipU rfl rfl rfl rfl ?_ | (refine J.unguard rfl rfl rfl ?_; refine J.bin rfl rfl rfl rfl ?_)
      (first | refine J.pickT rfl rfl rfl ?_ | refine J.pickF rfl rfl rfl ?_)
      refine J.nil ?_; refine JX.thenN (hK10 _ _ ?_)
      first | refine JC.condT rfl ?_ | refine JC.cond rfl (fun _ => ?_) (fun h => by first | (exfalso; simp at h; omega) | (simp at h))
      refine JC.seq (fun K13 hK13 => ?_); refine JC.region ?_; refine J.assign rfl rfl ?_; refine J.nil ?_; refine JX.thenN (hK13 _ _ ?_); refine JC.ret ?_; refine JX.thenR ?_; refine JX.blockR ?_; refine JX.thenR ?_; refine JX.ret1 rfl rfl (fun w hw => ?_)
      first
      | exact ⟨.no, rfl, hg, hw⟩
      | exact ⟨.no, rfl, hg, hw.drop (List.sublist_cons_self _ _)⟩
      | exact ⟨.no, rfl, hg, (hw.drop (List.sublist_cons_self _ _)).drop (List.sublist_append_right _ _)⟩
      | exact ⟨.inc n1, rfl, hg, hw⟩
      | exact ⟨.item ⟨k1, ⟨((n2 : Nat) : Int), k3⟩, t4, .slice a4 t4.length c4, l4⟩ es5 ck5, rfl, ⟨hg, ⟨⟨by simp only; omega, by simp only; omega⟩, hv4⟩, hT5⟩, (hw.perm (zp : List.Perm _ ((b11, cb (cT k1 ⟨((n2 : Nat) : Int), k3⟩ (.slice a4 t4.length c4)) 28) :: ((vb, vaO lv mb ((inc : Nat) : Int)) :: (mb, .map es5 ck5) :: l4)))).drop (List.sublist_cons_self _ _)⟩
     ·by_cases xd : n1 ≤ inc
      ·have hg : readP inc bs = none := readP_1 hN0 hN1 (.inr (.inr (.inr xd)))
       refine JC.region ?_; refine J.move rfl rfl ?_; refine J.bin rfl rfl rfl rfl ?_; refine J.name 32 rfl (show _ = Value.bool false by have xz : e1 = 0 := (by omega); simp [xz]) ?_; refine J.move rfl rfl ?_
       first | refine J.skip rfl rfl rfl rfl rfl ?_ | refine J.skipU rfl rfl rfl rfl ?_ | (refine J.unguard rfl rfl rfl ?_; refine J.move rfl rfl ?_)
       first | refine J.skip rfl rfl rfl rfl rfl ?_ | refine J.skipU rfl rfl rfl rfl ?_ | (refine J.unguard rfl rfl rfl ?_; refine J.move rfl rfl ?_)
       first | refine J.skip rfl rfl rfl rfl rfl ?_ | refine J.skipU rfl rfl rfl rfl ?_ | (refine J.unguard rfl rfl rfl ?_; refine J.lenS rfl Ty.u26 rfl rfl ?_)
       refine J.unguard rfl rfl rfl ?_; refine J.bin rfl rfl rfl rfl ?_; refine J.name 37 rfl (show _ = Value.bool false by simp; omega) ?_
       (first | refine J.pickT rfl rfl rfl ?_ | refine J.pickF rfl rfl rfl ?_)
       refine J.move rfl rfl ?_
       first | refine J.skip rfl rfl rfl rfl rfl ?_ | refine J.skipU rfl rfl rfl rfl ?_ | (refine J.unguard rfl rfl rfl ?_; refine J.move rfl rfl ?_)
       refine J.unguard rfl rfl rfl ?_; refine J.bin rfl rfl rfl rfl ?_; refine J.name 41 rfl (show _ = Value.bool false by simp; omega) ?_
       (first | refine J.pickT rfl rfl rfl ?_ | refine J.pickF rfl rfl rfl ?_)
       refine J.move rfl rfl ?_
       first | refine J.skip rfl rfl rfl rfl rfl ?_ | refine J.skipU rfl rfl rfl rfl ?_ | (refine J.unguard rfl rfl rfl ?_; refine J.move rfl rfl ?_)
       refine J.unguard rfl rfl rfl ?_; refine J.convInt Ty.u81 Ty.u2 rfl rfl ?_; refine J.name 45 rfl (show _ = Value.int .i64 ((n1 : Nat) : Int) from congrArg (Value.int .i64) (wrap_i64 (by omega) (by omega))) ?_
       first | refine J.skip rfl rfl rfl rfl rfl ?_ | refine J.skipU rfl rfl rfl rfl ?_ | (refine J.unguard rfl rfl rfl ?_; refine J.move rfl rfl ?_)
       first | refine J.skip rfl rfl rfl rfl rfl ?_ | refine J.skipU rfl rfl rfl rfl ?_ | (refine J.unguard rfl rfl rfl ?_; refine J.nilCheck rfl rfl ?_)
       first | refine J.skip rfl rfl rfl rfl rfl ?_ | refine J.skipU rfl rfl rfl rfl ?_ | (refine J.unguard rfl rfl rfl ?_; refine J.fieldAddr Ty.fd99_2 rfl rfl ?_)
       refine J.unguard rfl rfl rfl ?_; refine J.load1 (v := .int .i64 ((inc : Nat) : Int)) Ty.a2 rfl (fun w1 hw => by rw [cell_of (hw.own ((vb, vaO lv mb ((inc : Nat) : Int))) zm)]; rfl) rfl ?_; refine J.unguard rfl rfl rfl ?_; refine J.bin rfl rfl rfl rfl ?_; refine J.name 50 rfl (show _ = Value.bool true by simp; omega) ?_
       (first | refine J.pickT rfl rfl rfl ?_ | refine J.pickF rfl rfl rfl ?_)
       refine J.nil ?_; refine JX.thenN (hK10 _ _ ?_)
       first | refine JC.condT rfl ?_ | refine JC.cond rfl (fun _ => ?_) (fun h => by first | (exfalso; simp at h; omega) | (simp at h))
       refine JC.seq (fun K14 hK14 => ?_); refine JC.region ?_; refine J.assign rfl rfl ?_; refine J.nil ?_; refine JX.thenN (hK14 _ _ ?_); refine JC.ret ?_; refine JX.thenR ?_; refine JX.blockR ?_; refine JX.thenR ?_; refine JX.ret1 rfl rfl (fun w hw => ?_)
       first
       | exact ⟨.no, rfl, hg, hw⟩
       | exact ⟨.no, rfl, hg, hw.drop (List.sublist_cons_self _ _)⟩
       | exact ⟨.no, rfl, hg, (hw.drop (List.sublist_cons_self _ _)).drop (List.sublist_append_right _ _)⟩
       | exact ⟨.inc n1, rfl, hg, hw⟩
       | exact ⟨.item ⟨k1, ⟨((n2 : Nat) : Int), k3⟩, t4, .slice a4 t4.length c4, l4⟩ es5 ck5, rfl, ⟨hg, ⟨⟨by simp only; omega, by simp only; omega⟩, hv4⟩, hT5⟩, (hw.perm (zp : List.Perm _ ((b11, cb (cT k1 ⟨((n2 : Nat) : Int), k3⟩ (.slice a4 t4.length c4)) 28) :: ((vb, vaO lv mb ((inc : Nat) : Int)) :: (mb, .map es5 ck5) :: l4)))).drop (List.sublist_cons_self _ _)⟩
      ·have hg : readP inc bs = some (.inl n1) := readP_inc hN0 hN1 (by omega) xb xc xd
       refine JC.region ?_; refine J.move rfl rfl ?_; refine J.bin rfl rfl rfl rfl ?_; refine J.name 32 rfl (show _ = Value.bool false by have xz : e1 = 0 := (by omega); simp [xz]) ?_; refine J.move rfl rfl ?_
       first | refine J.skip rfl rfl rfl rfl rfl ?_ | refine J.skipU rfl rfl rfl rfl ?_ | (refine J.unguard rfl rfl rfl ?_; refine J.move rfl rfl ?_)
       first | refine J.skip rfl rfl rfl rfl rfl ?_ | refine J.skipU rfl rfl rfl rfl ?_ | (refine J.unguard rfl rfl rfl ?_; refine J.move rfl rfl ?_)
       first | refine J.skip rfl rfl rfl rfl rfl ?_ | refine J.skipU rfl rfl rfl rfl ?_ | (refine J.unguard rfl rfl rfl ?_; refine J.lenS rfl Ty.u26 rfl rfl ?_)
       refine J.unguard rfl rfl rfl ?_; refine J.bin rfl rfl rfl rfl ?_; refine J.name 37 rfl (show _ = Value.bool false by simp; omega) ?_
       (first | refine J.pickT rfl rfl rfl ?_ | refine J.pickF rfl rfl rfl ?_)
       refine J.move rfl rfl ?_
       first | refine J.skip rfl rfl rfl rfl rfl ?_ | refine J.skipU rfl rfl rfl rfl ?_ | (refine J.unguard rfl rfl rfl ?_; refine J.move rfl rfl ?_)
       refine J.unguard rfl rfl rfl ?_; refine J.bin rfl rfl rfl rfl ?_; refine J.name 41 rfl (show _ = Value.bool false by simp; omega) ?_
       (first | refine J.pickT rfl rfl rfl ?_ | refine J.pickF rfl rfl rfl ?_)
       refine J.move rfl rfl ?_
       first | refine J.skip rfl rfl rfl rfl rfl ?_ | refine J.skipU rfl rfl rfl rfl ?_ | (refine J.unguard rfl rfl rfl ?_; refine J.move rfl rfl ?_)
       refine J.unguard rfl rfl rfl ?_; refine J.convInt Ty.u81 Ty.u2 rfl rfl ?_; refine J.name 45 rfl (show _ = Value.int .i64 ((n1 : Nat) : Int) from congrArg (Value.int .i64) (wrap_i64 (by omega) (by omega))) ?_
       first | refine J.skip rfl rfl rfl rfl rfl ?_ | refine J.skipU rfl rfl rfl rfl ?_ | (refine J.unguard rfl rfl rfl ?_; refine J.move rfl rfl ?_)
       first | refine J.skip rfl rfl rfl rfl rfl ?_ | refine J.skipU rfl rfl rfl rfl ?_ | (refine J.unguard rfl rfl rfl ?_; refine J.nilCheck rfl rfl ?_)
       first | refine J.skip rfl rfl rfl rfl rfl ?_ | refine J.skipU rfl rfl rfl rfl ?_ | (refine J.unguard rfl rfl rfl ?_; refine J.fieldAddr Ty.fd99_2 rfl rfl ?_)
       refine J.unguard rfl rfl rfl ?_; refine J.load1 (v := .int .i64 ((inc : Nat) : Int)) Ty.a2 rfl (fun w1 hw => by rw [cell_of (hw.own ((vb, vaO lv mb ((inc : Nat) : Int))) zm)]; rfl) rfl ?_; refine J.unguard rfl rfl rfl ?_; refine J.bin rfl rfl rfl rfl ?_; refine J.name 50 rfl (show _ = Value.bool false by simp; omega) ?_
       (first | refine J.pickT rfl rfl rfl ?_ | refine J.pickF rfl rfl rfl ?_)
       refine J.nil ?_; refine JX.thenN (hK10 _ _ ?_)
       first | refine JC.condF rfl ?_ | refine JC.cond rfl (fun h => by first | (exfalso; simp at h; omega) | (simp at h)) (fun _ => ?_)
       refine JC.skip ?_; refine JX.thenN (hK9 _ _ ?_); refine JC.seq (fun K15 hK15 => ?_); refine JC.region ?_; refine J.move rfl rfl ?_; refine J.move rfl rfl ?_; refine J.convInt Ty.u81 Ty.u2 rfl rfl ?_; refine J.name 54 rfl (show _ = Value.int .i64 ((n1 : Nat) : Int) from congrArg (Value.int .i64) (wrap_i64 (by omega) (by omega))) ?_; refine J.nilCheck rfl rfl ?_; refine J.fieldAddr Ty.fd99_2 rfl rfl ?_; refine J.storeO (cs := [lv, .map (some mb), .int .i64 ((inc : Nat) : Int)]) (vs := [.int .i64 ((n1 : Nat) : Int)]) (l' := (vb, vaO lv mb ((n1 : Nat) : Int)) :: (mb, .map es ck) :: []) Ty.s2 rfl rfl rfl rfl (fun v hv => by rw [List.mem_singleton.1 hv]; rfl) .here (by show _ ≤ 3; omega) ?_; refine J.nil ?_; refine JX.thenN (hK15 _ _ ?_); refine JC.seq (fun K16 hK16 => ?_); refine JC.region ?_; refine J.assign rfl rfl ?_; refine J.nil ?_; refine JX.thenN (hK16 _ _ ?_); refine JC.ret ?_; refine JX.blockR ?_; refine JX.thenR ?_; refine JX.ret1 rfl rfl (fun w hw => ?_)
       first
       | exact ⟨.no, rfl, hg, hw⟩
       | exact ⟨.no, rfl, hg, hw.drop (List.sublist_cons_self _ _)⟩
       | exact ⟨.no, rfl, hg, (hw.drop (List.sublist_cons_self _ _)).drop (List.sublist_append_right _ _)⟩
       | exact ⟨.inc n1, rfl, hg, hw⟩
       | exact ⟨.item ⟨k1, ⟨((n2 : Nat) : Int), k3⟩, t4, .slice a4 t4.length c4, l4⟩ es5 ck5, rfl, ⟨hg, ⟨⟨by simp only; omega, by simp only; omega⟩, hv4⟩, hT5⟩, (hw.perm (zp : List.Perm _ ((b11, cb (cT k1 ⟨((n2 : Nat) : Int), k3⟩ (.slice a4 t4.length c4)) 28) :: ((vb, vaO lv mb ((inc : Nat) : Int)) :: (mb, .map es5 ck5) :: l4)))).drop (List.sublist_cons_self _ _)⟩
  ·try simp only [decide_eq_true_eq, decide_eq_false_iff_not, beq_iff_eq, bne_iff_ne, bne_eq_false_iff_eq, ne_eq, beq_eq_false_iff_ne, Bool.not_eq_true, Bool.not_eq_false, Int.not_lt, Int.not_le] at h1
   refine JC.seq (fun K17 hK17 => ?_); refine JC.region ?_; refine J.bin rfl rfl rfl rfl ?_; refine J.assign rfl rfl ?_; refine J.nil ?_; refine JX.thenN (hK17 _ _ ?_); refine JC.cond rfl (fun h3 => ?_) (fun h3 => ?_)
   ·have hk2 : n0 = 2 := by simp at h3; omega
    subst hk2
    refine JC.seq (fun K18 hK18 => ?_); refine JC.region ?_; refine J.alloc Ty.zIt rfl rfl (fun b11 => ?_); refine J.nil ?_; refine JX.thenN (hK18 _ _ ?_); refine JC.seq (fun K19 hK19 => ?_); refine JC.region ?_; refine J.assign rfl rfl ?_; refine J.nil ?_; refine JX.thenN (hK19 _ _ ?_); refine JC.seq (fun K20 hK20 => ?_); refine JC.seq (fun K21 hK21 => ?_); refine JC.region ?_; refine J.move rfl rfl ?_; refine J.move rfl rfl ?_
    obtain ⟨⟨k1, p1, e1⟩, hK1⟩ : ∃ x, getI bs p0 = x := ⟨_, rfl⟩
    have hk1b := getI_end bs p0
    rw [hK1] at hk1b
    simp only at hk1b
    refine J.callB (v := .tuple #[.agg (cI k1).toArray, .int .i64 ((p1 : Nat) : Int), .int .i64 e1]) (fun w1 w2 hw hb => hw.step hb) Ty.bd65 rfl rfl (fun w1 hw => by have h9 := getID_spec _ bs p0 w1 (hr.st hoff hw) (by omega) (by omega); rw [hK1] at h9; exact h9) ?_; refine J.move rfl rfl ?_; refine J.extract rfl rfl rfl ?_; refine J.extract rfl rfl rfl ?_; refine J.extract rfl rfl rfl ?_; refine J.fieldAddr Ty.fd28_0 rfl rfl ?_; refine J.storeO (cs := cT zI zV (.slice none 0 0)) (vs := cI k1) (l' := (b11, cb (cT k1 ⟨0, zI⟩ (.slice none 0 0)) 28) :: (vb, vaO lv mb ((inc : Nat) : Int)) :: (mb, .map es ck) :: []) Ty.s23 rfl rfl rfl rfl (one_cI _) (by rw [show 0 + 0 = 0 from rfl, set_key]; exact .here) (by show _ ≤ 34; omega) ?_; refine J.assign rfl rfl ?_; refine J.assign rfl rfl ?_; refine J.nil ?_; refine JX.thenN (hK21 _ _ ?_); refine JC.seq (fun K22 hK22 => ?_); refine JC.region ?_; refine J.move rfl rfl ?_; refine J.bin rfl rfl rfl rfl ?_; refine J.nil ?_; refine JX.thenN (hK22 _ _ ?_); refine JC.cond rfl (fun h4 => ?_) (fun h4 => ?_)
    ·have hg : readP inc bs = none := readP_k1 hN0 hK1 (by simpa using h4)
     refine JC.seq (fun K23 hK23 => ?_); refine JC.region ?_; refine J.assign rfl rfl ?_; refine J.nil ?_; refine JX.thenN (hK23 _ _ ?_); refine JC.ret ?_; refine JX.thenR ?_; refine JX.blockR ?_; refine JX.thenR ?_; refine JX.ret1 rfl rfl (fun w hw => ?_)
     first
     | exact ⟨.no, rfl, hg, hw⟩
     | exact ⟨.no, rfl, hg, hw.drop (List.sublist_cons_self _ _)⟩
     | exact ⟨.no, rfl, hg, (hw.drop (List.sublist_cons_self _ _)).drop (List.sublist_append_right _ _)⟩
     | exact ⟨.inc n1, rfl, hg, hw⟩
     | exact ⟨.item ⟨k1, ⟨((n2 : Nat) : Int), k3⟩, t4, .slice a4 t4.length c4, l4⟩ es5 ck5, rfl, ⟨hg, ⟨⟨by simp only; omega, by simp only; omega⟩, hv4⟩, hT5⟩, (hw.perm (zp : List.Perm _ ((b11, cb (cT k1 ⟨((n2 : Nat) : Int), k3⟩ (.slice a4 t4.length c4)) 28) :: ((vb, vaO lv mb ((inc : Nat) : Int)) :: (mb, .map es5 ck5) :: l4)))).drop (List.sublist_cons_self _ _)⟩
    ·have hz1 : e1 = 0 := by simpa using h4
     refine JC.skip ?_; refine JX.thenN (hK20 _ _ ?_); refine JC.seq (fun K24 hK24 => ?_); refine JC.seq (fun K25 hK25 => ?_); refine JC.region ?_; refine J.move rfl rfl ?_; refine J.move rfl rfl ?_
     obtain ⟨⟨n2, p2, e2⟩, hN2⟩ : ∃ x, getN bs p1 = x := ⟨_, rfl⟩
     have hn2b := getN_end bs p1
     have hn2u := getN_u64 bs p1
     rw [hN2] at hn2b hn2u
     simp only at hn2b hn2u
     refine J.callB (v := .tuple #[.int .u64 ((n2 : Nat) : Int), .int .i64 ((p2 : Nat) : Int), .int .i64 e2]) (fun w1 w2 hw hb => hw.step hb) Ty.bd64 rfl rfl (fun w1 hw => by have h9 := getNum_spec _ bs p1 w1 (hr.st hoff hw) (by omega) (by omega); rw [hN2] at h9; exact h9) ?_; refine J.move rfl rfl ?_; refine J.extract rfl rfl rfl ?_; refine J.extract rfl rfl rfl ?_; refine J.extract rfl rfl rfl ?_; refine J.assign rfl rfl ?_; refine J.assign rfl rfl ?_; refine J.assign rfl rfl ?_; refine J.nil ?_; refine JX.thenN (hK25 _ _ ?_); refine JC.seq (fun K26 hK26 => ?_)
     by_cases xa : e2 ≠ 0
     ·have hg : readP inc bs = none := readP_n2 hN0 hK1 hz1 hN2 (.inl xa)
      refine JC.region ?_; refine J.move rfl rfl ?_; refine J.bin rfl rfl rfl rfl ?_; refine J.name 77 rfl (show _ = Value.bool true by simp [xa]) ?_; refine J.move rfl rfl ?_
      first | refine J.skip rfl rfl rfl rfl rfl ?_ | refine J.skipU rfl rfl rfl rfl ?_ | (refine J.unguard rfl rfl rfl ?_; refine J.move rfl rfl ?_)
      first | refine J.skip rfl rfl rfl rfl rfl ?_ | refine J.skipU rfl rfl rfl rfl ?_ | (refine J.unguard rfl rfl rfl ?_; refine J.bin rfl rfl rfl rfl ?_)
      (first | refine J.pickT rfl rfl rfl ?_ | refine J.pickF rfl rfl rfl ?_)
      refine J.move rfl rfl ?_
      first | refine J.skip rfl rfl rfl rfl rfl ?_ | refine J.skipU rfl rfl rfl rfl ?_ | (refine J.unguard rfl rfl rfl ?_; refine J.move rfl rfl ?_)
      first | refine J.skip rfl rfl rfl rfl rfl ?_ | refine J.skipU rfl rfl rfl rfl ?_ | (refine J.unguard rfl rfl rfl ?_; refine J.bin rfl rfl rfl rfl ?_)
      first | refine J.skip rfl rfl rfl rfl rfl ?_ | refine J.skipU rfl rfl rfl rfl ?_ | (refine J.unguard rfl rfl rfl ?_; refine J.bin rfl rfl rfl rfl ?_)
      (first | refine J.pickT rfl rfl rfl ?_ | refine J.pickF rfl rfl rfl ?_)
      refine J.nil ?_; refine JX.thenN (hK26 _ _ ?_)
      first | refine JC.condT rfl ?_ | refine JC.cond rfl (fun _ => ?_) (fun h => by first | (exfalso; simp at h; omega) | (simp at h))
      refine JC.seq (fun K27 hK27 => ?_); refine JC.region ?_; refine J.assign rfl rfl ?_; refine J.nil ?_; refine JX.thenN (hK27 _ _ ?_); refine JC.ret ?_; refine JX.thenR ?_; refine JX.blockR ?_; refine JX.thenR ?_; refine JX.ret1 rfl rfl (fun w hw => ?_)
      first
      | exact ⟨.no, rfl, hg, hw⟩
      | exact ⟨.no, rfl, hg, hw.drop (List.sublist_cons_self _ _)⟩
      | exact ⟨.no, rfl, hg, (hw.drop (List.sublist_cons_self _ _)).drop (List.sublist_append_right _ _)⟩
      | exact ⟨.inc n1, rfl, hg, hw⟩
      | exact ⟨.item ⟨k1, ⟨((n2 : Nat) : Int), k3⟩, t4, .slice a4 t4.length c4, l4⟩ es5 ck5, rfl, ⟨hg, ⟨⟨by simp only; omega, by simp only; omega⟩, hv4⟩, hT5⟩, (hw.perm (zp : List.Perm _ ((b11, cb (cT k1 ⟨((n2 : Nat) : Int), k3⟩ (.slice a4 t4.length c4)) 28) :: ((vb, vaO lv mb ((inc : Nat) : Int)) :: (mb, .map es5 ck5) :: l4)))).drop (List.sublist_cons_self _ _)⟩
     ·by_cases xb : n2 < 1
      ·have hg : readP inc bs = none := readP_n2 hN0 hK1 hz1 hN2 (.inr (.inl xb))
       refine JC.region ?_; refine J.move rfl rfl ?_; refine J.bin rfl rfl rfl rfl ?_; refine J.name 77 rfl (show _ = Value.bool false by have xz : e2 = 0 := (by omega); simp [xz]) ?_; refine J.move rfl rfl ?_
       first | refine J.skip rfl rfl rfl rfl rfl ?_ | refine J.skipU rfl rfl rfl rfl ?_ | (refine J.unguard rfl rfl rfl ?_; refine J.move rfl rfl ?_)
       refine J.unguard rfl rfl rfl ?_; refine J.bin rfl rfl rfl rfl ?_; refine J.name 80 rfl (show _ = Value.bool true by simp; omega) ?_
       (first | refine J.pickT rfl rfl rfl ?_ | refine J.pickF rfl rfl rfl ?_)
       refine J.move rfl rfl ?_
       first | refine J.skip rfl rfl rfl rfl rfl ?_ | refine J.skipU rfl rfl rfl rfl ?_ | (refine J.unguard rfl rfl rfl ?_; refine J.move rfl rfl ?_)
       first | refine J.skip rfl rfl rfl rfl rfl ?_ | refine J.skipU rfl rfl rfl rfl ?_ | (refine J.unguard rfl rfl rfl ?_; refine J.bin rfl rfl rfl rfl ?_)
       first | refine J.skip rfl rfl rfl rfl rfl ?_ | refine J.skipU rfl rfl rfl rfl ?_ | (refine J.unguard rfl rfl rfl ?_; refine J.bin rfl rfl rfl rfl ?_)
       (first | refine J.pickT rfl rfl rfl ?_ | refine J.pickF rfl rfl rfl ?_)
       refine J.nil ?_; refine JX.thenN (hK26 _ _ ?_)
       first | refine JC.condT rfl ?_ | refine JC.cond rfl (fun _ => ?_) (fun h => by first | (exfalso; simp at h; omega) | (simp at h))
       refine JC.seq (fun K28 hK28 => ?_); refine JC.region ?_; refine J.assign rfl rfl ?_; refine J.nil ?_; refine JX.thenN (hK28 _ _ ?_); refine JC.ret ?_; refine JX.thenR ?_; refine JX.blockR ?_; refine JX.thenR ?_; refine JX.ret1 rfl rfl (fun w hw => ?_)
       first
       | exact ⟨.no, rfl, hg, hw⟩
       | exact ⟨.no, rfl, hg, hw.drop (List.sublist_cons_self _ _)⟩
       | exact ⟨.no, rfl, hg, (hw.drop (List.sublist_cons_self _ _)).drop (List.sublist_append_right _ _)⟩
       | exact ⟨.inc n1, rfl, hg, hw⟩
       | exact ⟨.item ⟨k1, ⟨((n2 : Nat) : Int), k3⟩, t4, .slice a4 t4.length c4, l4⟩ es5 ck5, rfl, ⟨hg, ⟨⟨by simp only; omega, by simp only; omega⟩, hv4⟩, hT5⟩, (hw.perm (zp : List.Perm _ ((b11, cb (cT k1 ⟨((n2 : Nat) : Int), k3⟩ (.slice a4 t4.length c4)) 28) :: ((vb, vaO lv mb ((inc : Nat) : Int)) :: (mb, .map es5 ck5) :: l4)))).drop (List.sublist_cons_self _ _)⟩
      ·by_cases xc : 4611686018427387904 ≤ n2
       ·have hg : readP inc bs = none := readP_n2 hN0 hK1 hz1 hN2 (.inr (.inr xc))
        refine JC.region ?_; refine J.move rfl rfl ?_; refine J.bin rfl rfl rfl rfl ?_; refine J.name 77 rfl (show _ = Value.bool false by have xz : e2 = 0 := (by omega); simp [xz]) ?_; refine J.move rfl rfl ?_
        first | refine J.skip rfl rfl rfl rfl rfl ?_ | refine J.skipU rfl rfl rfl rfl ?_ | (refine J.unguard rfl rfl rfl ?_; refine J.move rfl rfl ?_)
        refine J.unguard rfl rfl rfl ?_; refine J.bin rfl rfl rfl rfl ?_; refine J.name 80 rfl (show _ = Value.bool false by simp; omega) ?_
        (first | refine J.pickT rfl rfl rfl ?_ | refine J.pickF rfl rfl rfl ?_)
        refine J.move rfl rfl ?_
        first | refine J.skip rfl rfl rfl rfl rfl ?_ | refine J.skipU rfl rfl rfl rfl ?_ | (refine J.unguard rfl rfl rfl ?_; refine J.move rfl rfl ?_)
        refine J.unguard rfl rfl rfl ?_; refine J.shrN rfl rfl (by omega) rfl ?_; refine J.unguard rfl rfl rfl ?_; refine J.bin rfl rfl rfl rfl ?_; refine J.name 85 rfl (congrArg Value.bool ((shr62 n2 hn2u).trans (decide_eq_true xc))) ?_
        (first | refine J.pickT rfl rfl rfl ?_ | refine J.pickF rfl rfl rfl ?_)
        refine J.nil ?_; refine JX.thenN (hK26 _ _ ?_)
        first | refine JC.condT rfl ?_ | refine JC.cond rfl (fun _ => ?_) (fun h => by first | (exfalso; simp at h; omega) | (simp at h))
        refine JC.seq (fun K29 hK29 => ?_); refine JC.region ?_; refine J.assign rfl rfl ?_; refine J.nil ?_; refine JX.thenN (hK29 _ _ ?_); refine JC.ret ?_; refine JX.thenR ?_; refine JX.blockR ?_; refine JX.thenR ?_; refine JX.ret1 rfl rfl (fun w hw => ?_)
        first
        | exact ⟨.no, rfl, hg, hw⟩
        | exact ⟨.no, rfl, hg, hw.drop (List.sublist_cons_self _ _)⟩
        | exact ⟨.no, rfl, hg, (hw.drop (List.sublist_cons_self _ _)).drop (List.sublist_append_right _ _)⟩
        | exact ⟨.inc n1, rfl, hg, hw⟩
        | exact ⟨.item ⟨k1, ⟨((n2 : Nat) : Int), k3⟩, t4, .slice a4 t4.length c4, l4⟩ es5 ck5, rfl, ⟨hg, ⟨⟨by simp only; omega, by simp only; omega⟩, hv4⟩, hT5⟩, (hw.perm (zp : List.Perm _ ((b11, cb (cT k1 ⟨((n2 : Nat) : Int), k3⟩ (.slice a4 t4.length c4)) 28) :: ((vb, vaO lv mb ((inc : Nat) : Int)) :: (mb, .map es5 ck5) :: l4)))).drop (List.sublist_cons_self _ _)⟩
       ·have xa0 : e2 = 0 := by omega
        rw [xa0] at hN2
        refine JC.region ?_; refine J.move rfl rfl ?_; refine J.bin rfl rfl rfl rfl ?_; refine J.name 77 rfl (show _ = Value.bool false by have xz : e2 = 0 := (by omega); simp [xz]) ?_; refine J.move rfl rfl ?_
        first | refine J.skip rfl rfl rfl rfl rfl ?_ | refine J.skipU rfl rfl rfl rfl ?_ | (refine J.unguard rfl rfl rfl ?_; refine J.move rfl rfl ?_)
        refine J.unguard rfl rfl rfl ?_; refine J.bin rfl rfl rfl rfl ?_; refine J.name 80 rfl (show _ = Value.bool false by simp; omega) ?_
        (first | refine J.pickT rfl rfl rfl ?_ | refine J.pickF rfl rfl rfl ?_)
        refine J.move rfl rfl ?_
        first | refine J.skip rfl rfl rfl rfl rfl ?_ | refine J.skipU rfl rfl rfl rfl ?_ | (refine J.unguard rfl rfl rfl ?_; refine J.move rfl rfl ?_)
        refine J.unguard rfl rfl rfl ?_; refine J.shrN rfl rfl (by omega) rfl ?_; refine J.unguard rfl rfl rfl ?_; refine J.bin rfl rfl rfl rfl ?_; refine J.name 85 rfl (congrArg Value.bool ((shr62 n2 hn2u).trans (decide_eq_false xc))) ?_
        (first | refine J.pickT rfl rfl rfl ?_ | refine J.pickF rfl rfl rfl ?_)
        refine J.nil ?_; refine JX.thenN (hK26 _ _ ?_)
        first | refine JC.condF rfl ?_ | refine JC.cond rfl (fun h => by first | (exfalso; simp at h; omega) | (simp at h)) (fun _ => ?_)
        refine JC.skip ?_; refine JX.thenN (hK24 _ _ ?_); refine JC.seq (fun K30 hK30 => ?_); refine JC.region ?_; refine J.move rfl rfl ?_; refine J.convInt Ty.u81 Ty.u2 rfl rfl ?_; refine J.name 88 rfl (show _ = Value.int .i64 ((n2 : Nat) : Int) from congrArg (Value.int .i64) (wrap_i64 (by omega) (by omega))) ?_; refine J.fieldAddr Ty.fd28_1 rfl rfl ?_; refine J.fieldAddr Ty.fd25_0 rfl rfl ?_; refine J.storeO (cs := cT k1 ⟨0, zI⟩ (.slice none 0 0)) (vs := [.int .i64 ((n2 : Nat) : Int)]) (l' := (b11, cb (cT k1 ⟨((n2 : Nat) : Int), zI⟩ (.slice none 0 0)) 28) :: (vb, vaO lv mb ((inc : Nat) : Int)) :: (mb, .map es ck) :: []) Ty.s2 rfl rfl rfl rfl (fun v hv => by rw [List.mem_singleton.1 hv]; rfl) (by rw [show 0 + 16 + 0 = 16 from rfl, set_n]; exact .here) (by show _ ≤ 34; omega) ?_; refine J.nil ?_; refine JX.thenN (hK30 _ _ ?_); refine JC.seq (fun K31 hK31 => ?_); refine JC.seq (fun K32 hK32 => ?_); refine JC.region ?_; refine J.move rfl rfl ?_; refine J.move rfl rfl ?_
        obtain ⟨⟨k3, p3, e3⟩, hK3⟩ : ∃ x, getI bs p2 = x := ⟨_, rfl⟩
        have hk3b := getI_end bs p2
        rw [hK3] at hk3b
        simp only at hk3b
        refine J.callB (v := .tuple #[.agg (cI k3).toArray, .int .i64 ((p3 : Nat) : Int), .int .i64 e3]) (fun w1 w2 hw hb => hw.step hb) Ty.bd65 rfl rfl (fun w1 hw => by have h9 := getID_spec _ bs p2 w1 (hr.st hoff hw) (by omega) (by omega); rw [hK3] at h9; exact h9) ?_; refine J.move rfl rfl ?_; refine J.extract rfl rfl rfl ?_; refine J.extract rfl rfl rfl ?_; refine J.extract rfl rfl rfl ?_; refine J.fieldAddr Ty.fd28_1 rfl rfl ?_; refine J.fieldAddr Ty.fd25_1 rfl rfl ?_; refine J.storeO (cs := cT k1 ⟨((n2 : Nat) : Int), zI⟩ (.slice none 0 0)) (vs := cI k3) (l' := (b11, cb (cT k1 ⟨((n2 : Nat) : Int), k3⟩ (.slice none 0 0)) 28) :: (vb, vaO lv mb ((inc : Nat) : Int)) :: (mb, .map es ck) :: []) Ty.s23 rfl rfl rfl rfl (one_cI _) (by rw [show 0 + 16 + 1 = 17 from rfl, set_who]; exact .here) (by show _ ≤ 34; omega) ?_; refine J.assign rfl rfl ?_; refine J.assign rfl rfl ?_; refine J.nil ?_; refine JX.thenN (hK32 _ _ ?_); refine JC.seq (fun K33 hK33 => ?_); refine JC.region ?_; refine J.move rfl rfl ?_; refine J.bin rfl rfl rfl rfl ?_; refine J.nil ?_; refine JX.thenN (hK33 _ _ ?_); refine JC.cond rfl (fun h6 => ?_) (fun h6 => ?_)
        ·have hg : readP inc bs = none := readP_k3 hN0 hK1 hz1 hN2 xb xc hK3 (by simpa using h6)
         refine JC.seq (fun K34 hK34 => ?_); refine JC.region ?_; refine J.assign rfl rfl ?_; refine J.nil ?_; refine JX.thenN (hK34 _ _ ?_); refine JC.ret ?_; refine JX.thenR ?_; refine JX.blockR ?_; refine JX.thenR ?_; refine JX.ret1 rfl rfl (fun w hw => ?_)
         first
         | exact ⟨.no, rfl, hg, hw⟩
         | exact ⟨.no, rfl, hg, hw.drop (List.sublist_cons_self _ _)⟩
         | exact ⟨.no, rfl, hg, (hw.drop (List.sublist_cons_self _ _)).drop (List.sublist_append_right _ _)⟩
         | exact ⟨.inc n1, rfl, hg, hw⟩
         | exact ⟨.item ⟨k1, ⟨((n2 : Nat) : Int), k3⟩, t4, .slice a4 t4.length c4, l4⟩ es5 ck5, rfl, ⟨hg, ⟨⟨by simp only; omega, by simp only; omega⟩, hv4⟩, hT5⟩, (hw.perm (zp : List.Perm _ ((b11, cb (cT k1 ⟨((n2 : Nat) : Int), k3⟩ (.slice a4 t4.length c4)) 28) :: ((vb, vaO lv mb ((inc : Nat) : Int)) :: (mb, .map es5 ck5) :: l4)))).drop (List.sublist_cons_self _ _)⟩
        ·have hz3 : e3 = 0 := by simpa using h6
         refine JC.skip ?_; refine JX.thenN (hK31 _ _ ?_); refine JC.seq (fun K35 hK35 => ?_); refine JC.seq (fun K36 hK36 => ?_); refine JC.region ?_; refine J.move rfl rfl ?_; refine J.move rfl rfl ?_
         obtain ⟨⟨t4, p4, e4⟩, hT4⟩ : ∃ x, getT bs p3 64 = x := ⟨_, rfl⟩
         have ht4l := getT_len bs p3 64
         have ht4e := getT_end bs p3 64
         rw [hT4] at ht4l ht4e
         simp only at ht4l ht4e
         refine J.perm ([] ++ ((b11, cb (cT k1 ⟨((n2 : Nat) : Int), k3⟩ (.slice none 0 0)) 28) :: (vb, vaO lv mb ((inc : Nat) : Int)) :: (mb, .map es ck) :: [])) (.refl _) ?_; refine J.callS (α := Value × List (Nat × Obj)) (V := fun x => .tuple #[x.1, .int .i64 ((p4 : Nat) : Int), .int .i64 e4]) (Pr := fun x => Vec 5 1 x.1 (t4).length ((t4).map u8) x.2) (L := (·.2)) (l1 := []) Ty.bd66 rfl rfl (fun w1 hw => by have h9 := getText_spec _ bs p3 64 w1 (hr.st hoff hw) (by omega) (by omega) (by omega); rw [hT4] at h9; exact h9) (fun x hv4 => ?_)
         obtain ⟨v4, l4⟩ := x
         try simp only at hv4 ⊢
         obtain ⟨a4, c4, rfl, hc4⟩ := hv4.form
         refine J.perm ((b11, cb (cT k1 ⟨((n2 : Nat) : Int), k3⟩ (.slice none 0 0)) 28) :: (l4 ++ ((vb, vaO lv mb ((inc : Nat) : Int)) :: (mb, .map es ck) :: []))) zp ?_; refine J.move rfl rfl ?_; refine J.extract rfl rfl rfl ?_; refine J.extract rfl rfl rfl ?_; refine J.extract rfl rfl rfl ?_; refine J.fieldAddr Ty.fd28_2 rfl rfl ?_; refine J.storeO (cs := cT k1 ⟨((n2 : Nat) : Int), k3⟩ (.slice none 0 0)) (vs := [.slice a4 t4.length c4]) (l' := (b11, cb (cT k1 ⟨((n2 : Nat) : Int), k3⟩ (.slice a4 t4.length c4)) 28) :: (l4 ++ ((vb, vaO lv mb ((inc : Nat) : Int)) :: (mb, .map es ck) :: []))) Ty.s26 rfl rfl rfl rfl (fun v hv => by rw [List.mem_singleton.1 hv]; rfl) (by rw [show 0 + 33 = 33 from rfl, set_sv]; exact .here) (by show _ ≤ 34; omega) ?_; refine J.assign rfl rfl ?_; refine J.assign rfl rfl ?_; refine J.nil ?_; refine JX.thenN (hK36 _ _ ?_); refine JC.seq (fun K37 hK37 => ?_)
         by_cases xd : e4 ≠ 0
         ·have hg : readP inc bs = none := readP_t4 hN0 hK1 hz1 hN2 xb xc hK3 hz3 hT4 (.inl xd)
          refine JC.region ?_; refine J.move rfl rfl ?_; refine J.bin rfl rfl rfl rfl ?_; refine J.name 111 rfl (show _ = Value.bool true by simp [xd]) ?_; refine J.move rfl rfl ?_
          first | refine J.skip rfl rfl rfl rfl rfl ?_ | refine J.skipU rfl rfl rfl rfl ?_ | (refine J.unguard rfl rfl rfl ?_; refine J.move rfl rfl ?_)
          first | refine J.skip rfl rfl rfl rfl rfl ?_ | refine J.skipU rfl rfl rfl rfl ?_ | (refine J.unguard rfl rfl rfl ?_; refine J.move rfl rfl ?_)
          first | refine J.skip rfl rfl rfl rfl rfl ?_ | refine J.skipU rfl rfl rfl rfl ?_ | (refine J.unguard rfl rfl rfl ?_; refine J.lenS rfl Ty.u26 rfl rfl ?_)
          first | refine J.skip rfl rfl rfl rfl rfl ?_ | refine J.skipU rfl rfl rfl rfl ?_ | (refine J.unguard rfl rfl rfl ?_; refine J.bin rfl rfl rfl rfl ?_)
          (first | refine J.pickT rfl rfl rfl ?_ | refine J.pickF rfl rfl rfl ?_)
          refine J.nil ?_; refine JX.thenN (hK37 _ _ ?_)
          first | refine JC.condT rfl ?_ | refine JC.cond rfl (fun _ => ?_) (fun h => by first | (exfalso; simp at h; omega) | (simp at h))
          refine JC.seq (fun K38 hK38 => ?_); refine JC.region ?_; refine J.assign rfl rfl ?_; refine J.nil ?_; refine JX.thenN (hK38 _ _ ?_); refine JC.ret ?_; refine JX.thenR ?_; refine JX.blockR ?_; refine JX.thenR ?_; refine JX.ret1 rfl rfl (fun w hw => ?_)
          first
          | exact ⟨.no, rfl, hg, hw⟩
          | exact ⟨.no, rfl, hg, hw.drop (List.sublist_cons_self _ _)⟩
          | exact ⟨.no, rfl, hg, (hw.drop (List.sublist_cons_self _ _)).drop (List.sublist_append_right _ _)⟩
          | exact ⟨.inc n1, rfl, hg, hw⟩
          | exact ⟨.item ⟨k1, ⟨((n2 : Nat) : Int), k3⟩, t4, .slice a4 t4.length c4, l4⟩ es5 ck5, rfl, ⟨hg, ⟨⟨by simp only; omega, by simp only; omega⟩, hv4⟩, hT5⟩, (hw.perm (zp : List.Perm _ ((b11, cb (cT k1 ⟨((n2 : Nat) : Int), k3⟩ (.slice a4 t4.length c4)) 28) :: ((vb, vaO lv mb ((inc : Nat) : Int)) :: (mb, .map es5 ck5) :: l4)))).drop (List.sublist_cons_self _ _)⟩
         ·by_cases xe : p4 < bs.length
          ·have hg : readP inc bs = none := readP_t4 hN0 hK1 hz1 hN2 xb xc hK3 hz3 hT4 (.inr xe)
           refine JC.region ?_; refine J.move rfl rfl ?_; refine J.bin rfl rfl rfl rfl ?_; refine J.name 111 rfl (show _ = Value.bool false by have xz : e4 = 0 := (by omega); simp [xz]) ?_; refine J.move rfl rfl ?_
           first | refine J.skip rfl rfl rfl rfl rfl ?_ | refine J.skipU rfl rfl rfl rfl ?_ | (refine J.unguard rfl rfl rfl ?_; refine J.move rfl rfl ?_)
           first | refine J.skip rfl rfl rfl rfl rfl ?_ | refine J.skipU rfl rfl rfl rfl ?_ | (refine J.unguard rfl rfl rfl ?_; refine J.move rfl rfl ?_)
           first | refine J.skip rfl rfl rfl rfl rfl ?_ | refine J.skipU rfl rfl rfl rfl ?_ | (refine J.unguard rfl rfl rfl ?_; refine J.lenS rfl Ty.u26 rfl rfl ?_)
           refine J.unguard rfl rfl rfl ?_; refine J.bin rfl rfl rfl rfl ?_; refine J.name 116 rfl (show _ = Value.bool true by simp; omega) ?_
           (first | refine J.pickT rfl rfl rfl ?_ | refine J.pickF rfl rfl rfl ?_)
           refine J.nil ?_; refine JX.thenN (hK37 _ _ ?_)
           first | refine JC.condT rfl ?_ | refine JC.cond rfl (fun _ => ?_) (fun h => by first | (exfalso; simp at h; omega) | (simp at h))
           refine JC.seq (fun K39 hK39 => ?_); refine JC.region ?_; refine J.assign rfl rfl ?_; refine J.nil ?_; refine JX.thenN (hK39 _ _ ?_); refine JC.ret ?_; refine JX.thenR ?_; refine JX.blockR ?_; refine JX.thenR ?_; refine JX.ret1 rfl rfl (fun w hw => ?_)
           first
           | exact ⟨.no, rfl, hg, hw⟩
           | exact ⟨.no, rfl, hg, hw.drop (List.sublist_cons_self _ _)⟩
           | exact ⟨.no, rfl, hg, (hw.drop (List.sublist_cons_self _ _)).drop (List.sublist_append_right _ _)⟩
           | exact ⟨.inc n1, rfl, hg, hw⟩
           | exact ⟨.item ⟨k1, ⟨((n2 : Nat) : Int), k3⟩, t4, .slice a4 t4.length c4, l4⟩ es5 ck5, rfl, ⟨hg, ⟨⟨by simp only; omega, by simp only; omega⟩, hv4⟩, hT5⟩, (hw.perm (zp : List.Perm _ ((b11, cb (cT k1 ⟨((n2 : Nat) : Int), k3⟩ (.slice a4 t4.length c4)) 28) :: ((vb, vaO lv mb ((inc : Nat) : Int)) :: (mb, .map es5 ck5) :: l4)))).drop (List.sublist_cons_self _ _)⟩
          ·have hg : readP inc bs = some (.inr ⟨k1, ⟨((n2 : Nat) : Int), k3⟩, t4⟩) := readP_item hN0 hK1 hz1 hN2 xb xc hK3 hz3 hT4 (by omega) xe
           refine JC.region ?_; refine J.move rfl rfl ?_; refine J.bin rfl rfl rfl rfl ?_; refine J.name 111 rfl (show _ = Value.bool false by have xz : e4 = 0 := (by omega); simp [xz]) ?_; refine J.move rfl rfl ?_
           first | refine J.skip rfl rfl rfl rfl rfl ?_ | refine J.skipU rfl rfl rfl rfl ?_ | (refine J.unguard rfl rfl rfl ?_; refine J.move rfl rfl ?_)
           first | refine J.skip rfl rfl rfl rfl rfl ?_ | refine J.skipU rfl rfl rfl rfl ?_ | (refine J.unguard rfl rfl rfl ?_; refine J.move rfl rfl ?_)
           first | refine J.skip rfl rfl rfl rfl rfl ?_ | refine J.skipU rfl rfl rfl rfl ?_ | (refine J.unguard rfl rfl rfl ?_; refine J.lenS rfl Ty.u26 rfl rfl ?_)
           refine J.unguard rfl rfl rfl ?_; refine J.bin rfl rfl rfl rfl ?_; refine J.name 116 rfl (show _ = Value.bool false by simp; omega) ?_
           (first | refine J.pickT rfl rfl rfl ?_ | refine J.pickF rfl rfl rfl ?_)
           refine J.nil ?_; refine JX.thenN (hK37 _ _ ?_)
           first | refine JC.condF rfl ?_ | refine JC.cond rfl (fun h => by first | (exfalso; simp at h; omega) | (simp at h)) (fun _ => ?_)
           refine JC.skip ?_; refine JX.thenN (hK35 _ _ ?_); refine JC.seq (fun K40 hK40 => ?_); refine JC.region ?_; refine J.move rfl rfl ?_
           obtain ⟨xc, hxc⟩ : ∃ l, l = cT k1 ⟨((n2 : Nat) : Int), k3⟩ (.slice a4 t4.length c4) := ⟨_, rfl⟩
           refine J.loadA (vs := xc) Ty.a28 Ty.s28 rfl (by rw [hxc]; rfl) (fun w1 hw => by rw [hxc]; exact Cells.of_block (hw.own (b11, cb (cT k1 ⟨((n2 : Nat) : Int), k3⟩ (.slice a4 t4.length c4)) 28) zm) rfl) rfl ?_; refine J.perm ([(vb, vaO lv mb ((inc : Nat) : Int)), (mb, .map es ck)] ++ ((b11, cb (cT k1 ⟨((n2 : Nat) : Int), k3⟩ (.slice a4 t4.length c4)) 28) :: l4)) zp ?_; refine J.callS (α := Array MapEntry × Nat) (V := fun _ => .tuple #[]) (Pr := fun q => Vm (takeH L ⟨k1, ⟨((n2 : Nat) : Int), k3⟩, t4, .slice a4 t4.length c4, l4⟩) q.1 q.2) (L := fun q => [(vb, vaO lv mb ((inc : Nat) : Int)), (mb, .map q.1 q.2)]) Ty.bd67 rfl rfl (fun w1 hw => take_spec vb mb lv _ L es ck hT hV xc k1 _ t4 a4 _ c4 l4 w1 hxc (St.owns hw)) (fun q hT5 => ?_)
           obtain ⟨es5, ck5⟩ := q
           try simp only at hT5 ⊢
           refine J.nil ?_; refine JX.thenN (hK40 _ _ ?_); refine JC.seq (fun K41 hK41 => ?_); refine JC.region ?_; refine J.assign rfl rfl ?_; refine J.nil ?_; refine JX.thenN (hK41 _ _ ?_); refine JC.ret ?_; refine JX.blockR ?_; refine JX.thenR ?_; refine JX.ret1 rfl rfl (fun w hw => ?_)
           first
           | exact ⟨.no, rfl, hg, hw⟩
           | exact ⟨.no, rfl, hg, hw.drop (List.sublist_cons_self _ _)⟩
           | exact ⟨.no, rfl, hg, (hw.drop (List.sublist_cons_self _ _)).drop (List.sublist_append_right _ _)⟩
           | exact ⟨.inc n1, rfl, hg, hw⟩
           | exact ⟨.item ⟨k1, ⟨((n2 : Nat) : Int), k3⟩, t4, .slice a4 t4.length c4, l4⟩ es5 ck5, rfl, ⟨hg, ⟨⟨by simp only; omega, by simp only; omega⟩, hv4⟩, hT5⟩, (hw.perm (zp : List.Perm _ ((b11, cb (cT k1 ⟨((n2 : Nat) : Int), k3⟩ (.slice a4 t4.length c4)) 28) :: ((vb, vaO lv mb ((inc : Nat) : Int)) :: (mb, .map es5 ck5) :: l4)))).drop (List.sublist_cons_self _ _)⟩
   ·have hg : readP inc bs = none := readP_0 hN0 (.inr ⟨fun e => by subst e; first | (simp at h1; done) | omega, fun e => by subst e; first | (simp at h3; done) | omega⟩)
    refine JC.skip ?_; refine JX.blockN ?_; refine JX.thenN (hK5 _ _ ?_); refine JC.seq (fun K42 hK42 => ?_); refine JC.region ?_; refine J.assign rfl rfl ?_; refine J.nil ?_; refine JX.thenN (hK42 _ _ ?_); refine JC.ret ?_; refine JX.ret1 rfl rfl (fun w hw => ?_)
    first
    | exact ⟨.no, rfl, hg, hw⟩
    | exact ⟨.no, rfl, hg, hw.drop (List.sublist_cons_self _ _)⟩
    | exact ⟨.no, rfl, hg, (hw.drop (List.sublist_cons_self _ _)).drop (List.sublist_append_right _ _)⟩
    | exact ⟨.inc n1, rfl, hg, hw⟩
    | exact ⟨.item ⟨k1, ⟨((n2 : Nat) : Int), k3⟩, t4, .slice a4 t4.length c4, l4⟩ es5 ck5, rfl, ⟨hg, ⟨⟨by simp only; omega, by simp only; omega⟩, hv4⟩, hT5⟩, (hw.perm (zp : List.Perm _ ((b11, cb (cT k1 ⟨((n2 : Nat) : Int), k3⟩ (.slice a4 t4.length c4)) 28) :: ((vb, vaO lv mb ((inc : Nat) : Int)) :: (mb, .map es5 ck5) :: l4)))).drop (List.sublist_cons_self _ _)⟩

end Go.Proofs.Ytoaenmlhehcjfaa
/-
 The plain law of a log: what stands on the disk when power fails at any write, and behind a record that was laid.
-/
namespace Go.Proofs.Ytoaenmlhehcjfaa
open Go.J Go.RowKit
set_option linter.unusedVariables false
set_option linter.unusedSimpArgs false
set_option maxRecDepth 4000

theorem openP_cases' (B : List UInt8) (n : Nat) {q : LogP} {e : Int} (h : openP B n = (e, some q)) : e = 0 ∧ ¬ n < 3 ∧ ¬ badHead n (q.gen, q.used, q.cnt) ∧ bestP B 2 = (q.gen, q.used, q.cnt) ∧ parseS B (2 + q.used) q.cnt 2 = some q.recs := by
 unfold openP at h
 split at h
 ·simp at h
 ·split at h
  ·simp at h
  ·rename_i h1 h2
   split at h
   ·simp at h
   ·rename_i rs h3
    simp only [Prod.mk.injEq, Option.some.injEq] at h
    obtain ⟨rfl, rfl⟩ := h
    exact ⟨rfl, h1, h2, rfl, h3⟩
theorem openP_mk {B : List UInt8} {n : Nat} {q : LogP} (h1 : ¬ n < 3) (h2 : bestP B 2 = (q.gen, q.used, q.cnt)) (h3 : ¬ badHead n (q.gen, q.used, q.cnt)) (h4 : parseS B (2 + q.used) q.cnt 2 = some q.recs) : openP B n = (0, some q) :=
 openP_some h1 h2 h3 h4
theorem put_get {B bs : List UInt8} {n i : Nat} (hB : B.length = 64 * n) (hi : i < n) (hb : bs.length ≤ 64) (j : Nat) : (put B i bs)[j]? = if j < 64 * i then B[j]? else if j < 64 * i + 64 then (bs ++ List.replicate (64 - bs.length) 0)[j - 64 * i]? else B[j]? := by
 rw [← wst_all hb, wst_get hB hi hb 64 j (by omega)]
theorem put_other {B bs : List UInt8} {n i : Nat} (hB : B.length = 64 * n) (hi : i < n) (hb : bs.length ≤ 64) {j : Nat} (h : j < 64 * i ∨ 64 * i + 64 ≤ j) : (put B i bs)[j]? = B[j]? := by
 rw [put_get hB hi hb]
 rcases h with h | h
 ·rw [if_pos h]
 ·rw [if_neg (by omega), if_neg (by omega)]
/-- the same bytes from a to b -/
def Same (B B' : List UInt8) (a b : Nat) : Prop := ∀ j, a ≤ j → j < b → B'[j]? = B[j]?
theorem Same.sub {B B' : List UInt8} {a b c d : Nat} (h : Same B B' a b) (h1 : a ≤ c) (h2 : d ≤ b) : Same B B' c d := fun j ha hb => h j (by omega) (by omega)
theorem Same.getD {B B' : List UInt8} {a b j : Nat} (h : Same B B' a b) (h1 : a ≤ j) (h2 : j < b) : B'.getD j 0 = B.getD j 0 := by
 rw [List.getD_eq_getElem?_getD, List.getD_eq_getElem?_getD, h j h1 h2]
theorem Same.take {B B' : List UInt8} {a b o m : Nat} (h : Same B B' a b) (h1 : a ≤ o) (h2 : o + m ≤ b) : (B'.drop o).take m = (B.drop o).take m := by
 apply List.ext_getElem?
 intro j
 by_cases hj : j < m
 ·rw [List.getElem?_take_of_lt hj, List.getElem?_take_of_lt hj, List.getElem?_drop, List.getElem?_drop]
  exact h _ (by omega) (by omega)
 ·rw [List.getElem?_eq_none (by simp; omega), List.getElem?_eq_none (by simp; omega)]
theorem Same.sec {B B' : List UInt8} {a b i : Nat} (h : Same B B' a b) (h1 : a ≤ 64 * i) (h2 : 64 * i + 64 ≤ b) : sec B' i = sec B i := h.take h1 h2
theorem Same.sizeAt {B B' : List UInt8} {a b at_ : Nat} (h : Same B B' a b) (h1 : a ≤ 64 * at_) (h2 : 64 * at_ + 2 ≤ b) : sizeAt B' at_ = sizeAt B at_ := by
 unfold Go.Proofs.Ytoaenmlhehcjfaa.sizeAt
 rw [h.getD h1 (by omega), h.getD (by omega) (by omega)]
theorem parse_same {B B' : List UInt8} {top : Nat} : ∀ (k at_ : Nat), Same B B' (64 * at_) (64 * top) → parseS B' top k at_ = parseS B top k at_ := by
 intro k
 induction k with
 | zero => intro at_ _; rfl
 | succ k ih =>
  intro at_ h
  unfold parseS
  by_cases h1 : top ≤ at_
  ·rw [if_pos h1, if_pos h1]
  ·have hs := h.sizeAt (at_ := at_) (by omega) (by omega)
   rw [if_neg h1, if_neg h1, hs]
   by_cases h2 : 1024 < sizeAt B at_ ∨ top - at_ < needN (sizeAt B at_)
   ·rw [if_pos h2, if_pos h2]
   ·have hn := @need_bounds (sizeAt B at_)
    rw [if_neg h2, if_neg h2, ih _ (h.sub (by omega) (by omega)), h.take (by omega) (by omega)]
/-- a record that was laid behind is read behind -/
theorem parse_more {B B' rec_ : List UInt8} {top : Nat} (hl : rec_.length ≤ 1024) (hz : sizeAt B' top = rec_.length) (hr : (B'.drop (64 * top + 2)).take rec_.length = rec_) :
  ∀ (k at_ : Nat) (rs : List (List UInt8)), Same B B' (64 * at_) (64 * top) → parseS B top k at_ = some rs → parseS B' (top + needN rec_.length) (k + 1) at_ = some (rs ++ [rec_]) := by
 have hnb := @need_bounds rec_.length
 intro k
 induction k with
 | zero =>
  intro at_ rs _ h
  unfold parseS at h
  split at h
  ·rename_i h1
   subst h1
   simp only [Option.some.injEq] at h
   subst h
   unfold parseS
   rw [if_neg (by omega), hz, if_neg (by omega), hr]
   unfold parseS
   rw [if_pos rfl]
   rfl
  ·simp at h
 | succ k ih =>
  intro at_ rs hs h
  unfold parseS at h
  split at h
  ·simp at h
  ·rename_i h1
   split at h
   ·simp at h
   ·rename_i h2
    rw [Option.map_eq_some_iff] at h
    obtain ⟨rs', h3, rfl⟩ := h
    have hn := @need_bounds (sizeAt B at_)
    have h4 := hs.sizeAt (at_ := at_) (by omega) (by omega)
    have h5 := ih (at_ + needN (sizeAt B at_)) rs' (hs.sub (by omega) (by omega)) h3
    rw [parseS, if_neg (by omega), h4, if_neg (by omega), h5, hs.take (by omega) (by omega)]
    rfl
/-- so far the pieces of a payload were written -/
structure Ext (n top : Nat) (pay B : List UInt8) (i : Nat) (B' : List UInt8) : Prop where
 len : B'.length = 64 * n
 below : Same B B' 0 (64 * top)
 written : ∀ j, j < 64 * i → j < pay.length → B'[64 * top + j]? = pay[j]?
theorem Ext.step {n top : Nat} {pay B B' : List UInt8} {i : Nat} (h : Ext n top pay B i B') (hi : top + i < n) : Ext n top pay B (i + 1) (put B' (top + i) (piece pay i)) := by
 have hpl : (piece pay i).length ≤ 64 := by rw [piece_length]; omega
 refine ⟨put_length h.len hi hpl, fun j h1 h2 => ?_, fun j h1 h2 => ?_⟩
 ·rw [put_other h.len hi hpl (.inl (by omega))]
  exact h.below j h1 h2
 ·by_cases h3 : j < 64 * i
  ·rw [put_other h.len hi hpl (.inl (by omega))]
   exact h.written j h3 h2
  ·rw [put_get h.len hi hpl, if_neg (by omega), if_pos (by omega), List.getElem?_append_left (by rw [piece_length]; omega), piece, List.getElem?_take_of_lt (by omega), List.getElem?_drop]
   congr 1
   omega
theorem Ext.start {n top : Nat} {pay B : List UInt8} (hB : B.length = 64 * n) : Ext n top pay B 0 B := ⟨hB, fun _ _ _ => rfl, fun j h _ => by omega⟩
def pickH (b h : Nat × Nat × Nat) : Nat × Nat × Nat := if b.1 < h.1 then h else b
theorem bestP_pick (B : List UInt8) : bestP B 2 = pickH (pickH (0, 0, 0) (headP (sec B 0))) (headP (sec B 1)) := rfl
theorem bestP_same {B B' : List UInt8} (h : Same B B' 0 128) : bestP B' 2 = bestP B 2 := by
 have h0 := h.sec (i := 0) (by omega) (by omega)
 have h1 := h.sec (i := 1) (by omega) (by omega)
 rw [bestP_pick, bestP_pick, h0, h1]
theorem Ext.open {n top : Nat} {pay B B' : List UInt8} {i : Nat} {q : LogP} (h : Ext n top pay B i B') (ht : top = 2 + q.used) (ho : openP B n = (0, some q)) : openP B' n = (0, some q) := by
 obtain ⟨_, h1, h2, h3, h4⟩ := openP_cases' B n ho
 refine openP_mk h1 ?_ h2 ?_
 ·rw [bestP_same (h.below.sub (by omega) (by omega))]; exact h3
 ·rw [parse_same _ _ (h.below.sub (by omega) (by omega))]; exact h4
theorem bestP_ge (B : List UInt8) : (headP (sec B 0)).1 ≤ (bestP B 2).1 ∧ (headP (sec B 1)).1 ≤ (bestP B 2).1 := by
 simp only [bestP]
 by_cases h0 : 0 < (headP (sec B 0)).1
 ·simp only [h0, if_true]
  split <;> omega
 ·simp only [h0, if_false]
  split <;> simp at * <;> omega
theorem headP_laid {g u c : Nat} (hg : g < 18446744073709551616) (hu : u < 18446744073709551616) (hc : c < 18446744073709551616) : headP ([g, u, c].flatMap be8 ++ List.replicate 40 0) = (g, u, c) := by
 have e : [g, u, c].flatMap be8 ++ List.replicate 40 0 = be8 g ++ (be8 u ++ (be8 c ++ List.replicate 40 0)) := by simp
 have l1 := be8_length g
 have l2 := be8_length u
 have l3 := be8_length c
 rw [e]
 unfold headP
 have d8 : (be8 g ++ (be8 u ++ (be8 c ++ List.replicate 40 (0 : UInt8)))).drop 8 = be8 u ++ (be8 c ++ List.replicate 40 0) := List.drop_left' l1
 have d16 : (be8 g ++ (be8 u ++ (be8 c ++ List.replicate 40 (0 : UInt8)))).drop 16 = be8 c ++ List.replicate 40 0 := by
  rw [show 16 = 8 + 8 from rfl, ← List.drop_drop, d8]; exact List.drop_left' l2
 have d24 : (be8 g ++ (be8 u ++ (be8 c ++ List.replicate 40 (0 : UInt8)))).drop 24 = List.replicate 40 0 := by
  rw [show 24 = 16 + 8 from rfl, ← List.drop_drop, d16]; exact List.drop_left' l3
 rw [d24, if_pos (by simp), d8, d16, List.take_left' l1, List.take_left' l2, List.take_left' l3, num_be8 g hg, num_be8 u hu, num_be8 c hc]
/-- the last write: the head -/
theorem Ext.done {n : Nat} {rec_ B B' : List UInt8} {q : LogP} (h : Ext n (2 + q.used) (payload rec_) B (needN rec_.length) B') (ho : openP B n = (0, some q)) (hn : n ≤ 4096) (hl : rec_.length ≤ 1024) (hf : needN rec_.length ≤ n - 2 - q.used) (hg : q.gen + 1 < 9223372036854775808) :
  openP (put B' ((q.gen + 1) % 2) ([q.gen + 1, q.used + needN rec_.length, q.cnt + 1].flatMap be8)) n = (0, some ⟨q.gen + 1, q.used + needN rec_.length, q.cnt + 1, q.recs ++ [rec_]⟩) := by
 obtain ⟨_, h1, h2, h3, h4⟩ := openP_cases' B n ho
 have hnb := @need_bounds rec_.length
 have hpl := payload_length rec_
 unfold badHead at h2
 simp only at h2
 have hfl : ([q.gen + 1, q.used + needN rec_.length, q.cnt + 1].flatMap be8).length = 24 := by rw [flat_length]; rfl
 have hi : (q.gen + 1) % 2 < n := by omega
 have hother : ∀ j, 128 ≤ j → (put B' ((q.gen + 1) % 2) ([q.gen + 1, q.used + needN rec_.length, q.cnt + 1].flatMap be8))[j]? = B'[j]? := fun j hj => put_other h.len hi (by omega) (.inr (by omega))
 have hge := bestP_ge B
 rw [h3] at hge
 simp only at hge
 have hs0 : sec B' 0 = sec B 0 := h.below.sec (by omega) (by omega)
 have hs1 : sec B' 1 = sec B 1 := h.below.sec (by omega) (by omega)
 have hnew : sec (put B' ((q.gen + 1) % 2) ([q.gen + 1, q.used + needN rec_.length, q.cnt + 1].flatMap be8)) ((q.gen + 1) % 2) = [q.gen + 1, q.used + needN rec_.length, q.cnt + 1].flatMap be8 ++ List.replicate 40 0 := by
  apply List.ext_getElem?
  intro j
  by_cases hj : j < 64
  ·rw [sec, List.getElem?_take_of_lt hj, List.getElem?_drop, put_get h.len hi (by omega), if_neg (by omega), if_pos (by omega), hfl]
   congr 1
   omega
  ·rw [List.getElem?_eq_none (by simp [sec]; omega), List.getElem?_eq_none (by simp only [List.length_append, hfl, List.length_replicate]; omega)]
 have hkeep : ∀ k, k < 2 → k ≠ (q.gen + 1) % 2 → sec (put B' ((q.gen + 1) % 2) ([q.gen + 1, q.used + needN rec_.length, q.cnt + 1].flatMap be8)) k = sec B' k := by
  intro k hk hne
  have : Same B' (put B' ((q.gen + 1) % 2) ([q.gen + 1, q.used + needN rec_.length, q.cnt + 1].flatMap be8)) (64 * k) (64 * k + 64) := fun j ha hb => put_other h.len hi (by omega) (by omega)
  exact this.sec (Nat.le_refl _) (Nat.le_refl _)
 have hhead := headP_laid (g := q.gen + 1) (u := q.used + needN rec_.length) (c := q.cnt + 1) (by omega) (by omega) (by omega)
 refine openP_mk h1 ?_ ?_ ?_
 ·rcases Nat.mod_two_eq_zero_or_one (q.gen + 1) with hm | hm
  ·have e0 := hnew
   have e1 := hkeep 1 (by omega) (by omega)
   rw [hm] at e0 e1 ⊢
   simp only [bestP, e0, e1, hhead, hs1, show 0 < q.gen + 1 by omega, if_true]
   rw [if_neg (by omega)]
  ·have e0 := hkeep 0 (by omega) (by omega)
   have e1 := hnew
   rw [hm] at e0 e1 ⊢
   simp only [bestP, e0, e1, hhead, hs0]
   by_cases hz : 0 < (headP (sec B 0)).1
   ·rw [if_pos hz, if_pos (by omega)]
   ·rw [if_neg hz, if_pos (by simp only; omega)]
 ·unfold badHead; simp only; omega
 ·have hsame : Same B (put B' ((q.gen + 1) % 2) ([q.gen + 1, q.used + needN rec_.length, q.cnt + 1].flatMap be8)) (64 * 2) (64 * (2 + q.used)) := fun j ha hb => by
   rw [hother j (by omega)]; exact h.below j (by omega) hb
  have hw : ∀ j, j < 2 + rec_.length → (put B' ((q.gen + 1) % 2) ([q.gen + 1, q.used + needN rec_.length, q.cnt + 1].flatMap be8))[64 * (2 + q.used) + j]? = (payload rec_)[j]? := fun j hj => by
   rw [hother _ (by omega)]; exact h.written j (by omega) (by omega)
  have := parse_more (B := B) (B' := put B' ((q.gen + 1) % 2) ([q.gen + 1, q.used + needN rec_.length, q.cnt + 1].flatMap be8)) (rec_ := rec_) (top := 2 + q.used) hl ?_ ?_ q.cnt 2 q.recs hsame h4
  ·rw [← Nat.add_assoc]; exact this
  ·unfold sizeAt
   rw [List.getD_eq_getElem?_getD, List.getD_eq_getElem?_getD, hw 1 (by omega)]
   have := hw 0 (by omega)
   simp only [Nat.add_zero] at this
   rw [this]
   simp only [payload, List.cons_append, List.getElem?_cons_zero, List.getElem?_cons_succ, Option.getD_some, UInt8.toNat_ofNat']
   omega
  ·apply List.ext_getElem?
   intro j
   by_cases hj : j < rec_.length
   ·rw [List.getElem?_take_of_lt hj, List.getElem?_drop, show 64 * (2 + q.used) + 2 + j = 64 * (2 + q.used) + (j + 2) by omega, hw _ (by omega)]
    simp [payload]
   ·rw [List.getElem?_eq_none (by simp; omega), List.getElem?_eq_none (by omega)]
/-- what appending leaves on the disk -/
theorem dws_open {n : Nat} {rec_ B : List UInt8} {q : LogP} (hn : n ≤ 4096) (ho : openP B n = (0, some q)) (hl : rec_.length ≤ 1024) (hf : needN rec_.length ≤ n - 2 - q.used) (hg : q.gen + 1 < 9223372036854775808) :
  ∀ (m i : Nat) (σ : DS), m = needN rec_.length - i → i ≤ needN rec_.length → Ext n (2 + q.used) (payload rec_) B i σ.B →
   (((dws σ ((planP q.gen q.used q.cnt rec_).drop i)).2 = false ∧ openP (dws σ ((planP q.gen q.used q.cnt rec_).drop i)).1.B n = (0, some q)) ∨
    ((dws σ ((planP q.gen q.used q.cnt rec_).drop i)).2 = true ∧ openP (dws σ ((planP q.gen q.used q.cnt rec_).drop i)).1.B n = (0, some ⟨q.gen + 1, q.used + needN rec_.length, q.cnt + 1, q.recs ++ [rec_]⟩))) ∧
   (dws σ ((planP q.gen q.used q.cnt rec_).drop i)).1.B.length = 64 * n ∧ σ.k ≤ (dws σ ((planP q.gen q.used q.cnt rec_).drop i)).1.k ∧ (dws σ ((planP q.gen q.used q.cnt rec_).drop i)).1.k ≤ σ.k + m + 1 ∧ (σ.p < 9223372036854775808 → (dws σ ((planP q.gen q.used q.cnt rec_).drop i)).1.p < 9223372036854775808) := by
 obtain ⟨_, h1, h2, _, _⟩ := openP_cases' B n ho
 unfold badHead at h2
 simp only at h2
 intro m
 induction m with
 | zero =>
  intro i σ hm hi hE
  obtain rfl : i = needN rec_.length := by omega
  rw [plan_last]
  by_cases hp : σ.p = 0
  ·have e : dws σ [((q.gen + 1) % 2, [q.gen + 1, q.used + needN rec_.length, q.cnt + 1].flatMap be8)] = (σ, false) := by simp [dws, hp]
   rw [e]
   exact ⟨.inl ⟨rfl, hE.open rfl ho⟩, hE.len, Int.le_refl _, by simp only; omega, fun h => h⟩
  ·have e : dws σ [((q.gen + 1) % 2, [q.gen + 1, q.used + needN rec_.length, q.cnt + 1].flatMap be8)] = (dw σ ((q.gen + 1) % 2) ([q.gen + 1, q.used + needN rec_.length, q.cnt + 1].flatMap be8), true) := by simp [dws, hp]
   rw [e]
   refine ⟨.inr ⟨rfl, hE.done ho hn hl hf hg⟩, put_length hE.len (by omega) (by rw [flat_length]; simp), by simp only [dw]; omega, by simp only [dw]; omega, fun h => by simp only [dw]; split <;> omega⟩
 | succ m ih =>
  intro i σ hm hi hE
  rw [plan_at (by omega)]
  by_cases hp : σ.p = 0
  ·have e : ∀ x xs, dws σ (x :: xs) = (σ, false) := by intro x xs; simp [dws, hp]
   rw [e]
   exact ⟨.inl ⟨rfl, hE.open rfl ho⟩, hE.len, Int.le_refl _, by simp only; omega, fun h => h⟩
  ·rw [dws_cons hp]
   have := ih (i + 1) (dw σ (2 + q.used + i) (piece (payload rec_) i)) (by omega) (by omega) (hE.step (by omega))
   refine ⟨this.1, this.2.1, ?_, ?_, fun h => this.2.2.2.2 (by simp only [dw]; split <;> omega)⟩
   ·have h3 := this.2.2.1; simp only [dw] at h3 ⊢; omega
   ·have h3 := this.2.2.2.1; simp only [dw] at h3 ⊢; omega
/-- what holds between a log and its disk -/
structure LogI (n : Nat) (q : LogP) (σ : DS) : Prop where
 len : σ.B.length = 64 * n
 open_ : openP σ.B n = (0, some q)
 p : σ.p < 9223372036854775808
theorem append_law {n : Nat} {q : LogP} {σ : DS} {down : Bool} {rec_ : List UInt8} (hn : n ≤ 4096) (h : LogI n q σ) (hg : q.gen + 1 < 9223372036854775808) :
  ∃ e q' down' σ', appendP n q down σ rec_ = (e, q', down', σ') ∧ LogI n q' σ' ∧ σ.k ≤ σ'.k ∧ σ'.k ≤ σ.k + 19 ∧ q'.gen ≤ q.gen + 1 ∧ q.gen ≤ q'.gen ∧
   ((e = 0 ∧ q'.recs = q.recs ++ [rec_]) ∨ (e ≠ 0 ∧ q' = q)) ∧ (e = 8 ↔ down' = true) := by
 unfold appendP
 by_cases h0 : down = true
 ·exact ⟨8, q, true, σ, by rw [if_pos h0], h, Int.le_refl _, by omega, by omega, by omega, .inr ⟨by omega, rfl⟩, by simp⟩
 rw [if_neg h0]
 by_cases h1 : 1024 < rec_.length
 ·exact ⟨4, q, false, σ, by rw [if_pos h1], h, Int.le_refl _, by omega, by omega, by omega, .inr ⟨by omega, rfl⟩, by simp⟩
 rw [if_neg h1]
 by_cases h2 : n - 2 - q.used < needN rec_.length
 ·exact ⟨5, q, false, σ, by rw [if_pos h2], h, Int.le_refl _, by omega, by omega, by omega, .inr ⟨by omega, rfl⟩, by simp⟩
 rw [if_neg h2]
 have hnb : needN rec_.length ≤ 18 := by unfold needN; omega
 have key := dws_open (rec_ := rec_) hn h.open_ (by omega) (by omega) hg (needN rec_.length) 0 σ (by omega) (by omega) (Ext.start h.len)
 rw [List.drop_zero] at key
 obtain ⟨hk, hlen, hk1, hk2, hp⟩ := key
 generalize dws σ (planP q.gen q.used q.cnt rec_) = x at hk hlen hk1 hk2 hp ⊢
 obtain ⟨σ', ok⟩ := x
 simp only at hk hlen hk1 hk2 hp
 rcases hk with ⟨rfl, ho⟩ | ⟨rfl, ho⟩
 ·exact ⟨8, q, true, σ', rfl, ⟨hlen, ho, hp h.p⟩, hk1, by omega, by omega, by omega, .inr ⟨by omega, rfl⟩, by simp⟩
 ·exact ⟨0, _, false, σ', rfl, ⟨hlen, ho, hp h.p⟩, hk1, by omega, by simp only; omega, by simp only; omega, .inl ⟨rfl, rfl⟩, by simp⟩
theorem openP_zero {n : Nat} (h : 3 ≤ n) (hn : n ≤ 4096) : openP (List.replicate (64 * n) 0) n = (0, some ⟨0, 0, 0, []⟩) := by
 have hs : ∀ k, k < 2 → sec (List.replicate (64 * n) (0 : UInt8)) k = List.replicate 64 0 := by
  intro k hk
  simp only [sec, List.drop_replicate, List.take_replicate]
  congr 1; omega
 have hh : headP (List.replicate 64 (0 : UInt8)) = (0, 0, 0) := by decide
 refine openP_mk (by omega) ?_ ?_ ?_
 ·simp only [bestP, hs 0 (by omega), hs 1 (by omega), hh]
  rfl
 ·unfold badHead; simp only; omega
 ·rfl
end Go.Proofs.Ytoaenmlhehcjfaa
/-
 vault.Open: contract.
-/
namespace Go.Proofs.Ytoaenmlhehcjfaa
open Go.J Go.RowKit
set_option linter.unusedVariables false
set_option linter.unusedSimpArgs false
set_option maxRecDepth 8000
theorem openP_cases (B : List UInt8) (n : Nat) : (n < 3 ∧ openP B n = (1, none)) ∨ (¬ n < 3 ∧ badHead n (bestP B 2) ∧ openP B n = (2, none)) ∨ (¬ n < 3 ∧ ¬ badHead n (bestP B 2) ∧ parseS B (2 + (bestP B 2).2.1) (bestP B 2).2.2 2 = none ∧ openP B n = (2, none)) ∨
  (¬ n < 3 ∧ ¬ badHead n (bestP B 2) ∧ ∃ rs, parseS B (2 + (bestP B 2).2.1) (bestP B 2).2.2 2 = some rs ∧ openP B n = (0, some ⟨(bestP B 2).1, (bestP B 2).2.1, (bestP B 2).2.2, rs⟩)) := by
 by_cases h1 : n < 3
 ·exact .inl ⟨h1, openP_small h1⟩
 ·by_cases h2 : badHead n (bestP B 2)
  ·exact .inr (.inl ⟨h1, h2, openP_bad h1 h2⟩)
  ·cases h3 : parseS B (2 + (bestP B 2).2.1) (bestP B 2).2.2 2 with
   | none => exact .inr (.inr (.inl ⟨h1, h2, rfl, openP_none h1 rfl h3⟩))
   | some rs => exact .inr (.inr (.inr ⟨h1, h2, rs, rfl, openP_some h1 rfl h2 h3⟩))
theorem parseS_len {B : List UInt8} {top : Nat} : ∀ (k at_ : Nat) (rs : List (List UInt8)), parseS B top k at_ = some rs → rs.length = k := by
 intro k
 induction k with
 | zero => intro at_ rs h; unfold parseS at h; split at h <;> simp at h; subst h; rfl
 | succ k ih =>
  intro at_ rs h
  unfold parseS at h
  split at h
  ·simp at h
  ·split at h
   ·simp at h
   ·rw [Option.map_eq_some_iff] at h
    obtain ⟨rs', h1, rfl⟩ := h
    rw [List.length_cons, ih _ _ h1]
/-- what an opened log is -/
theorem openP_len {B : List UInt8} {n : Nat} {e : Int} {q : LogP} (h : openP B n = (e, some q)) (hn : n ≤ 4096) : 3 ≤ n ∧ q.gen < 9223372036854775808 ∧ q.used ≤ n - 2 ∧ q.cnt ≤ q.used ∧ q.recs.length = q.cnt := by
 rcases openP_cases B n with ⟨_, h1⟩ | ⟨_, _, h1⟩ | ⟨_, _, _, h1⟩ | ⟨h2, h3, rs, h4, h1⟩ <;> rw [h1] at h <;> simp at h
 obtain ⟨_, rfl⟩ := h
 have := parseS_len _ _ _ h4
 unfold badHead at h3
 simp only
 omega
theorem parseS_size {B : List UInt8} {top : Nat} : ∀ (k at_ : Nat) (rs : List (List UInt8)), parseS B top k at_ = some rs → ∀ j : Nat, (rs.getD j []).length ≤ 1024 := by
 intro k
 induction k with
 | zero => intro at_ rs h j; unfold parseS at h; split at h <;> simp at h; subst h; simp
 | succ k ih =>
  intro at_ rs h j
  unfold parseS at h
  split at h
  ·simp at h
  ·split at h
   ·simp at h
   ·rw [Option.map_eq_some_iff] at h
    obtain ⟨rs', h1, rfl⟩ := h
    cases j with
    | zero => simp; omega
    | succ j => simpa using ih _ _ h1 j
theorem openP_e {B : List UInt8} {n : Nat} {e : Int} (h : openP B n = (e, none)) : e ≠ 0 := by
 rcases openP_cases B n with ⟨_, h1⟩ | ⟨_, _, h1⟩ | ⟨_, _, _, h1⟩ | ⟨_, _, rs, _, h1⟩ <;> rw [h1] at h <;> simp at h <;> omega
theorem openP_size {B : List UInt8} {n : Nat} {e : Int} {q : LogP} (h : openP B n = (e, some q)) {i : Nat} {r : List UInt8} (hr : q.recs[i]? = some r) : r.length ≤ 1024 := by
 obtain ⟨_, _, _, _, h5⟩ := openP_cases' B n h
 have := parseS_size _ _ _ h5 i
 rwa [List.getD_eq_getElem?_getD, hr] at this
theorem vec_rowM {w0 w : World} {S : List Nat} {l lp : List (Nat × Obj)} {t sz : Nat} {v : Value} {k : Nat} {xs : List Value} (h : Vec t sz v k xs lp) (hw : St w0 S l w) (hm : ∀ p, p ∈ lp → p ∈ l) : Row w v k xs := by
 obtain ⟨hl, h⟩ := h
 rcases h with ⟨rfl, rfl, rfl⟩ | ⟨b, c, sp, rfl, rfl, _, hk⟩
 ·exact ⟨none, 0, rfl, Nat.le_refl _, .inl (List.eq_nil_of_length_eq_zero (by simpa using hl))⟩
 ·exact Row.own (cs := xs ++ sp) (tb := t) (fr := (0, 0)) hw (hm _ (.head _)) (by simp) hk
theorem vec_offM {t sz : Nat} {v : Value} {k : Nat} {xs : List Value} {lp : List (Nat × Obj)} {T : List Nat} (h : Vec t sz v k xs lp) (ht : ∀ p, p ∈ lp → p.1 ∉ T) : Off T v xs := by
 obtain ⟨hl, h⟩ := h
 rcases h with ⟨rfl, rfl, rfl⟩ | ⟨b, c, sp, rfl, rfl, _, hk⟩
 ·exact .inl (List.eq_nil_of_length_eq_zero (by simpa using hl))
 ·refine .inr fun b' o k' c' e => ?_
  simp only [Value.slice.injEq, Option.some.injEq, Addr.mk.injEq] at e
  rw [← e.1.1]
  exact ht _ (.head _)
theorem recs_at {t : Nat} {vs : List Value} {rs : List (List UInt8)} {lp : List (Nat × Obj)} (h : Recs t vs rs lp) : ∀ (i : Nat) (v : Value) (r : List UInt8), vs[i]? = some v → rs[i]? = some r → ∃ l, Vec t 1 v r.length (r.map u8) l ∧ ∀ p, p ∈ l → p ∈ lp := by
 induction h with
 | nil => intro i v r h; simp at h
 | @snoc vs rs lp l v0 r0 h1 h2 ih =>
  intro i v r hv hr
  have hl := h1.length
  rcases Nat.lt_or_ge i vs.length with hi | hi
  ·rw [List.getElem?_append_left hi] at hv
   rw [List.getElem?_append_left (by omega)] at hr
   obtain ⟨l', h3, h4⟩ := ih i v r hv hr
   exact ⟨l', h3, fun p hp => List.mem_append_left _ (h4 p hp)⟩
  ·rw [List.getElem?_append_right hi] at hv
   rw [List.getElem?_append_right (by omega), ← hl] at hr
   cases h0 : i - vs.length with
   | zero =>
    rw [h0] at hv hr
    simp only [List.getElem?_cons_zero, Option.some.injEq] at hv hr
    subst hv hr
    exact ⟨l, h2, fun p hp => List.mem_append_right _ hp⟩
   | succ j => rw [h0] at hv; simp at hv
/-- one record more -/
def stepV (st : Nat × List ItV) (r : List UInt8) : Option (Nat × List ItV) := match readP st.1 r with
 | none => none
 | some (.inl n) => some (n, st.2)
 | some (.inr x) => some (st.1, takeV st.2 x)
/-- what records say -/
def heldV (rs : List (List UInt8)) : Option (Nat × List ItV) := rs.foldl (fun o r => o.bind (fun st => stepV st r)) (some (0, []))
theorem heldV_snoc (rs : List (List UInt8)) (r : List UInt8) : heldV (rs ++ [r]) = (heldV rs).bind (fun st => stepV st r) := by
 unfold heldV
 rw [List.foldl_append]; rfl
theorem foldl_none (rs : List (List UInt8)) : rs.foldl (fun o r => o.bind (fun st => stepV st r)) none = none := by
 induction rs with
 | nil => rfl
 | cons r rs ih => exact ih
theorem heldV_none {rs : List (List UInt8)} {i : Nat} (h : heldV (rs.take i) = none) : heldV rs = none := by
 have e : rs = rs.take i ++ rs.drop i := (List.take_append_drop i rs).symm
 rw [e]
 unfold heldV at h ⊢
 rw [List.foldl_append, h]
 exact foldl_none _
theorem readP_incb {inc n : Nat} {bs : List UInt8} (h : readP inc bs = some (.inl n)) : inc < n ∧ n ≤ 1048576 := by
 unfold readP at h
 split at h
 ·cases h
 ·split at h
  ·split at h
   ·cases h
   ·rename_i h3
    simp only [Option.some.injEq, Sum.inl.injEq] at h
    subst h
    exact ⟨Nat.lt_of_not_le fun e => h3 (.inr (.inr (.inr e))), Nat.le_of_not_lt fun e => h3 (.inr (.inr (.inl e)))⟩
  ·split at h
   ·split at h
    ·cases h
    ·split at h
     ·cases h
     ·split at h
      ·cases h
      ·split at h
       ·cases h
       ·cases h
   ·cases h
/-- a beginning's record -/
def incB (n : Nat) : List UInt8 := numB 1 ++ numB n
/-- what opening a vault does -/
def vopenP (n : Nat) (σ : DS) : Int × Option (LogP × Nat × List ItV) × DS :=
 match openP σ.B n with
 | (e, none) => (e, none, σ)
 | (_, some q) => match heldV q.recs with
  | none => (2, none, σ)
  | some (inc, L) => if inc = 1048576 then (5, none, σ) else
   match appendP n q false σ (incB (inc + 1)) with
   | (e, q', _, σ') => if e = 0 then (0, some (q', inc + 1, L), σ') else (e, none, σ')
theorem vopenP_bad {n : Nat} {σ : DS} {e : Int} (h : openP σ.B n = (e, none)) : vopenP n σ = (e, none, σ) := by unfold vopenP; rw [h]
theorem vopenP_form {n : Nat} {σ : DS} {e : Int} {q : LogP} (h : openP σ.B n = (e, some q)) (h1 : heldV q.recs = none) : vopenP n σ = (2, none, σ) := by unfold vopenP; rw [h]; simp only [h1]
theorem vopenP_full {n inc : Nat} {σ : DS} {e : Int} {q : LogP} {L : List ItV} (h : openP σ.B n = (e, some q)) (h1 : heldV q.recs = some (inc, L)) (h2 : inc = 1048576) : vopenP n σ = (5, none, σ) := by unfold vopenP; rw [h]; simp only [h1]; rw [if_pos h2]
theorem vopenP_torn {n inc : Nat} {σ σ' : DS} {e e' : Int} {q q' : LogP} {dn : Bool} {L : List ItV} (h : openP σ.B n = (e, some q)) (h1 : heldV q.recs = some (inc, L)) (h2 : ¬ inc = 1048576) (h3 : appendP n q false σ (incB (inc + 1)) = (e', q', dn, σ')) (h4 : e' ≠ 0) : vopenP n σ = (e', none, σ') := by unfold vopenP; rw [h]; simp only [h1]; rw [if_neg h2, h3]; simp only; rw [if_neg h4]
theorem vopenP_ok {n inc : Nat} {σ σ' : DS} {e e' : Int} {q q' : LogP} {dn : Bool} {L : List ItV} (h : openP σ.B n = (e, some q)) (h1 : heldV q.recs = some (inc, L)) (h2 : ¬ inc = 1048576) (h3 : appendP n q false σ (incB (inc + 1)) = (e', q', dn, σ')) (h4 : e' = 0) : vopenP n σ = (0, some (q', inc + 1, L), σ') := by unfold vopenP; rw [h]; simp only [h1]; rw [if_neg h2, h3]; simp only; rw [if_pos h4]
theorem appendP_dn {n : Nat} {q q' : LogP} {σ σ' : DS} {rec_ : List UInt8} {e : Int} {dn : Bool} (h : appendP n q false σ rec_ = (e, q', dn, σ')) (he : e = 0) : dn = false := by
 subst he
 unfold appendP at h
 rw [if_neg (by simp)] at h
 split at h
 ·cases h
 ·split at h
  ·cases h
  ·split at h
   ·cases h; rfl
   ·cases h
inductive VO where
 | bad (e : Int) (σ : DS)
 | ok (vb mb lb : Nat) (q : LogP) (inc : Nat) (L : List HI) (es : Array MapEntry) (ck : Nat) (σ : DS)
def VO.val : VO → Value
 | .bad e _ => .tuple #[.pointer none, .int .i64 e]
 | .ok vb _ _ _ _ _ _ _ _ => .tuple #[.pointer (some ⟨vb, 0, none⟩), .int .i64 0]
/-- a vault's blocks -/
abbrev vltB (vb mb lb d s n : Nat) (q : LogP) (down : Bool) (inc : Nat) (es : Array MapEntry) (ck : Nat) (σ : DS) : List (Nat × Obj) := [(vb, vaO (.pointer (some ⟨lb, 0, none⟩)) mb ((inc : Nat) : Int)), (mb, .map es ck), (lb, lgO d q down), (d, dkO s n σ.p σ.k), (s, dkS σ.B)]
def VO.lst (d s n : Nat) : VO → List (Nat × Obj)
 | .bad _ σ => [(d, dkO s n σ.p σ.k), (s, dkS σ.B)]
 | .ok vb mb lb q inc L es ck σ => vltB vb mb lb d s n q false inc es ck σ ++ lpsH L
def VO.Pr (n : Nat) (σ : DS) : VO → Prop
 | .bad e σ' => vopenP n σ = (e, none, σ') ∧ e ≠ 0
 | .ok _ _ _ q inc L es ck σ' => vopenP n σ = (0, some (q, inc, L.map HI.it), σ') ∧ Vm L es ck ∧ VOK L
structure HvS where
 i : Nat
 inc : Nat
 L : List HI
 es : Array MapEntry
 ck : Nat

set_option maxHeartbeats 2000000 in
theorem vopen_spec (d s n : Nat) (B : List UInt8) (p k : Int) (w : World) (hw0 : Own w [(d, dkO s n p k), (s, dkS B)]) (hB : B.length = 64 * n) (hn : n ≤ 4096) (hk : 0 ≤ k) (hk2 : k < 4611686018427380000) (hp : p < 9223372036854775808) :
  Calls Try.prog 17 [.pointer (some ⟨d, 0, none⟩)].toArray w fun r w' => ∃ z : VO, r = .returned z.val ∧ z.Pr n ⟨B, p, k⟩ ∧ St w [d, s] (z.lst d s n) w' := by
 refine calls_of_J (args := [.pointer (some ⟨d, 0, none⟩)]) (e := [(0, .pointer (some ⟨d, 0, none⟩))]) Try.func17 rfl rfl ⟨rfl, trivial⟩ (hw0.st) ?_; refine JC.seq (fun K0 hK0 => ?_); refine JC.region ?_; refine J.assign rfl rfl ?_; refine J.assign rfl rfl ?_; refine J.nil ?_; refine JX.thenN (hK0 _ _ ?_); refine JC.seq (fun K1 hK1 => ?_)
 rcases ho : openP B n with ⟨e0, _ | q⟩
 ·have he0 := openP_e ho
  have hg : vopenP n ⟨B, p, k⟩ = (e0, none, ⟨B, p, k⟩) := vopenP_bad ho
  refine JC.region ?_; refine J.move rfl rfl ?_; refine J.callB (v := .tuple #[.pointer none, .slice none 0 0, .int .i64 e0]) (fun w1 w2 hw hb => hw.step hb) Ty.bd44 rfl rfl (fun w1 hw => by have h9 := open_spec d s n B p k w1 (St.owns' hw) hB hn; rw [ho] at h9; exact h9) ?_; refine J.move rfl rfl ?_; refine J.extract rfl rfl rfl ?_; refine J.extract rfl rfl rfl ?_; refine J.extract rfl rfl rfl ?_; refine J.assign rfl rfl ?_; refine J.assign rfl rfl ?_; refine J.assign rfl rfl ?_; refine J.nil ?_; refine JX.thenN (hK1 _ _ ?_); refine JC.seq (fun K2 hK2 => ?_); refine JC.seq (fun K3 hK3 => ?_); refine JC.region ?_; refine J.move rfl rfl ?_; refine J.bin rfl rfl rfl rfl ?_; refine J.name 18 rfl (show _ = Value.bool true by simp [he0]) ?_; refine J.nil ?_; refine JX.thenN (hK3 _ _ ?_)
  first | refine JC.condT rfl ?_ | refine JC.cond rfl (fun _ => ?_) (fun h => by first | (exfalso; simp at h; omega) | (simp at h))
  refine JC.seq (fun K4 hK4 => ?_); refine JC.region ?_; refine J.move rfl rfl ?_; refine J.assign rfl rfl ?_; refine J.assign rfl rfl ?_; refine J.nil ?_; refine JX.thenN (hK4 _ _ ?_); refine JC.ret ?_; refine JX.thenR ?_; refine JX.ret2 rfl rfl rfl (fun w1 hw => ?_)
  exact ⟨.bad e0 ⟨B, p, k⟩, rfl, ⟨hg, he0⟩, hw⟩
 ·have hol := openP_len ho hn
  obtain ⟨hn3, hgl, hul, hcl_, hrl⟩ := hol
  refine JC.region ?_; refine J.move rfl rfl ?_; refine J.perm ([] ++ ([(d, dkO s n p k), (s, dkS B)])) (.refl _) ?_
  refine J.callS (α := Nat × Value × List Value × List (Nat × Obj) × List (Nat × Obj)) (V := fun x => .tuple #[.pointer (some ⟨x.1, 0, none⟩), x.2.1, .int .i64 0]) (Pr := fun x => Vec 26 1 x.2.1 q.recs.length x.2.2.1 x.2.2.2.1 ∧ Recs 5 x.2.2.1 q.recs x.2.2.2.2) (L := fun x => (x.1, lgO d q false) :: (x.2.2.2.1 ++ x.2.2.2.2)) (l1 := []) Ty.bd44 rfl rfl (fun w1 hw => by
   have h9 := open_spec d s n B p k w1 (St.owns' hw) hB hn
   rw [ho] at h9
   exact h9.mono fun _ _ ⟨b, v, vs, lv, lps, h1, h2, h3, h4⟩ => ⟨(b, v, vs, lv, lps), h1, ⟨h2, h3⟩, h4⟩) (fun x hx => ?_)
  obtain ⟨lb, vv, vs, lvv, lps⟩ := x
  obtain ⟨hvv, hrecs⟩ := hx
  try simp only at hvv hrecs ⊢
  obtain ⟨ar, cr, rfl, hcr⟩ := hvv.form
  have hvl := hrecs.length
  refine J.perm (((lb, lgO d q false) :: (lvv ++ (lps ++ ([(d, dkO s n p k), (s, dkS B)]))))) zp ?_; refine J.move rfl rfl ?_; refine J.extract rfl rfl rfl ?_; refine J.extract rfl rfl rfl ?_; refine J.extract rfl rfl rfl ?_; refine J.assign rfl rfl ?_; refine J.assign rfl rfl ?_; refine J.assign rfl rfl ?_; refine J.nil ?_; refine JX.thenN (hK1 _ _ ?_); refine JC.seq (fun K5 hK5 => ?_); refine JC.seq (fun K6 hK6 => ?_); refine JC.region ?_; refine J.move rfl rfl ?_; refine J.bin rfl rfl rfl rfl ?_; refine J.name 18 rfl (show _ = Value.bool false by simp) ?_; refine J.nil ?_; refine JX.thenN (hK6 _ _ ?_)
  first | refine JC.condF rfl ?_ | refine JC.cond rfl (fun h => by first | (exfalso; simp at h; omega) | (simp at h)) (fun _ => ?_)
  refine JC.skip ?_; refine JX.thenN (hK5 _ _ ?_); refine JC.seq (fun K7 hK7 => ?_); refine JC.region ?_; refine J.move rfl rfl ?_; refine J.makeMap rfl (fun b21 => ?_); refine J.buildS (cs := [.pointer (some ⟨lb, 0, none⟩), .map (some b21), .int .i64 0]) Ty.pl99 Ty.z99 rfl (by kernel_rfl) rfl ?_; refine J.box rfl rfl rfl (fun b23 => ?_); refine J.assign rfl rfl ?_; refine J.nil ?_; refine JX.thenN (hK7 _ _ ?_); refine JC.seq (fun K8 hK8 => ?_); refine JC.seq (fun K9 hK9 => ?_); refine JC.region ?_; refine J.move rfl rfl ?_; refine J.lenS rfl Ty.u57 rfl rfl ?_; refine J.move rfl rfl ?_; refine J.nil ?_; refine JX.thenN (hK9 _ _ ?_); refine JC.block ?_
  refine JC.conseq (JC.cov (f := (fun st => [(4, .pointer (some ⟨lb, 0, none⟩)), (7, .pointer (some ⟨b23, 0, none⟩)), (24, .slice ar q.recs.length cr), (25, .int .i64 ((q.recs.length : Nat) : Int)), (26, .int .i64 ((st.i : Nat) : Int))]) (⟨0, 0, [], #[], 0⟩ : HvS)) ⟨rfl, rfl, rfl, rfl, rfl, trivial⟩ (JC.loop (α := HvS) (fun st => [(4, .pointer (some ⟨lb, 0, none⟩)), (7, .pointer (some ⟨b23, 0, none⟩)), (24, .slice ar q.recs.length cr), (25, .int .i64 ((q.recs.length : Nat) : Int)), (26, .int .i64 ((st.i : Nat) : Int))]) (fun st w' => (st.i ≤ q.recs.length ∧ heldV (q.recs.take st.i) = some (st.inc, st.L.map HI.it) ∧ st.inc ≤ 1048576 ∧ Vm st.L st.es st.ck ∧ VOK st.L) ∧ St w [d, s] ((b23, vaO (.pointer (some ⟨lb, 0, none⟩)) b21 ((st.inc : Nat) : Int)) :: (b21, .map st.es st.ck) :: (lpsH st.L ++ ((lb, lgO d q false) :: (lvv ++ (lps ++ ([(d, dkO s n p k), (s, dkS B)])))))) w') (fun st => q.recs.length - st.i) (⟨0, 0, [], #[], 0⟩ : HvS) (fun st => ?_))) (fun w hw => ⟨⟨Nat.zero_le _, rfl, Nat.zero_le _, Vm.nil, VOK.nil⟩, hw⟩)
  obtain ⟨i, inc, L, es, ck⟩ := st
  refine JC.pr (fun hI => ?_)
  obtain ⟨hi, hh, hinc, hT, hV⟩ := hI
  try simp only at hi hh hinc hT hV ⊢
  refine JC.seq (fun K10 hK10 => ?_); refine JC.region ?_; refine J.bin rfl rfl rfl rfl ?_; refine J.nil ?_; refine JX.thenN (hK10 _ _ ?_); refine JC.seq (fun K11 hK11 => ?_); refine JC.cond rfl (fun h1 => ?_) (fun h1 => ?_)
  ·have hlt : i < q.recs.length := by simp at h1; omega
   obtain ⟨ru, hru⟩ : ∃ x, q.recs[i]? = some x := ⟨_, List.getElem?_eq_getElem hlt⟩
   obtain ⟨u, hu⟩ : ∃ x, vs[i]? = some x := ⟨_, List.getElem?_eq_getElem (by omega)⟩
   obtain ⟨lu, hvu, hlu⟩ := recs_at hrecs i u ru hu hru
   obtain ⟨au, cu, rfl, hcu⟩ := hvu.form
   have hru2 := openP_size ho hru
   have htk : q.recs.take (i + 1) = q.recs.take i ++ [ru] := by rw [List.take_add_one, hru]; rfl
   obtain ⟨qv, spv, rfl, rfl, hcq⟩ : ∃ b sp, ar = some ⟨b, 0, none⟩ ∧ lvv = [(b, cb (vs ++ sp) 26)] ∧ q.recs.length ≤ cr := by
    rcases hvv.2 with ⟨_, h9, _⟩ | ⟨b, c, sp, h9, h10, _, h11⟩
    ·omega
    ·simp only [Value.slice.injEq] at h9
     obtain ⟨h9, -, rfl⟩ := h9
     exact ⟨b, sp, h9, h10, h11⟩
   refine JC.skip ?_; refine JX.thenN (hK11 _ _ ?_); refine JC.seq (fun K12 hK12 => ?_); refine JC.block ?_; refine JC.seq (fun K13 hK13 => ?_); refine JC.region ?_; refine J.indexAddrS Ty.el57 Ty.s26 rfl rfl (by omega) (by omega) rfl ?_; refine J.load1 (v := .slice au ru.length cu) Ty.a26 rfl (fun w1 hw => (cell_of (hw.own (qv, cb (vs ++ spv) 26) zm)).trans (by rw [Int.toNat_natCast, Nat.mul_one, Nat.zero_add, List.getElem?_append_left (by omega)]; exact hu)) rfl ?_; refine J.assign rfl rfl ?_; refine J.nil ?_; refine JX.thenN (hK13 _ _ ?_); refine JC.seq (fun K14 hK14 => ?_); refine JC.region ?_; refine J.move rfl rfl ?_; refine J.move rfl rfl ?_; refine J.perm ([(b23, vaO (.pointer (some ⟨lb, 0, none⟩)) b21 ((inc : Nat) : Int)), (b21, .map es ck)] ++ (lpsH L ++ ((lb, lgO d q false) :: ([(qv, cb (vs ++ spv) 26)] ++ (lps ++ ([(d, dkO s n p k), (s, dkS B)])))))) (.refl _) ?_; refine J.callS (α := ReadR) (V := fun z => .bool z.ok) (Pr := fun z => z.Pr L inc ru) (L := fun z => z.lst b23 b21 (.pointer (some ⟨lb, 0, none⟩)) ((inc : Nat) : Int) es ck) Ty.bd45 rfl rfl (fun w1 hw => vread_spec b23 b21 inc _ L es ck hT hV _ ru w1 (St.owns hw) (vec_rowM hvu hw (fun p hp => by simp [hlu p hp])) (vec_offM hvu (fun p hp => St.off (l1 := [(b23, vaO (.pointer (some ⟨lb, 0, none⟩)) b21 ((inc : Nat) : Int)), (b21, .map es ck)]) hw (o := p.2) (by simp [hlu p hp]))) (by omega) hinc) (fun z hz => ?_)
   rcases z with _ | m9 | ⟨h9, es9, ck9⟩
   ·simp only [ReadR.Pr, ReadR.lst] at hz ⊢
    refine J.name 32 rfl (show _ = Value.bool false from rfl) ?_
    have hg : vopenP n ⟨B, p, k⟩ = (2, none, ⟨B, p, k⟩) := vopenP_form (σ := ⟨B, p, k⟩) ho (heldV_none (i := i + 1) (by rw [htk, heldV_snoc, hh]; simp only [Option.bind_some, stepV, hz]))
    refine J.not rfl rfl ?_; refine J.nil ?_; refine JX.thenN (hK14 _ _ ?_)
    first | refine JC.condT rfl ?_ | refine JC.cond rfl (fun _ => ?_) (fun h => by first | (exfalso; simp at h; omega) | (simp at h))
    refine JC.seq (fun K15 hK15 => ?_); refine JC.region ?_; refine J.assign rfl rfl ?_; refine J.assign rfl rfl ?_; refine J.nil ?_; refine JX.thenN (hK15 _ _ ?_); refine JC.ret ?_; refine JX.blockR ?_; refine JX.thenR ?_; refine JX.thenR ?_; refine JX.blockR ?_; refine JX.thenR ?_; refine JX.ret2 rfl rfl rfl (fun w1 hw => ?_)
    exact ⟨.bad 2 ⟨B, p, k⟩, rfl, ⟨hg, by decide⟩, (hw.perm (zp : List.Perm _ (((b23, vaO (.pointer (some ⟨lb, 0, none⟩)) b21 ((inc : Nat) : Int)) :: (b21, .map es ck) :: (lpsH L ++ ((lb, lgO d q false) :: ([(qv, cb (vs ++ spv) 26)] ++ lps)))) ++ [(d, dkO s n p k), (s, dkS B)]))).drop (List.sublist_append_right _ _)⟩
   ·simp only [ReadR.Pr, ReadR.lst] at hz ⊢
    refine J.name 32 rfl (show _ = Value.bool true from rfl) ?_
    have hb9 := readP_incb hz
    refine J.not rfl rfl ?_; refine J.nil ?_; refine JX.thenN (hK14 _ _ ?_)
    first | refine JC.condF rfl ?_ | refine JC.cond rfl (fun h => by first | (exfalso; simp at h; omega) | (simp at h)) (fun _ => ?_)
    refine JC.skip ?_; refine JX.blockN ?_; refine JX.thenN (hK12 _ _ ?_); refine JC.region ?_
    (first | refine J.addN rfl rfl (by omega) (by omega) rfl ?_ | refine J.bin rfl rfl rfl rfl ?_)
    refine J.move rfl rfl ?_; refine J.nil ?_; refine JX.thenN ?_; refine JX.again (⟨i + 1, m9, L, es, ck⟩ : HvS) ?_ ?_ ?_
    ·simp only; omega
    ·exact ⟨rfl, rfl, rfl, rfl, rfl, trivial⟩
    ·exact fun w1 hw => ⟨⟨hlt, by simp only; rw [htk, heldV_snoc, hh]; simp only [Option.bind_some, stepV, hz], hb9.2, hT, hV⟩, hw⟩
   ·simp only [ReadR.Pr, ReadR.lst] at hz ⊢
    refine J.name 32 rfl (show _ = Value.bool true from rfl) ?_
    obtain ⟨hz1, hz2, hz3⟩ := hz
    refine J.not rfl rfl ?_; refine J.nil ?_; refine JX.thenN (hK14 _ _ ?_)
    first | refine JC.condF rfl ?_ | refine JC.cond rfl (fun h => by first | (exfalso; simp at h; omega) | (simp at h)) (fun _ => ?_)
    refine JC.skip ?_; refine JX.blockN ?_; refine JX.thenN (hK12 _ _ ?_); refine JC.region ?_
    (first | refine J.addN rfl rfl (by omega) (by omega) rfl ?_ | refine J.bin rfl rfl rfl rfl ?_)
    refine J.move rfl rfl ?_; refine J.nil ?_; refine JX.thenN ?_; refine JX.again (⟨i + 1, inc, takeH L h9, es9, ck9⟩ : HvS) ?_ ?_ ?_
    ·simp only; omega
    ·exact ⟨rfl, rfl, rfl, rfl, rfl, trivial⟩
    ·exact fun w1 hw => ⟨⟨hlt, by simp only; rw [htk, heldV_snoc, hh]; simp only [Option.bind_some, stepV, hz1, takeH_it], hinc, hz3, hV.take hz2⟩, by
      have h1 := hw.perm (zp : List.Perm _ ((h9.lp ++ lpsH L) ++ ((b23, vaO (.pointer (some ⟨lb, 0, none⟩)) b21 ((inc : Nat) : Int)) :: (b21, .map es9 ck9) :: ((lb, lgO d q false) :: ([(qv, cb (vs ++ spv) 26)] ++ (lps ++ ([(d, dkO s n p k), (s, dkS B)])))))))
      exact ((takeH_sub hT.nodup h9).st h1).perm zp⟩
  ·have hge : i = q.recs.length := by simp at h1; omega
   rw [hge, List.take_of_length_le (Nat.le_refl _)] at hh
   refine JC.exit ?_; refine JX.thenE ?_; refine JX.thenE ?_; refine JX.blockE ?_; refine JX.thenN (hK8 _ _ ?_); refine JC.seq (fun K16 hK16 => ?_); refine JC.seq (fun K17 hK17 => ?_); refine JC.region ?_; refine J.move rfl rfl ?_; refine J.nilCheck rfl rfl ?_; refine J.fieldAddr Ty.fd99_2 rfl rfl ?_; refine J.load1 (v := .int .i64 ((inc : Nat) : Int)) Ty.a2 rfl (fun w1 hw => by rw [cell_of (hw.own ((b23, vaO (.pointer (some ⟨lb, 0, none⟩)) b21 ((inc : Nat) : Int))) zm)]; rfl) rfl ?_; refine J.bin rfl rfl rfl rfl ?_; refine J.nil ?_; refine JX.thenN (hK17 _ _ ?_); refine JC.cond rfl (fun h3 => ?_) (fun h3 => ?_)
   ·have hg : vopenP n ⟨B, p, k⟩ = (5, none, ⟨B, p, k⟩) := vopenP_full (σ := ⟨B, p, k⟩) ho hh (by simp at h3; omega)
    refine JC.seq (fun K18 hK18 => ?_); refine JC.region ?_; refine J.assign rfl rfl ?_; refine J.assign rfl rfl ?_; refine J.nil ?_; refine JX.thenN (hK18 _ _ ?_); refine JC.ret ?_; refine JX.thenR ?_; refine JX.ret2 rfl rfl rfl (fun w1 hw => ?_)
    exact ⟨.bad 5 ⟨B, p, k⟩, rfl, ⟨hg, by decide⟩, (hw.perm (zp : List.Perm _ (((b23, vaO (.pointer (some ⟨lb, 0, none⟩)) b21 ((inc : Nat) : Int)) :: (b21, .map es ck) :: (lpsH L ++ ((lb, lgO d q false) :: (lvv ++ lps)))) ++ [(d, dkO s n p k), (s, dkS B)]))).drop (List.sublist_append_right _ _)⟩
   ·have hi9 : ¬ inc = 1048576 := by simp at h3; omega
    refine JC.skip ?_; refine JX.thenN (hK16 _ _ ?_); refine JC.seq (fun K19 hK19 => ?_); refine JC.seq (fun K20 hK20 => ?_); refine JC.region ?_; refine J.move rfl rfl ?_; refine J.move rfl rfl ?_; refine J.nilCheck rfl rfl ?_; refine J.fieldAddr Ty.fd99_2 rfl rfl ?_; refine J.load1 (v := .int .i64 ((inc : Nat) : Int)) Ty.a2 rfl (fun w1 hw => by rw [cell_of (hw.own ((b23, vaO (.pointer (some ⟨lb, 0, none⟩)) b21 ((inc : Nat) : Int))) zm)]; rfl) rfl ?_; refine J.addN rfl rfl (by omega) (by omega) rfl ?_; refine J.name 45 rfl (show _ = Value.int .i64 ((inc + 1 : Nat) : Int) from congrArg (Value.int .i64) (by omega)) ?_; refine J.convInt Ty.u2 Ty.u81 rfl rfl ?_; refine J.name 46 rfl (show _ = Value.int .u64 ((inc + 1 : Nat) : Int) from congrArg (Value.int .u64) (wrap_u64 (by omega) (by omega))) ?_; refine J.buildSl (cs := [.int .u64 1, .int .u64 ((inc + 1 : Nat) : Int)]) Ty.el118 Ty.s81 Ty.z81 rfl rfl rfl rfl rfl rfl rfl (fun b47 => ?_); refine J.perm ([] ++ ((b47, cb [.int .u64 1, .int .u64 ((inc + 1 : Nat) : Int)] 81) :: ((b23, vaO (.pointer (some ⟨lb, 0, none⟩)) b21 ((inc : Nat) : Int)) :: (b21, .map es ck) :: (lpsH L ++ ((lb, lgO d q false) :: (lvv ++ (lps ++ ([(d, dkO s n p k), (s, dkS B)])))))))) (.refl _) ?_; refine J.callS (α := Value × List (Nat × Obj)) (V := (·.1)) (Pr := fun x => Vec 5 1 x.1 ([1, inc + 1].flatMap numB).length (([1, inc + 1].flatMap numB).map u8) x.2) (L := (·.2)) (l1 := []) Ty.bd39 rfl rfl (fun w1 hw => putNum_spec _ [1, inc + 1] w1 (Row.own (cs := [.int .u64 1, .int .u64 ((inc + 1 : Nat) : Int)]) (tb := 81) (fr := (0, 0)) hw (.head _) rfl (Nat.le_refl _)) (by simp)) (fun x hv48 => ?_)
    obtain ⟨v48, l48⟩ := x
    simp only at hv48 ⊢
    rw [show [1, inc + 1].flatMap numB = incB (inc + 1) by simp [incB]] at hv48
    obtain ⟨a48, c48, rfl, hc48⟩ := hv48.form
    have hl48 : (incB (inc + 1)).length ≤ 18 := by
     have h1 := numB_le 1
     have h2 := numB_le (inc + 1)
     rw [incB, List.length_append]; omega
    obtain ⟨⟨e9, q9, dn9, σ9⟩, hx9⟩ : ∃ x, appendP n q false ⟨B, p, k⟩ (incB (inc + 1)) = x := ⟨_, rfl⟩
    refine J.perm ([(lb, lgO d q false), (d, dkO s n p k), (s, dkS B)] ++ (l48 ++ ((b47, cb [.int .u64 1, .int .u64 ((inc + 1 : Nat) : Int)] 81) :: (b23, vaO (.pointer (some ⟨lb, 0, none⟩)) b21 ((inc : Nat) : Int)) :: (b21, .map es ck) :: (lpsH L ++ (lvv ++ lps))))) zp ?_; refine J.callT (v := .int .i64 e9) (L := [(lb, lgO d q9 dn9), (d, dkO s n σ9.p σ9.k), (s, dkS σ9.B)]) Ty.bd46 rfl rfl (fun w1 hw => append_all lb d s n q false B (incB (inc + 1)) p k a48 _ c48 w1 (St.owns hw) hB hn hn3 hgl hul hcl_ hk hk2 hp rfl (by omega) (vec_rowM hv48 hw (fun q hq => by simp [hq])) (vec_offM hv48 (fun p0 hp0 => St.off (l1 := [(lb, lgO d q false), (d, dkO s n p k), (s, dkS B)]) hw (o := p0.2) (by simp [hp0]))) hx9) ?_; refine J.assign rfl rfl ?_; refine J.nil ?_; refine JX.thenN (hK20 _ _ ?_); refine JC.seq (fun K21 hK21 => ?_); refine JC.region ?_; refine J.move rfl rfl ?_; refine J.bin rfl rfl rfl rfl ?_; refine J.nil ?_; refine JX.thenN (hK21 _ _ ?_); refine JC.cond rfl (fun h4 => ?_) (fun h4 => ?_)
    ·have he9 : e9 ≠ 0 := by simpa using h4
     have hg := vopenP_torn (σ := ⟨B, p, k⟩) ho hh hi9 hx9 he9
     refine JC.seq (fun K22 hK22 => ?_); refine JC.region ?_; refine J.move rfl rfl ?_; refine J.assign rfl rfl ?_; refine J.assign rfl rfl ?_; refine J.nil ?_; refine JX.thenN (hK22 _ _ ?_); refine JC.ret ?_; refine JX.thenR ?_; refine JX.ret2 rfl rfl rfl (fun w1 hw => ?_)
     exact ⟨.bad e9 σ9, rfl, ⟨hg, he9⟩, (hw.perm (zp : List.Perm _ (((b23, vaO (.pointer (some ⟨lb, 0, none⟩)) b21 ((inc : Nat) : Int)) :: (b21, .map es ck) :: (lb, lgO d q9 dn9) :: (l48 ++ ((b47, cb [.int .u64 1, .int .u64 ((inc + 1 : Nat) : Int)] 81) :: (lpsH L ++ (lvv ++ lps))))) ++ [(d, dkO s n σ9.p σ9.k), (s, dkS σ9.B)]))).drop (List.sublist_append_right _ _)⟩
    ·have he9 : e9 = 0 := by simpa using h4
     have hg := vopenP_ok (σ := ⟨B, p, k⟩) ho hh hi9 hx9 he9
     have hdn := appendP_dn hx9 he9
     subst hdn
     refine JC.skip ?_; refine JX.thenN (hK19 _ _ ?_); refine JC.seq (fun K23 hK23 => ?_); refine JC.region ?_; refine J.move rfl rfl ?_; refine J.nilCheck rfl rfl ?_; refine J.fieldAddr Ty.fd99_2 rfl rfl ?_; refine J.load1 (v := .int .i64 ((inc : Nat) : Int)) Ty.a2 rfl (fun w1 hw => by rw [cell_of (hw.own ((b23, vaO (.pointer (some ⟨lb, 0, none⟩)) b21 ((inc : Nat) : Int))) zm)]; rfl) rfl ?_; refine J.addN rfl rfl (by omega) (by omega) rfl ?_; refine J.name 57 rfl (show _ = Value.int .i64 ((inc + 1 : Nat) : Int) from congrArg (Value.int .i64) (by omega)) ?_; refine J.nilCheck rfl rfl ?_; refine J.fieldAddr Ty.fd99_2 rfl rfl ?_; refine J.perm ((b23, vaO (.pointer (some ⟨lb, 0, none⟩)) b21 ((inc : Nat) : Int)) :: ((lb, lgO d q9 false) :: (d, dkO s n σ9.p σ9.k) :: (s, dkS σ9.B) :: (l48 ++ ((b47, cb [.int .u64 1, .int .u64 ((inc + 1 : Nat) : Int)] 81) :: (b21, .map es ck) :: (lpsH L ++ (lvv ++ lps)))))) zp ?_; refine J.storeO (cs := [.pointer (some ⟨lb, 0, none⟩), .map (some b21), .int .i64 ((inc : Nat) : Int)]) (vs := [.int .i64 ((inc + 1 : Nat) : Int)]) (l' := (b23, vaO (.pointer (some ⟨lb, 0, none⟩)) b21 ((inc + 1 : Nat) : Int)) :: ((lb, lgO d q9 false) :: (d, dkO s n σ9.p σ9.k) :: (s, dkS σ9.B) :: (l48 ++ ((b47, cb [.int .u64 1, .int .u64 ((inc + 1 : Nat) : Int)] 81) :: (b21, .map es ck) :: (lpsH L ++ (lvv ++ lps)))))) Ty.s2 rfl rfl rfl rfl (fun v hv => by rw [List.mem_singleton.1 hv]; rfl) .here (by show _ ≤ 3; omega) ?_; refine J.nil ?_; refine JX.thenN (hK23 _ _ ?_); refine JC.seq (fun K24 hK24 => ?_); refine JC.region ?_; refine J.move rfl rfl ?_; refine J.assign rfl rfl ?_; refine J.assign rfl rfl ?_; refine J.nil ?_; refine JX.thenN (hK24 _ _ ?_); refine JC.ret ?_; refine JX.ret2 rfl rfl rfl (fun w1 hw => ?_)
     exact ⟨.ok b23 b21 lb q9 (inc + 1) L es ck σ9, rfl, ⟨hg, hT, hV⟩, (hw.perm (zp : List.Perm _ ((l48 ++ ((b47, cb [.int .u64 1, .int .u64 ((inc + 1 : Nat) : Int)] 81) :: (lvv ++ lps))) ++ (vltB b23 b21 lb d s n q9 false (inc + 1) es ck σ9 ++ lpsH L)))).drop (List.sublist_append_right _ _)⟩

end Go.Proofs.Ytoaenmlhehcjfaa
/-
 The vault's Inc, Down, Get, Put, Merge: contracts.
-/
namespace Go.Proofs.Ytoaenmlhehcjfaa
open Go.J Go.RowKit
set_option linter.unusedVariables false
set_option linter.unusedSimpArgs false
set_option maxRecDepth 8000
def fieldF (P : Program) (s f : Nat) : Option (Nat × Nat) := match P.underlying s with
 | some (.struct fs) => (fs[f]?).map (fun d => (d.type, d.offset))
 | _ => none
theorem fieldF.ex {P : Program} {s f t off : Nat} (h : fieldF P s f = some (t, off)) : ∃ fs fd, P.underlying s = some (.struct fs) ∧ fs[f]? = some fd ∧ fd.type = t ∧ fd.offset = off := by
 unfold fieldF at h
 split at h
 ·rename_i fs hu
  obtain ⟨fd, h1, h2⟩ := Option.map_eq_some_iff.1 h
  simp only [Prod.mk.injEq] at h2
  exact ⟨fs, fd, hu, h1, h2.1, h2.2⟩
 ·cases h
section
variable {P : Program} {ops : Array Oper} {Q : Exit → Act → World → Prop} {n : Nat} {e : Env} {I I' : World → Prop} {rest : List Oper}
variable {d t yt : Nat} {p : String} {af : Array Edge} {x y z : Operand} {v v1 v2 : Value} {w0 : World} {S : List Nat} {l l' : List (Nat × Obj)}
theorem J.fieldA {s f tt off k : Nat} {cs vs : List Value} (hf : fieldF P s f = some (tt, off)) (ha : aggT P tt = some true) (hs : sizeT P tt = some k) (hx : ev e x = some (.agg cs.toArray)) (hv : (cs.drop off).take k = vs) (hd : Nat.blt d n = true)
  (h : J P ops Q n rest ((d, .agg vs.toArray) :: e) I) : J P ops Q n (⟨some d, .field s x f, t, p, af, none⟩ :: rest) e I := by
 refine J.value hd (fun T w ht hw => ⟨w, ?_, hw⟩) h
 obtain ⟨fs, fd, hu, hfd, rfl, rfl⟩ := fieldF.ex hf
 simp [execOp, ht.eval hx, Instr.field, run_underlying' hu, hfd, asAgg, part, run_isAgg ha, Go.J.run_sizeOf hs, hv]
theorem J.field1 {s f tt off : Nat} {cs : List Value} (hf : fieldF P s f = some (tt, off)) (ha : aggT P tt = some false) (hx : ev e x = some (.agg cs.toArray)) (hv : cs[off]? = some v) (hd : Nat.blt d n = true)
  (h : J P ops Q n rest ((d, v) :: e) I) : J P ops Q n (⟨some d, .field s x f, t, p, af, none⟩ :: rest) e I := by
 refine J.value hd (fun T w ht hw => ⟨w, ?_, hw⟩) h
 obtain ⟨fs, fd, hu, hfd, rfl, rfl⟩ := fieldF.ex hf
 simp [execOp, ht.eval hx, Instr.field, run_underlying' hu, hfd, asAgg, part, run_isAgg ha, hv]
end
namespace Ty
theorem ffIt : fieldF Try.prog 28 1 = some (25, 16) := by kernel_rfl
theorem ffVr : fieldF Try.prog 25 0 = some (2, 0) := by kernel_rfl
end Ty

theorem inc_spec (vb mb : Nat) (lv : Value) (inc : Int) (w : World) {l : List (Nat × Obj)} (hw0 : Own w ((vb, vaO lv mb inc) :: l)) :
  Calls Try.prog 18 [.pointer (some ⟨vb, 0, none⟩)].toArray w fun r w' => r = .returned (.int .i64 inc) ∧ Bel w w' := by
 refine calls_of_J (args := [.pointer (some ⟨vb, 0, none⟩)]) (e := [(0, .pointer (some ⟨vb, 0, none⟩))]) Try.func18 rfl rfl ⟨rfl, trivial⟩ (hw0.st) ?_; refine JC.seq (fun K0 hK0 => ?_); refine JC.region ?_; refine J.assign rfl rfl ?_; refine J.nil ?_; refine JX.thenN (hK0 _ _ ?_); refine JC.seq (fun K1 hK1 => ?_); refine JC.seq (fun K2 hK2 => ?_); refine JC.region ?_; refine J.move rfl rfl ?_; refine J.eqNil Ty.u38 rfl rfl rfl ?_; refine J.nil ?_; refine JX.thenN (hK2 _ _ ?_)
 first | refine JC.condF rfl ?_ | refine JC.cond rfl (fun h => by first | (exfalso; simp at h; omega) | (simp at h)) (fun _ => ?_)
 refine JC.skip ?_; refine JX.thenN (hK1 _ _ ?_); refine JC.seq (fun K3 hK3 => ?_); refine JC.region ?_; refine J.move rfl rfl ?_; refine J.nilCheck rfl rfl ?_; refine J.fieldAddr Ty.fd99_2 rfl rfl ?_; refine J.load1 (v := .int .i64 inc) Ty.a2 rfl (fun w1 hw => by rw [cell_of (hw.own ((vb, vaO lv mb inc)) zm)]; rfl) rfl ?_; refine J.assign rfl rfl ?_; refine J.nil ?_; refine JX.thenN (hK3 _ _ ?_); refine JC.ret ?_; refine JX.ret1 rfl rfl (fun w hw => ?_)
 exact ⟨rfl, hw.same hw0 (fun p hp => hp)⟩

theorem vdown_spec (vb mb lb d : Nat) (q : LogP) (down : Bool) (inc : Int) (w : World) {l : List (Nat × Obj)} (hw0 : Own w ((vb, vaO (.pointer (some ⟨lb, 0, none⟩)) mb inc) :: (lb, lgO d q down) :: l)) :
  Calls Try.prog 25 [.pointer (some ⟨vb, 0, none⟩)].toArray w fun r w' => r = .returned (.bool down) ∧ Bel w w' := by
 refine calls_of_J (args := [.pointer (some ⟨vb, 0, none⟩)]) (e := [(0, .pointer (some ⟨vb, 0, none⟩))]) Try.func25 rfl rfl ⟨rfl, trivial⟩ (hw0.st) ?_; refine JC.seq (fun K0 hK0 => ?_); refine JC.region ?_; refine J.assign rfl rfl ?_; refine J.nil ?_; refine JX.thenN (hK0 _ _ ?_); refine JC.seq (fun K1 hK1 => ?_); refine JC.region ?_; refine J.move rfl rfl ?_; refine J.neNil Ty.u38 rfl rfl rfl ?_; refine J.move rfl rfl ?_
 first | refine J.skip rfl rfl rfl rfl rfl ?_ | refine J.skipU rfl rfl rfl rfl ?_ | (refine J.unguard rfl rfl rfl ?_; refine J.move rfl rfl ?_)
 first | refine J.skip rfl rfl rfl rfl rfl ?_ | refine J.skipU rfl rfl rfl rfl ?_ | (refine J.unguard rfl rfl rfl ?_; refine J.nilCheck rfl rfl ?_)
 first | refine J.skip rfl rfl rfl rfl rfl ?_ | refine J.skipU rfl rfl rfl rfl ?_ | (refine J.unguard rfl rfl rfl ?_; refine J.fieldAddr Ty.fd99_0 rfl rfl ?_)
 refine J.unguard rfl rfl rfl ?_; refine J.load1 (v := .pointer (some ⟨lb, 0, none⟩)) Ty.a94 rfl (fun w1 hw => by rw [cell_of (hw.own ((vb, vaO (.pointer (some ⟨lb, 0, none⟩)) mb inc)) zm)]; rfl) rfl ?_; refine J.unguard rfl rfl rfl ?_; refine J.callB (v := .bool down) (fun w1 w2 hw hb => hw.step hb) Ty.bd51 rfl rfl (fun w1 hw => down_spec lb d q down w1 (l := (vb, vaO (.pointer (some ⟨lb, 0, none⟩)) mb inc) :: l) (St.owns' (hw.perm (.swap _ _ _)))) ?_
 (first | refine J.pickT rfl rfl rfl ?_ | refine J.pickF rfl rfl rfl ?_)
 refine J.assign rfl rfl ?_; refine J.nil ?_; refine JX.thenN (hK1 _ _ ?_); refine JC.ret ?_; refine JX.ret1 rfl rfl (fun w hw => ?_)
 exact ⟨rfl, hw.same hw0 (fun p hp => hp)⟩

theorem vget_spec (vb mb : Nat) (lv : Value) (inc : Int) (L : List HI) (es : Array MapEntry) (ck : Nat) (hT : Vm L es ck) (hV : VOK L) (key : IDV) (O : HI) (K : Bool) (w : World) (hw0 : Own w [(vb, vaO lv mb inc), (mb, .map es ck)]) (hO : (hget L key).getD zH = O) (hK : (hget L key).isSome = K) (hrow : Row w O.sv O.bs.length (O.bs.map u8)) (hoff : Off [vb, mb] O.sv (O.bs.map u8)) (hl : O.bs.length ≤ 140737488351232) :
  Calls Try.prog 22 [.pointer (some ⟨vb, 0, none⟩), .agg (cI key).toArray].toArray w fun r w' => ∃ y : Value × List (Nat × Obj), r = .returned (.tuple #[.agg (cT O.key O.ver y.1).toArray, .bool K]) ∧ Vec 5 1 y.1 (O.bs).length ((O.bs).map u8) y.2 ∧ St w [vb, mb] (y.2 ++ [(vb, vaO lv mb inc), (mb, .map es ck)]) w' := by
 obtain ⟨ao, co, hOs⟩ := hV.old key
 rw [hO] at hOs
 refine calls_of_J (args := [.pointer (some ⟨vb, 0, none⟩), .agg (cI key).toArray]) (e := [(0, .pointer (some ⟨vb, 0, none⟩)), (1, .agg (cI key).toArray)]) Try.func22 rfl rfl ⟨rfl, rfl, trivial⟩ (hw0.st) ?_; refine JC.seq (fun K0 hK0 => ?_); refine JC.region ?_; refine J.box rfl rfl rfl (fun b3 => ?_); refine J.alloc Ty.zIt rfl rfl (fun b4 => ?_); refine J.assign rfl rfl ?_; refine J.nil ?_; refine JX.thenN (hK0 _ _ ?_); refine JC.seq (fun K1 hK1 => ?_); refine JC.seq (fun K2 hK2 => ?_); refine JC.region ?_; refine J.move rfl rfl ?_; refine J.eqNil Ty.u38 rfl rfl rfl ?_; refine J.nil ?_; refine JX.thenN (hK2 _ _ ?_)
 first | refine JC.condF rfl ?_ | refine JC.cond rfl (fun h => by first | (exfalso; simp at h; omega) | (simp at h)) (fun _ => ?_)
 refine JC.skip ?_; refine JX.thenN (hK1 _ _ ?_); refine JC.seq (fun K3 hK3 => ?_)
 apply JC.drawX (α := Nat × Unit) 11 (fun x => match x with | ⟨x6, uu⟩ => [.pointer (some ⟨vb, 0, none⟩), .pointer (some ⟨vb, 0, none⟩), .pointer (some ⟨vb, 0 + 1, none⟩), .map (some mb), .agg (cI key).toArray, .tuple #[.agg (cH O).toArray, .bool K], .tuple #[.agg (cH O).toArray, .bool K], .agg (cH O).toArray, .bool K, .pointer (some ⟨x6, 0, none⟩), undef]) (fun m x => match x with | ⟨x6, uu⟩ => fun w1 => ((m 10 = true → m 9 = true)) ∧ St w [vb, mb] ((bif m 9 then [(x6, cb (cH (bif m 10 then O else zH)) 28)] else []) ++ ((b4, cb (cH zH) 28) :: (b3, cb (cI key) 23) :: (vb, vaO lv mb inc) :: (mb, .map es ck) :: [])) w1) Ty.mixed rfl rfl rfl (by kernel_rfl) rfl rfl ?hinit ?hstep ?htail
 case hinit => exact fun w1 hw => ⟨(0, ()), fun h => (by cases h), hw.drew⟩
 case hstep =>
  refine ⟨fun m x hm hp => ?_, fun m x hm hp => ?_, fun m x hm hp => ?_, fun m x hm hp => ?_, fun m x hm hp => ?_, fun m x hm hp => ?_, fun m x hm hp => ?_, fun m x hm hp => ?_, fun m x hm hp => ?_, fun m x hm hp => ?_, fun m x hm hp => ?_, trivial⟩
  ·obtain ⟨x6, uu⟩ := x
   show J _ _ _ _ _ (_) _
   refine J.pr (fun hF => ?_); refine J.move rfl rfl ?_
   exact J.finX rfl (fun _ hw => ⟨⟨x6, uu⟩, rfl, fun _ _ _ => rfl, hF, hw⟩)
  ·obtain ⟨x6, uu⟩ := x
   show J _ _ _ _ _ ((12, .pointer (some ⟨vb, 0, none⟩)) :: _) _
   refine J.pr (fun hF => ?_); refine J.nilCheck rfl rfl ?_
   exact J.finX rfl (fun _ hw => ⟨⟨x6, uu⟩, rfl, fun _ _ _ => rfl, hF, hw⟩)
  ·obtain ⟨x6, uu⟩ := x
   show J _ _ _ _ _ ((13, .pointer (some ⟨vb, 0, none⟩)) :: _) _
   refine J.pr (fun hF => ?_); refine J.fieldAddr Ty.fd99_1 rfl rfl ?_
   exact J.finX rfl (fun _ hw => ⟨⟨x6, uu⟩, rfl, fun _ _ _ => rfl, hF, hw⟩)
  ·obtain ⟨x6, uu⟩ := x
   show J _ _ _ _ _ ((14, .pointer (some ⟨vb, 0 + 1, none⟩)) :: _) _
   refine J.pr (fun hF => ?_); refine J.load1 (v := .map (some mb)) Ty.a97 rfl (fun w1 hw => by rw [cell_of (hw.own ((vb, vaO lv mb inc)) zm)]; rfl) rfl ?_
   exact J.finX rfl (fun _ hw => ⟨⟨x6, uu⟩, rfl, fun _ _ _ => rfl, hF, hw⟩)
  ·obtain ⟨x6, uu⟩ := x
   show J _ _ _ _ _ (_) _
   refine J.pr (fun hF => ?_); refine J.loadA (vs := cI key) Ty.a23 Ty.s23 rfl rfl (fun w1 hw => Cells.of_block (hw.own ((b3, cb (cI key) 23)) zm) rfl) rfl ?_
   exact J.finX rfl (fun _ hw => ⟨⟨x6, uu⟩, rfl, fun _ _ _ => rfl, hF, hw⟩)
  ·obtain ⟨x6, uu⟩ := x
   show J _ _ _ _ _ ((16, .agg (cI key).toArray) :: (15, .map (some mb)) :: _) _
   refine J.pr (fun hF => ?_); refine J.lookV2 Ty.u97 Ty.KI Ty.keyI Ty.zIt rfl rfl hT (fun w1 hw => hw.own ((mb, .map es ck)) zm) rfl ?_; refine J.name 17 rfl (show _ = Value.tuple #[.agg (cH O).toArray, .bool K] by rw [hO, hK]) ?_
   exact J.finX rfl (fun _ hw => ⟨⟨x6, uu⟩, rfl, fun _ _ _ => rfl, hF, hw⟩)
  ·obtain ⟨x6, uu⟩ := x
   show J _ _ _ _ _ ((17, .tuple #[.agg (cH O).toArray, .bool K]) :: _) _
   refine J.pr (fun hF => ?_); refine J.move rfl rfl ?_
   exact J.finX rfl (fun _ hw => ⟨⟨x6, uu⟩, rfl, fun _ _ _ => rfl, hF, hw⟩)
  ·obtain ⟨x6, uu⟩ := x
   show J _ _ _ _ _ ((11, .tuple #[.agg (cH O).toArray, .bool K]) :: _) _
   refine J.pr (fun hF => ?_); refine J.extract rfl rfl rfl ?_
   exact J.finX rfl (fun _ hw => ⟨⟨x6, uu⟩, rfl, fun _ _ _ => rfl, hF, hw⟩)
  ·obtain ⟨x6, uu⟩ := x
   show J _ _ _ _ _ ((11, .tuple #[.agg (cH O).toArray, .bool K]) :: _) _
   refine J.pr (fun hF => ?_); refine J.extract rfl rfl rfl ?_
   exact J.finX rfl (fun _ hw => ⟨⟨x6, uu⟩, rfl, fun _ _ _ => rfl, hF, hw⟩)
  ·obtain ⟨x6, uu⟩ := x
   show J _ _ _ _ _ (_) _
   refine J.pr (fun hF => ?_)
   have h10 : m 10 = false := by cases h : m 10 with
    | false => rfl
    | true => rw [hF h] at hm; cases hm
   refine J.alloc Ty.zIt rfl rfl (fun b6 => ?_)
   refine J.nil (JX.finB rfl (fun w1 hw => ⟨⟨⟨b6, uu⟩, rfl, fun j h1 h2 => ?_, ?_⟩, trivial⟩))
   ·match j, h1 with
    | 0, _ => (first | rfl | trivial)
    | 1, _ => (first | rfl | trivial)
    | 2, _ => (first | rfl | trivial)
    | 3, _ => (first | rfl | trivial)
    | 4, _ => (first | rfl | trivial)
    | 5, _ => (first | rfl | trivial)
    | 6, _ => (first | rfl | trivial)
    | 7, _ => (first | rfl | trivial)
    | 8, _ => (first | rfl | trivial)
    | 9, _ => exact absurd (h2.symm.trans hm) (by decide)
    | 10, _ => (first | rfl | trivial)
    | j + 11, h1 => omega
   show ((m 10 = true → true = true)) ∧ St w [vb, mb] ((bif true then [(b6, cb (cH (bif m 10 then O else zH)) 28)] else []) ++ ((b4, cb (cH zH) 28) :: (b3, cb (cI key) 23) :: (vb, vaO lv mb inc) :: (mb, .map es ck) :: [])) w1
   simp only [hm, h10, cond_true, cond_false] at hw ⊢
   exact ⟨fun _ => (by first | trivial | rfl), hw⟩
  ·obtain ⟨x6, uu⟩ := x
   show J _ _ _ _ _ ((6, .pointer (some ⟨x6, 0, none⟩)) :: (18, .agg (cH O).toArray) :: (11, .tuple #[.agg (cH O).toArray, .bool K]) :: (17, .tuple #[.agg (cH O).toArray, .bool K]) :: (16, .agg (cI key).toArray) :: (15, .map (some mb)) :: (14, .pointer (some ⟨vb, 0 + 1, none⟩)) :: (13, .pointer (some ⟨vb, 0, none⟩)) :: (12, .pointer (some ⟨vb, 0, none⟩)) :: (18, .agg (cH O).toArray) :: (6, .pointer (some ⟨x6, 0, none⟩)) :: _) _
   have hp9 : m 9 = true := predsT hp (by kernel_rfl)
   have hp9 : m 9 = true := predsT hp (by kernel_rfl)
   refine J.pr (fun hF => ?_)
   refine J.conseq (I' := St w [vb, mb] ((x6, cb (cH zH) 28) :: (b4, cb (cH zH) 28) :: (b3, cb (cI key) 23) :: (vb, vaO lv mb inc) :: (mb, .map es ck) :: [])) ?_ (fun w1 hw => by simp only [hm, hp9, cond_true, cond_false] at hw; exact hw)
   refine J.storeW (cs := cH zH) (vs := cH O) Ty.s28 rfl rfl rfl rfl rfl (one_cH hOs) .here ?_
   refine J.nil (JX.finN undef (fun w1 hw => ⟨⟨x6, uu⟩, rfl, fun j h1 h2 => ?_, ?_⟩))
   ·match j, h1 with
    | 0, _ => (first | rfl | trivial)
    | 1, _ => (first | rfl | trivial)
    | 2, _ => (first | rfl | trivial)
    | 3, _ => (first | rfl | trivial)
    | 4, _ => (first | rfl | trivial)
    | 5, _ => (first | rfl | trivial)
    | 6, _ => (first | rfl | trivial)
    | 7, _ => (first | rfl | trivial)
    | 8, _ => (first | rfl | trivial)
    | 9, _ => (first | rfl | trivial)
    | 10, _ => (first | rfl | trivial)
    | j + 11, h1 => omega
   show ((true = true → m 9 = true)) ∧ St w [vb, mb] ((bif m 9 then [(x6, cb (cH (bif true then O else zH)) 28)] else []) ++ ((b4, cb (cH zH) 28) :: (b3, cb (cI key) 23) :: (vb, vaO lv mb inc) :: (mb, .map es ck) :: [])) w1
   simp only [hm, hp9, cond_true, cond_false] at hw ⊢
   exact ⟨fun _ => (by first | trivial | rfl), hw⟩
 case htail =>
  intro x
  obtain ⟨x6, uu⟩ := x
  show J _ _ _ _ _ ((6, .pointer (some ⟨x6, 0, none⟩)) :: (19, .bool K) :: (18, .agg (cH O).toArray) :: (11, .tuple #[.agg (cH O).toArray, .bool K]) :: (17, .tuple #[.agg (cH O).toArray, .bool K]) :: (16, .agg (cI key).toArray) :: (15, .map (some mb)) :: (14, .pointer (some ⟨vb, 0 + 1, none⟩)) :: (13, .pointer (some ⟨vb, 0, none⟩)) :: (12, .pointer (some ⟨vb, 0, none⟩)) :: _) (fun w1 => ((true = true → true = true)) ∧ St w [vb, mb] ((bif true then [(x6, cb (cH (bif true then O else zH)) 28)] else []) ++ ((b4, cb (cH zH) 28) :: (b3, cb (cI key) 23) :: (vb, vaO lv mb inc) :: (mb, .map es ck) :: [])) w1)
  refine J.pr (fun hF => ?_)
  refine J.conseq (I' := St w [vb, mb] ((x6, cb (cH O) 28) :: (b4, cb (cH zH) 28) :: (b3, cb (cI key) 23) :: (vb, vaO lv mb inc) :: (mb, .map es ck) :: [])) ?_ (fun w1 hw => by simp only [cond_true] at hw; exact hw)
  refine J.assign rfl rfl ?_; refine J.nil ?_; refine JX.thenN (hK3 _ _ ?_); refine JC.seq (fun K4 hK4 => ?_); refine JC.region ?_; refine J.loadA (vs := cH O) Ty.a28 Ty.s28 rfl rfl (fun w1 hw => Cells.of_block (hw.own ((x6, cb (cH O) 28)) zm) rfl) rfl ?_; refine J.perm ([] ++ ((x6, cb (cH O) 28) :: (b4, cb (cH zH) 28) :: (b3, cb (cI key) 23) :: (vb, vaO lv mb inc) :: (mb, .map es ck) :: [])) (.refl _) ?_; refine J.callS (α := Value × List (Nat × Obj)) (V := fun y => .agg (cT O.key O.ver y.1).toArray) (Pr := fun y => Vec 5 1 y.1 (O.bs).length ((O.bs).map u8) y.2) (L := (·.2)) (l1 := []) Ty.bd47 rfl rfl (fun w1 hw => copied_spec (cH O) O.key O.ver O.bs O.sv w1 rfl (hrow.st hoff hw) hl) (fun y hy => ?_)
  obtain ⟨v9, l9⟩ := y
  try simp only at hy ⊢
  obtain ⟨a9, c9, rfl, hc9⟩ := hy.form
  refine J.perm ((b4, cb (cH zH) 28) :: ((x6, cb (cH O) 28) :: (b3, cb (cI key) 23) :: (vb, vaO lv mb inc) :: (mb, .map es ck) :: l9)) zp ?_; refine J.move rfl rfl ?_; refine J.storeW (cs := cH zH) (vs := cT O.key O.ver (.slice a9 O.bs.length c9)) (l' := (b4, cb (cT O.key O.ver (.slice a9 O.bs.length c9)) 28) :: ((x6, cb (cH O) 28) :: (b3, cb (cI key) 23) :: (vb, vaO lv mb inc) :: (mb, .map es ck) :: l9)) Ty.s28 rfl rfl rfl rfl rfl one_cT .here ?_; refine J.assign rfl rfl ?_; refine J.nil ?_; refine JX.thenN (hK4 _ _ ?_); refine JC.ret ?_; refine JX.retCT (vs := cT O.key O.ver (.slice a9 O.bs.length c9)) rfl rfl rfl Ty.a28 Ty.s28 rfl (fun w1 hw => Cells.of_block (hw.own (b4, cb (cT O.key O.ver (.slice a9 O.bs.length c9)) 28) zm) rfl) (fun w1 hw => ?_)
  exact ⟨(_, l9), rfl, hy, (hw.perm (zp : List.Perm _ ([(b4, cb (cT O.key O.ver (.slice a9 O.bs.length c9)) 28), (x6, cb (cH O) 28), (b3, cb (cI key) 23)] ++ (l9 ++ [(vb, vaO lv mb inc), (mb, .map es ck)])))).drop (List.sublist_append_right _ _)⟩

end Go.Proofs.Ytoaenmlhehcjfaa
/-
 The vault's Put, Merge: contracts.
-/
namespace Go.Proofs.Ytoaenmlhehcjfaa
open Go.J Go.RowKit
set_option linter.unusedVariables false
set_option linter.unusedSimpArgs false
set_option maxRecDepth 8000
def zItV : ItV := ⟨zI, zV, []⟩
def verN (L : List ItV) (key : IDV) : Int := ((getV L key).getD zItV).ver.n
theorem old_it (L : List HI) (key : IDV) : (getV (L.map HI.it) key).getD zItV = ((hget L key).getD zH).it := by
 rw [hget_it]
 cases hget L key <;> rfl
theorem verN_it (L : List HI) (key : IDV) : verN (L.map HI.it) key = ((hget L key).getD zH).ver.n := by
 unfold verN
 rw [old_it]; rfl
/-- what putting does -/
def vputP (n : Nat) (q : LogP) (down : Bool) (σ : DS) (L : List ItV) (key : IDV) (val : List UInt8) (who : IDV) : Int × Option ItV × LogP × Bool × DS :=
 if 64 < val.length then (4, none, q, down, σ) else
 if verN L key = 4611686018427387903 then (5, none, q, down, σ) else
 match appendP n q down σ (formB ⟨key, ⟨verN L key + 1, who⟩, val⟩) with
 | (e, q', dn, σ') => if e = 0 then (0, some ⟨key, ⟨verN L key + 1, who⟩, val⟩, q', dn, σ') else (e, none, q', dn, σ')
/-- what merging does -/
def vmergeP (n : Nat) (q : LogP) (down : Bool) (σ : DS) (L : List ItV) (x : ItV) : Bool × Int × LogP × Bool × DS :=
 if x.ver.n < 1 ∨ 4611686018427387904 ≤ x.ver.n then (false, 1, q, down, σ) else
 if 64 < x.bs.length then (false, 4, q, down, σ) else
 if (getV L x.key).isSome = true ∧ newB x.ver ((getV L x.key).getD zItV).ver = false then (false, 0, q, down, σ) else
 match appendP n q down σ (formB x) with
 | (e, q', dn, σ') => (decide (e = 0), e, q', dn, σ')
inductive PutR where
 | bad (e : Int) (q : LogP) (dn : Bool) (σ : DS)
 | ok (h : HI) (y : Value) (ly : List (Nat × Obj)) (es : Array MapEntry) (ck : Nat) (q : LogP) (dn : Bool) (σ : DS)
def PutR.val : PutR → Value
 | .bad e _ _ _ => .tuple #[.agg (cH zH).toArray, .int .i64 e]
 | .ok h y _ _ _ _ _ _ => .tuple #[.agg (cT h.key h.ver y).toArray, .int .i64 0]
def PutR.lst (vb mb lb d s n inc : Nat) (es : Array MapEntry) (ck : Nat) : PutR → List (Nat × Obj)
 | .bad _ q dn σ => vltB vb mb lb d s n q dn inc es ck σ
 | .ok h _ ly es' ck' q dn σ => vltB vb mb lb d s n q dn inc es' ck' σ ++ (h.lp ++ ly)
def PutR.Pr (n : Nat) (q : LogP) (down : Bool) (σ : DS) (L : List HI) (key : IDV) (val : List UInt8) (who : IDV) : PutR → Prop
 | .bad e q' dn σ' => vputP n q down σ (L.map HI.it) key val who = (e, none, q', dn, σ') ∧ e ≠ 0
 | .ok h y ly es' ck' q' dn σ' => vputP n q down σ (L.map HI.it) key val who = (0, some h.it, q', dn, σ') ∧ (okV h.ver.n ∧ Vec 5 1 h.sv h.bs.length (h.bs.map u8) h.lp) ∧ Vec 5 1 y h.bs.length (h.bs.map u8) ly ∧ Vm (hset L h) es' ck'
inductive MerR where
 | no (e : Int) (q : LogP) (dn : Bool) (σ : DS)
 | yes (h : HI) (es : Array MapEntry) (ck : Nat) (q : LogP) (dn : Bool) (σ : DS)
def MerR.val : MerR → Value
 | .no e _ _ _ => .tuple #[.bool false, .int .i64 e]
 | .yes _ _ _ _ _ _ => .tuple #[.bool true, .int .i64 0]
def MerR.lst (vb mb lb d s n inc : Nat) (es : Array MapEntry) (ck : Nat) : MerR → List (Nat × Obj)
 | .no _ q dn σ => vltB vb mb lb d s n q dn inc es ck σ
 | .yes h es' ck' q dn σ => vltB vb mb lb d s n q dn inc es' ck' σ ++ h.lp
def MerR.Pr (n : Nat) (q : LogP) (down : Bool) (σ : DS) (L : List HI) (x : ItV) : MerR → Prop
 | .no e q' dn σ' => vmergeP n q down σ (L.map HI.it) x = (false, e, q', dn, σ')
 | .yes h es' ck' q' dn σ' => vmergeP n q down σ (L.map HI.it) x = (true, 0, q', dn, σ') ∧ h.it = x ∧ (okV h.ver.n ∧ Vec 5 1 h.sv h.bs.length (h.bs.map u8) h.lp) ∧ Vm (hset L h) es' ck'

set_option maxHeartbeats 2000000 in
theorem vput_spec (vb mb lb d s n inc : Nat) (q : LogP) (down : Bool) (B : List UInt8) (p k : Int) (L : List HI) (es : Array MapEntry) (ck : Nat) (hT : Vm L es ck) (hV : VOK L) (hI : LogI n q ⟨B, p, k⟩) (hn : n ≤ 4096) (hk : 0 ≤ k) (hk2 : k < 4611686018427380000) (key who : IDV) (val : List UInt8) (vv : Value) (w : World) (hw0 : Own w (vltB vb mb lb d s n q down inc es ck ⟨B, p, k⟩)) (hrv : Row w vv val.length (val.map u8)) (hoff : Off [vb, mb, lb, d, s] vv (val.map u8)) (hlv : val.length ≤ 140737488351232) :
  Calls Try.prog 24 [.pointer (some ⟨vb, 0, none⟩), .agg (cI key).toArray, vv, .agg (cI who).toArray].toArray w fun r w' => ∃ z : PutR, r = .returned z.val ∧ z.Pr n q down ⟨B, p, k⟩ L key val who ∧ St w [vb, mb, lb, d, s] (z.lst vb mb lb d s n inc es ck) w' := by
 obtain ⟨hn3, hgl, hul, hcl_, hrl⟩ := openP_len hI.open_ hn
 obtain ⟨a, c, rfl, hc, _⟩ := id hrv
 obtain ⟨O, hO⟩ : ∃ o, (hget L key).getD zH = o := ⟨_, rfl⟩
 obtain ⟨K, hK⟩ : ∃ o, (hget L key).isSome = o := ⟨_, rfl⟩
 obtain ⟨ao, co, hOs⟩ := hV.old key
 rw [hO] at hOs
 have hon := hV.okn key
 rw [hO] at hon
 obtain ⟨hon1, hon2⟩ := hon
 refine calls_of_J (args := [.pointer (some ⟨vb, 0, none⟩), .agg (cI key).toArray, .slice a val.length c, .agg (cI who).toArray]) (e := [(0, .pointer (some ⟨vb, 0, none⟩)), (1, .agg (cI key).toArray), (2, .slice a val.length c), (3, .agg (cI who).toArray)]) Try.func24 rfl rfl ⟨rfl, rfl, rfl, rfl, trivial⟩ (hw0.st) ?_; refine JC.seq (fun K0 hK0 => ?_); refine JC.region ?_; refine J.box rfl rfl rfl (fun b5 => ?_); refine J.box rfl rfl rfl (fun b7 => ?_); refine J.alloc Ty.zIt rfl rfl (fun b8 => ?_); refine J.assign rfl rfl ?_; refine J.nil ?_; refine JX.thenN (hK0 _ _ ?_); refine JC.seq (fun K1 hK1 => ?_); refine JC.seq (fun K2 hK2 => ?_); refine JC.region ?_; refine J.move rfl rfl ?_; refine J.eqNil Ty.u38 rfl rfl rfl ?_; refine J.nil ?_; refine JX.thenN (hK2 _ _ ?_)
 first | refine JC.condF rfl ?_ | refine JC.cond rfl (fun h => by first | (exfalso; simp at h; omega) | (simp at h)) (fun _ => ?_)
 refine JC.skip ?_; refine JX.thenN (hK1 _ _ ?_); refine JC.seq (fun K3 hK3 => ?_)
 apply JC.drawX (α := Nat × Unit) 8 (fun x => match x with | ⟨xu, uu⟩ => [.pointer (some ⟨vb, 0, none⟩), .pointer (some ⟨vb, 0, none⟩), .pointer (some ⟨vb, 0 + 1, none⟩), .map (some mb), .agg (cI key).toArray, .agg (cH O).toArray, .agg (cV O.ver).toArray, .int .i64 O.ver.n]) (fun m x => match x with | ⟨xu, uu⟩ => fun w1 => (True) ∧ St w [vb, mb, lb, d, s] ((b8, cb (cH zH) 28) :: (b7, cb (cI who) 23) :: (b5, cb (cI key) 23) :: (vb, vaO (.pointer (some ⟨lb, 0, none⟩)) mb ((inc : Nat) : Int)) :: (mb, .map es ck) :: (lb, lgO d q down) :: (d, dkO s n p k) :: (s, dkS B) :: []) w1) Ty.mixed rfl rfl rfl (by kernel_rfl) rfl rfl ?hinit ?hstep ?htail
 case hinit => exact fun w1 hw => ⟨(0, ()), trivial, hw.drew⟩
 case hstep =>
  refine ⟨fun m x hm hp => ?_, fun m x hm hp => ?_, fun m x hm hp => ?_, fun m x hm hp => ?_, fun m x hm hp => ?_, fun m x hm hp => ?_, fun m x hm hp => ?_, fun m x hm hp => ?_, trivial⟩
  ·obtain ⟨xu, uu⟩ := x
   show J _ _ _ _ _ (_) _
   refine J.pr (fun hF => ?_); refine J.move rfl rfl ?_
   exact J.finX rfl (fun _ hw => ⟨⟨xu, uu⟩, rfl, fun _ _ _ => rfl, hF, hw⟩)
  ·obtain ⟨xu, uu⟩ := x
   show J _ _ _ _ _ ((16, .pointer (some ⟨vb, 0, none⟩)) :: _) _
   refine J.pr (fun hF => ?_); refine J.nilCheck rfl rfl ?_
   exact J.finX rfl (fun _ hw => ⟨⟨xu, uu⟩, rfl, fun _ _ _ => rfl, hF, hw⟩)
  ·obtain ⟨xu, uu⟩ := x
   show J _ _ _ _ _ ((17, .pointer (some ⟨vb, 0, none⟩)) :: _) _
   refine J.pr (fun hF => ?_); refine J.fieldAddr Ty.fd99_1 rfl rfl ?_
   exact J.finX rfl (fun _ hw => ⟨⟨xu, uu⟩, rfl, fun _ _ _ => rfl, hF, hw⟩)
  ·obtain ⟨xu, uu⟩ := x
   show J _ _ _ _ _ ((18, .pointer (some ⟨vb, 0 + 1, none⟩)) :: _) _
   refine J.pr (fun hF => ?_); refine J.load1 (v := .map (some mb)) Ty.a97 rfl (fun w1 hw => by rw [cell_of (hw.own ((vb, vaO (.pointer (some ⟨lb, 0, none⟩)) mb ((inc : Nat) : Int))) zm)]; rfl) rfl ?_
   exact J.finX rfl (fun _ hw => ⟨⟨xu, uu⟩, rfl, fun _ _ _ => rfl, hF, hw⟩)
  ·obtain ⟨xu, uu⟩ := x
   show J _ _ _ _ _ (_) _
   refine J.pr (fun hF => ?_); refine J.loadA (vs := cI key) Ty.a23 Ty.s23 rfl rfl (fun w1 hw => Cells.of_block (hw.own ((b5, cb (cI key) 23)) zm) rfl) rfl ?_
   exact J.finX rfl (fun _ hw => ⟨⟨xu, uu⟩, rfl, fun _ _ _ => rfl, hF, hw⟩)
  ·obtain ⟨xu, uu⟩ := x
   show J _ _ _ _ _ ((20, .agg (cI key).toArray) :: (19, .map (some mb)) :: _) _
   refine J.pr (fun hF => ?_); refine J.lookV1 Ty.u97 Ty.KI Ty.keyI Ty.zIt rfl rfl hT (fun w1 hw => hw.own (mb, .map es ck) zm) rfl ?_; refine J.name 21 rfl (show _ = Value.agg (cH O).toArray by rw [hO]) ?_
   exact J.finX rfl (fun _ hw => ⟨⟨xu, uu⟩, rfl, fun _ _ _ => rfl, hF, hw⟩)
  ·obtain ⟨xu, uu⟩ := x
   show J _ _ _ _ _ ((21, .agg (cH O).toArray) :: _) _
   refine J.pr (fun hF => ?_); refine J.fieldA Ty.ffIt Ty.a25 Ty.s25 rfl (vs := cV O.ver) rfl rfl ?_
   exact J.finX rfl (fun _ hw => ⟨⟨xu, uu⟩, rfl, fun _ _ _ => rfl, hF, hw⟩)
  ·obtain ⟨xu, uu⟩ := x
   show J _ _ _ _ _ ((22, .agg (cV O.ver).toArray) :: _) _
   refine J.pr (fun hF => ?_); refine J.field1 (v := .int .i64 O.ver.n) Ty.ffVr Ty.a2 rfl rfl rfl ?_
   exact J.finX rfl (fun _ hw => ⟨⟨xu, uu⟩, rfl, fun _ _ _ => rfl, hF, hw⟩)
 case htail =>
  intro x
  obtain ⟨xu, uu⟩ := x
  show J _ _ _ _ _ ((23, .int .i64 O.ver.n) :: (22, .agg (cV O.ver).toArray) :: (21, .agg (cH O).toArray) :: (20, .agg (cI key).toArray) :: (19, .map (some mb)) :: (18, .pointer (some ⟨vb, 0 + 1, none⟩)) :: (17, .pointer (some ⟨vb, 0, none⟩)) :: (16, .pointer (some ⟨vb, 0, none⟩)) :: _) (fun w1 => (True) ∧ St w [vb, mb, lb, d, s] ((b8, cb (cH zH) 28) :: (b7, cb (cI who) 23) :: (b5, cb (cI key) 23) :: (vb, vaO (.pointer (some ⟨lb, 0, none⟩)) mb ((inc : Nat) : Int)) :: (mb, .map es ck) :: (lb, lgO d q down) :: (d, dkO s n p k) :: (s, dkS B) :: []) w1)
  refine J.pr (fun hF => ?_); refine J.assign rfl rfl ?_; refine J.nil ?_; refine JX.thenN (hK3 _ _ ?_); refine JC.seq (fun K4 hK4 => ?_); refine JC.block ?_; refine JC.seq (fun K5 hK5 => ?_); refine JC.region ?_; refine J.move rfl rfl ?_; refine J.lenS rfl Ty.u26 rfl rfl ?_; refine J.bin rfl rfl rfl rfl ?_; refine J.assign rfl rfl ?_; refine J.nil ?_; refine JX.thenN (hK5 _ _ ?_); refine JC.cond rfl (fun h1 => ?_) (fun h1 => ?_)
  ·have hg : vputP n q down ⟨B, p, k⟩ (L.map HI.it) key val who = (4, none, q, down, ⟨B, p, k⟩) := by unfold vputP; rw [if_pos (by simp at h1; omega)]
   refine JC.seq (fun K6 hK6 => ?_); refine JC.region ?_; refine J.buildS (cs := cH zH) Ty.pl28 Ty.zIt rfl (by kernel_rfl) rfl ?_; refine J.storeW (cs := cH zH) (vs := cH zH) Ty.s28 rfl rfl rfl rfl rfl (one_cH (x := zH) rfl) zu ?_; refine J.assign rfl rfl ?_; refine J.nil ?_; refine JX.thenN (hK6 _ _ ?_); refine JC.ret ?_; refine JX.blockR ?_; refine JX.thenR ?_; refine JX.retCT (vs := cH zH) rfl rfl rfl Ty.a28 Ty.s28 rfl (fun w1 hw => Cells.of_block (hw.own ((b8, cb (cH zH) 28)) zm) rfl) (fun w1 hw => ?_)
   exact ⟨.bad 4 q down ⟨B, p, k⟩, rfl, ⟨hg, by decide⟩, (hw.perm (zp : List.Perm _ ([(b8, cb (cH zH) 28), (b7, cb (cI who) 23), (b5, cb (cI key) 23)] ++ (vltB vb mb lb d s n q down inc es ck ⟨B, p, k⟩)))).drop (List.sublist_append_right _ _)⟩
  ·have hv64 : ¬ 64 < val.length := by simp at h1; omega
   refine JC.seq (fun K7 hK7 => ?_); refine JC.region ?_; refine J.move rfl rfl ?_; refine J.bin rfl rfl rfl rfl ?_; refine J.assign rfl rfl ?_; refine J.nil ?_; refine JX.thenN (hK7 _ _ ?_); refine JC.cond rfl (fun h2 => ?_) (fun h2 => ?_)
   ·have hg : vputP n q down ⟨B, p, k⟩ (L.map HI.it) key val who = (5, none, q, down, ⟨B, p, k⟩) := by unfold vputP; rw [if_neg hv64, verN_it, hO, if_pos (by simpa using h2)]
    refine JC.seq (fun K8 hK8 => ?_); refine JC.region ?_; refine J.buildS (cs := cH zH) Ty.pl28 Ty.zIt rfl (by kernel_rfl) rfl ?_; refine J.storeW (cs := cH zH) (vs := cH zH) Ty.s28 rfl rfl rfl rfl rfl (one_cH (x := zH) rfl) zu ?_; refine J.assign rfl rfl ?_; refine J.nil ?_; refine JX.thenN (hK8 _ _ ?_); refine JC.ret ?_; refine JX.blockR ?_; refine JX.thenR ?_; refine JX.retCT (vs := cH zH) rfl rfl rfl Ty.a28 Ty.s28 rfl (fun w1 hw => Cells.of_block (hw.own ((b8, cb (cH zH) 28)) zm) rfl) (fun w1 hw => ?_)
    exact ⟨.bad 5 q down ⟨B, p, k⟩, rfl, ⟨hg, by decide⟩, (hw.perm (zp : List.Perm _ ([(b8, cb (cH zH) 28), (b7, cb (cI who) 23), (b5, cb (cI key) 23)] ++ (vltB vb mb lb d s n q down inc es ck ⟨B, p, k⟩)))).drop (List.sublist_append_right _ _)⟩
   ·have hne : ¬ O.ver.n = 4611686018427387903 := by simpa using h2
    refine JC.skip ?_; refine JX.blockN ?_; refine JX.thenN (hK4 _ _ ?_); refine JC.seq (fun K9 hK9 => ?_); refine JC.region ?_; refine J.loadA (vs := cI key) Ty.a23 Ty.s23 rfl rfl (fun w1 hw => Cells.of_block (hw.own ((b5, cb (cI key) 23)) zm) rfl) rfl ?_; refine J.move rfl rfl ?_; refine J.addN rfl rfl (by omega) (by omega) rfl ?_; refine J.loadA (vs := cI who) Ty.a23 Ty.s23 rfl rfl (fun w1 hw => Cells.of_block (hw.own ((b7, cb (cI who) 23)) zm) rfl) rfl ?_; refine J.buildS (cs := cV ⟨O.ver.n + 1, who⟩) Ty.pl25 Ty.zVr rfl (by kernel_rfl) rfl ?_; refine J.move rfl rfl ?_; refine J.buildS (cs := cT key ⟨O.ver.n + 1, who⟩ (.slice a val.length c)) Ty.pl28 Ty.zIt rfl (by kernel_rfl) rfl ?_; refine J.perm ([] ++ ((b8, cb (cH zH) 28) :: (b7, cb (cI who) 23) :: (b5, cb (cI key) 23) :: (vb, vaO (.pointer (some ⟨lb, 0, none⟩)) mb ((inc : Nat) : Int)) :: (mb, .map es ck) :: (lb, lgO d q down) :: (d, dkO s n p k) :: (s, dkS B) :: [])) (.refl _) ?_; refine J.callS (α := Value × List (Nat × Obj)) (V := fun y => .agg (cT key ⟨O.ver.n + 1, who⟩ y.1).toArray) (Pr := fun y => Vec 5 1 y.1 (val).length ((val).map u8) y.2) (L := (·.2)) (l1 := []) Ty.bd47 rfl rfl (fun w1 hw => copied_spec (cT key ⟨O.ver.n + 1, who⟩ (.slice a val.length c)) key ⟨O.ver.n + 1, who⟩ val _ w1 rfl (hrv.st hoff hw) (by omega)) (fun y hv40 => ?_)
    obtain ⟨v40, l40⟩ := y
    try simp only at hv40 ⊢
    obtain ⟨a40, c40, rfl, hc40⟩ := hv40.form
    refine J.alloc Ty.zIt rfl rfl (fun b11 => ?_); refine J.storeW (cs := cH zH) (vs := cT key ⟨O.ver.n + 1, who⟩ (.slice a40 val.length c40)) Ty.s28 rfl rfl rfl rfl rfl one_cT .here ?_; refine J.perm ((b11, cb (cT key ⟨O.ver.n + 1, who⟩ (.slice a40 val.length c40)) 28) :: (b8, cb (cH zH) 28) :: (b7, cb (cI who) 23) :: (b5, cb (cI key) 23) :: (l40 ++ ((vb, vaO (.pointer (some ⟨lb, 0, none⟩)) mb ((inc : Nat) : Int)) :: (mb, .map es ck) :: (lb, lgO d q down) :: (d, dkO s n p k) :: (s, dkS B) :: []))) zp ?_; refine J.nil ?_; refine JX.thenN (hK9 _ _ ?_); refine JC.seq (fun K10 hK10 => ?_); refine JC.seq (fun K11 hK11 => ?_)
    apply JC.drawX (α := Value × List (Nat × Obj)) 6 (fun x => match x with | ⟨v46, l46⟩ => [.pointer (some ⟨vb, 0, none⟩), .pointer (some ⟨vb, 0, none⟩), .pointer (some ⟨vb, 0 + 0, none⟩), .pointer (some ⟨lb, 0, none⟩), .agg (cT key ⟨O.ver.n + 1, who⟩ (.slice a40 val.length c40)).toArray, v46]) (fun m x => match x with | ⟨v46, l46⟩ => fun w1 => ((m 5 = true → Vec 5 1 v46 (formB ⟨key, ⟨O.ver.n + 1, who⟩, val⟩).length ((formB ⟨key, ⟨O.ver.n + 1, who⟩, val⟩).map u8) l46)) ∧ St w [vb, mb, lb, d, s] ((bif m 5 then l46 else []) ++ ((b11, cb (cT key ⟨O.ver.n + 1, who⟩ (.slice a40 val.length c40)) 28) :: (b8, cb (cH zH) 28) :: (b7, cb (cI who) 23) :: (b5, cb (cI key) 23) :: (l40 ++ ((vb, vaO (.pointer (some ⟨lb, 0, none⟩)) mb ((inc : Nat) : Int)) :: (mb, .map es ck) :: (lb, lgO d q down) :: (d, dkO s n p k) :: (s, dkS B) :: [])))) w1) Ty.mixed rfl rfl rfl (by kernel_rfl) rfl rfl ?hinit ?hstep ?htail
    case hinit => exact fun w1 hw => ⟨(.slice none 0 0, []), fun h => (by cases h), hw.drew⟩
    case hstep =>
     refine ⟨fun m x hm hp => ?_, fun m x hm hp => ?_, fun m x hm hp => ?_, fun m x hm hp => ?_, fun m x hm hp => ?_, fun m x hm hp => ?_, trivial⟩
     ·obtain ⟨v46, l46⟩ := x
      show J _ _ _ _ _ (_) _
      refine J.pr (fun hF => ?_); refine J.move rfl rfl ?_
      exact J.finX rfl (fun _ hw => ⟨⟨v46, l46⟩, rfl, fun _ _ _ => rfl, hF, hw⟩)
     ·obtain ⟨v46, l46⟩ := x
      show J _ _ _ _ _ ((41, .pointer (some ⟨vb, 0, none⟩)) :: _) _
      refine J.pr (fun hF => ?_); refine J.nilCheck rfl rfl ?_
      exact J.finX rfl (fun _ hw => ⟨⟨v46, l46⟩, rfl, fun _ _ _ => rfl, hF, hw⟩)
     ·obtain ⟨v46, l46⟩ := x
      show J _ _ _ _ _ ((42, .pointer (some ⟨vb, 0, none⟩)) :: _) _
      refine J.pr (fun hF => ?_); refine J.fieldAddr Ty.fd99_0 rfl rfl ?_
      exact J.finX rfl (fun _ hw => ⟨⟨v46, l46⟩, rfl, fun _ _ _ => rfl, hF, hw⟩)
     ·obtain ⟨v46, l46⟩ := x
      show J _ _ _ _ _ ((43, .pointer (some ⟨vb, 0 + 0, none⟩)) :: _) _
      refine J.pr (fun hF => ?_); refine J.load1 (v := .pointer (some ⟨lb, 0, none⟩)) Ty.a94 rfl (fun w1 hw => by rw [cell_of (hw.own ((vb, vaO (.pointer (some ⟨lb, 0, none⟩)) mb ((inc : Nat) : Int))) zm)]; rfl) rfl ?_
      exact J.finX rfl (fun _ hw => ⟨⟨v46, l46⟩, rfl, fun _ _ _ => rfl, hF, hw⟩)
     ·obtain ⟨v46, l46⟩ := x
      show J _ _ _ _ _ (_) _
      refine J.pr (fun hF => ?_); refine J.loadA (vs := cT key ⟨O.ver.n + 1, who⟩ (.slice a40 val.length c40)) Ty.a28 Ty.s28 rfl rfl (fun w1 hw => Cells.of_block (hw.own ((b11, cb (cT key ⟨O.ver.n + 1, who⟩ (.slice a40 val.length c40)) 28)) zm) rfl) rfl ?_
      exact J.finX rfl (fun _ hw => ⟨⟨v46, l46⟩, rfl, fun _ _ _ => rfl, hF, hw⟩)
     ·obtain ⟨v46, l46⟩ := x
      show J _ _ _ _ _ ((45, .agg (cT key ⟨O.ver.n + 1, who⟩ (.slice a40 val.length c40)).toArray) :: _) _
      refine J.pr (fun hF => ?_)
      refine J.conseq (I' := St w [vb, mb, lb, d, s] ((b11, cb (cT key ⟨O.ver.n + 1, who⟩ (.slice a40 val.length c40)) 28) :: (b8, cb (cH zH) 28) :: (b7, cb (cI who) 23) :: (b5, cb (cI key) 23) :: (l40 ++ ((vb, vaO (.pointer (some ⟨lb, 0, none⟩)) mb ((inc : Nat) : Int)) :: (mb, .map es ck) :: (lb, lgO d q down) :: (d, dkO s n p k) :: (s, dkS B) :: [])))) ?_ (fun w1 hw => by simp only [hm, cond_false, List.nil_append] at hw; exact hw)
      refine J.perm ([] ++ ((b11, cb (cT key ⟨O.ver.n + 1, who⟩ (.slice a40 val.length c40)) 28) :: (b8, cb (cH zH) 28) :: (b7, cb (cI who) 23) :: (b5, cb (cI key) 23) :: (l40 ++ ((vb, vaO (.pointer (some ⟨lb, 0, none⟩)) mb ((inc : Nat) : Int)) :: (mb, .map es ck) :: (lb, lgO d q down) :: (d, dkO s n p k) :: (s, dkS B) :: [])))) (.refl _) ?_; refine J.callS (α := Value × List (Nat × Obj)) (V := (·.1)) (Pr := fun xo => Vec 5 1 xo.1 (formB ⟨key, ⟨O.ver.n + 1, who⟩, val⟩).length ((formB ⟨key, ⟨O.ver.n + 1, who⟩, val⟩).map u8) xo.2) (L := (·.2)) (l1 := []) Ty.bd11 rfl rfl (fun w1 hw => form_spec (cT key ⟨O.ver.n + 1, who⟩ (.slice a40 val.length c40)) key ⟨O.ver.n + 1, who⟩ val _ w1 rfl (vec_rowM hv40 hw (fun q hq => by simp [hq])) (by omega) (by simp only; omega) (by simp only; omega)) (fun xo hvn => ?_)
      obtain ⟨vn, ln⟩ := xo
      try simp only at hvn ⊢
      refine J.nil (JX.finB rfl (fun w1 hw => ⟨⟨⟨vn, ln⟩, rfl, fun j h1 h2 => ?_, ?_⟩, trivial⟩))
      ·match j, h1 with
       | 0, _ => (first | rfl | trivial)
       | 1, _ => (first | rfl | trivial)
       | 2, _ => (first | rfl | trivial)
       | 3, _ => (first | rfl | trivial)
       | 4, _ => (first | rfl | trivial)
       | 5, _ => exact absurd (h2.symm.trans hm) (by decide)
       | j + 6, h1 => omega
      show ((true = true → Vec 5 1 vn (formB ⟨key, ⟨O.ver.n + 1, who⟩, val⟩).length ((formB ⟨key, ⟨O.ver.n + 1, who⟩, val⟩).map u8) ln)) ∧ St w [vb, mb, lb, d, s] ((bif true then ln else []) ++ ((b11, cb (cT key ⟨O.ver.n + 1, who⟩ (.slice a40 val.length c40)) 28) :: (b8, cb (cH zH) 28) :: (b7, cb (cI who) 23) :: (b5, cb (cI key) 23) :: (l40 ++ ((vb, vaO (.pointer (some ⟨lb, 0, none⟩)) mb ((inc : Nat) : Int)) :: (mb, .map es ck) :: (lb, lgO d q down) :: (d, dkO s n p k) :: (s, dkS B) :: [])))) w1
      simp only [cond_true] at hw ⊢
      exact ⟨fun _ => hvn, hw⟩
    case htail =>
     intro x
     obtain ⟨v46, l46⟩ := x
     show J _ _ _ _ _ ((46, v46) :: (45, .agg (cT key ⟨O.ver.n + 1, who⟩ (.slice a40 val.length c40)).toArray) :: (44, .pointer (some ⟨lb, 0, none⟩)) :: (43, .pointer (some ⟨vb, 0 + 0, none⟩)) :: (42, .pointer (some ⟨vb, 0, none⟩)) :: (41, .pointer (some ⟨vb, 0, none⟩)) :: _) (fun w1 => ((true = true → Vec 5 1 v46 (formB ⟨key, ⟨O.ver.n + 1, who⟩, val⟩).length ((formB ⟨key, ⟨O.ver.n + 1, who⟩, val⟩).map u8) l46)) ∧ St w [vb, mb, lb, d, s] ((bif true then l46 else []) ++ ((b11, cb (cT key ⟨O.ver.n + 1, who⟩ (.slice a40 val.length c40)) 28) :: (b8, cb (cH zH) 28) :: (b7, cb (cI who) 23) :: (b5, cb (cI key) 23) :: (l40 ++ ((vb, vaO (.pointer (some ⟨lb, 0, none⟩)) mb ((inc : Nat) : Int)) :: (mb, .map es ck) :: (lb, lgO d q down) :: (d, dkO s n p k) :: (s, dkS B) :: [])))) w1)
     refine J.pr (fun hF => ?_)
     have hv46 := hF rfl
     have hfl := formB_le ⟨key, ⟨O.ver.n + 1, who⟩, val⟩
     try simp only at hfl
     obtain ⟨a46, c46, rfl, hc46⟩ := hv46.form
     refine J.conseq (I' := St w [vb, mb, lb, d, s] (l46 ++ ((b11, cb (cT key ⟨O.ver.n + 1, who⟩ (.slice a40 val.length c40)) 28) :: (b8, cb (cH zH) 28) :: (b7, cb (cI who) 23) :: (b5, cb (cI key) 23) :: (l40 ++ ((vb, vaO (.pointer (some ⟨lb, 0, none⟩)) mb ((inc : Nat) : Int)) :: (mb, .map es ck) :: (lb, lgO d q down) :: (d, dkO s n p k) :: (s, dkS B) :: []))))) ?_ (fun w1 hw => by simp only [cond_true] at hw; exact hw)
     obtain ⟨⟨e9, q9, dn9, σ9⟩, hx9⟩ : ∃ x, appendP n q down ⟨B, p, k⟩ (formB ⟨key, ⟨O.ver.n + 1, who⟩, val⟩) = x := ⟨_, rfl⟩
     refine J.perm ([(lb, lgO d q down), (d, dkO s n p k), (s, dkS B)] ++ (l46 ++ ((b11, cb (cT key ⟨O.ver.n + 1, who⟩ (.slice a40 val.length c40)) 28) :: (b8, cb (cH zH) 28) :: (b7, cb (cI who) 23) :: (b5, cb (cI key) 23) :: (l40 ++ ((vb, vaO (.pointer (some ⟨lb, 0, none⟩)) mb ((inc : Nat) : Int)) :: (mb, .map es ck) :: []))))) zp ?_; refine J.callT (v := .int .i64 e9) (L := [(lb, lgO d q9 dn9), (d, dkO s n σ9.p σ9.k), (s, dkS σ9.B)]) Ty.bd46 rfl rfl (fun w1 hw => append_all lb d s n q down B (formB ⟨key, ⟨O.ver.n + 1, who⟩, val⟩) p k a46 _ c46 w1 (St.owns hw) hI.len hn hn3 hgl hul hcl_ hk hk2 hI.p rfl (by omega) (vec_rowM hv46 hw (fun q hq => by simp [hq])) (vec_offM hv46 (fun p0 hp0 => St.off (l1 := [(lb, lgO d q down), (d, dkO s n p k), (s, dkS B)]) hw (o := p0.2) (by simp [hp0]))) hx9) ?_; refine J.perm ((b11, cb (cT key ⟨O.ver.n + 1, who⟩ (.slice a40 val.length c40)) 28) :: (b8, cb (cH zH) 28) :: (b7, cb (cI who) 23) :: (b5, cb (cI key) 23) :: (vb, vaO (.pointer (some ⟨lb, 0, none⟩)) mb ((inc : Nat) : Int)) :: (mb, .map es ck) :: (lb, lgO d q9 dn9) :: (d, dkO s n σ9.p σ9.k) :: (s, dkS σ9.B) :: (l46 ++ l40)) zp ?_; refine J.assign rfl rfl ?_; refine J.nil ?_; refine JX.thenN (hK11 _ _ ?_); refine JC.seq (fun K12 hK12 => ?_); refine JC.region ?_; refine J.move rfl rfl ?_; refine J.bin rfl rfl rfl rfl ?_; refine J.nil ?_; refine JX.thenN (hK12 _ _ ?_); refine JC.cond rfl (fun h3 => ?_) (fun h3 => ?_)
     ·have he9 : e9 ≠ 0 := by simpa using h3
      have hg : vputP n q down ⟨B, p, k⟩ (L.map HI.it) key val who = (e9, none, q9, dn9, σ9) := by unfold vputP; rw [if_neg hv64, verN_it, hO, if_neg hne, hx9]; simp only; rw [if_neg he9]
      refine JC.seq (fun K13 hK13 => ?_); refine JC.region ?_; refine J.buildS (cs := cH zH) Ty.pl28 Ty.zIt rfl (by kernel_rfl) rfl ?_; refine J.move rfl rfl ?_; refine J.storeW (cs := cH zH) (vs := cH zH) Ty.s28 rfl rfl rfl rfl rfl (one_cH (x := zH) rfl) zu ?_; refine J.assign rfl rfl ?_; refine J.nil ?_; refine JX.thenN (hK13 _ _ ?_); refine JC.ret ?_; refine JX.thenR ?_; refine JX.retCT (vs := cH zH) rfl rfl rfl Ty.a28 Ty.s28 rfl (fun w1 hw => Cells.of_block (hw.own ((b8, cb (cH zH) 28)) zm) rfl) (fun w1 hw => ?_)
      exact ⟨.bad e9 q9 dn9 σ9, rfl, ⟨hg, he9⟩, (hw.perm (zp : List.Perm _ (((b11, cb (cT key ⟨O.ver.n + 1, who⟩ (.slice a40 val.length c40)) 28) :: (b8, cb (cH zH) 28) :: (b7, cb (cI who) 23) :: (b5, cb (cI key) 23) :: (l46 ++ l40)) ++ (vltB vb mb lb d s n q9 dn9 inc es ck σ9)))).drop (List.sublist_append_right _ _)⟩
     ·have he9 : e9 = 0 := by simpa using h3
      have hg : vputP n q down ⟨B, p, k⟩ (L.map HI.it) key val who = (0, some ⟨key, ⟨O.ver.n + 1, who⟩, val⟩, q9, dn9, σ9) := by unfold vputP; rw [if_neg hv64, verN_it, hO, if_neg hne, hx9]; simp only; rw [if_pos he9]
      refine JC.skip ?_; refine JX.thenN (hK10 _ _ ?_); refine JC.seq (fun K14 hK14 => ?_)
      apply JC.drawX (α := Nat × Unit) 6 (fun x => match x with | ⟨xu, uu⟩ => [.pointer (some ⟨vb, 0, none⟩), .pointer (some ⟨vb, 0, none⟩), .pointer (some ⟨vb, 0 + 1, none⟩), .map (some mb), .agg (cI key).toArray, .agg (cT key ⟨O.ver.n + 1, who⟩ (.slice a40 val.length c40)).toArray]) (fun m x => match x with | ⟨xu, uu⟩ => fun w1 => (True) ∧ St w [vb, mb, lb, d, s] ((b11, cb (cT key ⟨O.ver.n + 1, who⟩ (.slice a40 val.length c40)) 28) :: (b8, cb (cH zH) 28) :: (b7, cb (cI who) 23) :: (b5, cb (cI key) 23) :: (vb, vaO (.pointer (some ⟨lb, 0, none⟩)) mb ((inc : Nat) : Int)) :: (mb, .map es ck) :: (lb, lgO d q9 dn9) :: (d, dkO s n σ9.p σ9.k) :: (s, dkS σ9.B) :: (l46 ++ l40)) w1) Ty.mixed rfl rfl rfl (by kernel_rfl) rfl rfl ?hinit ?hstep ?htail
      case hinit => exact fun w1 hw => ⟨(0, ()), trivial, hw.drew⟩
      case hstep =>
       refine ⟨fun m x hm hp => ?_, fun m x hm hp => ?_, fun m x hm hp => ?_, fun m x hm hp => ?_, fun m x hm hp => ?_, fun m x hm hp => ?_, trivial⟩
       ·obtain ⟨xu, uu⟩ := x
        show J _ _ _ _ _ (_) _
        refine J.pr (fun hF => ?_); refine J.move rfl rfl ?_
        exact J.finX rfl (fun _ hw => ⟨⟨xu, uu⟩, rfl, fun _ _ _ => rfl, hF, hw⟩)
       ·obtain ⟨xu, uu⟩ := x
        show J _ _ _ _ _ ((52, .pointer (some ⟨vb, 0, none⟩)) :: _) _
        refine J.pr (fun hF => ?_); refine J.nilCheck rfl rfl ?_
        exact J.finX rfl (fun _ hw => ⟨⟨xu, uu⟩, rfl, fun _ _ _ => rfl, hF, hw⟩)
       ·obtain ⟨xu, uu⟩ := x
        show J _ _ _ _ _ ((53, .pointer (some ⟨vb, 0, none⟩)) :: _) _
        refine J.pr (fun hF => ?_); refine J.fieldAddr Ty.fd99_1 rfl rfl ?_
        exact J.finX rfl (fun _ hw => ⟨⟨xu, uu⟩, rfl, fun _ _ _ => rfl, hF, hw⟩)
       ·obtain ⟨xu, uu⟩ := x
        show J _ _ _ _ _ ((54, .pointer (some ⟨vb, 0 + 1, none⟩)) :: _) _
        refine J.pr (fun hF => ?_); refine J.load1 (v := .map (some mb)) Ty.a97 rfl (fun w1 hw => by rw [cell_of (hw.own ((vb, vaO (.pointer (some ⟨lb, 0, none⟩)) mb ((inc : Nat) : Int))) zm)]; rfl) rfl ?_
        exact J.finX rfl (fun _ hw => ⟨⟨xu, uu⟩, rfl, fun _ _ _ => rfl, hF, hw⟩)
       ·obtain ⟨xu, uu⟩ := x
        show J _ _ _ _ _ (_) _
        refine J.pr (fun hF => ?_); refine J.loadA (vs := cI key) Ty.a23 Ty.s23 rfl rfl (fun w1 hw => Cells.of_block (hw.own ((b5, cb (cI key) 23)) zm) rfl) rfl ?_
        exact J.finX rfl (fun _ hw => ⟨⟨xu, uu⟩, rfl, fun _ _ _ => rfl, hF, hw⟩)
       ·obtain ⟨xu, uu⟩ := x
        show J _ _ _ _ _ (_) _
        refine J.pr (fun hF => ?_); refine J.loadA (vs := cT key ⟨O.ver.n + 1, who⟩ (.slice a40 val.length c40)) Ty.a28 Ty.s28 rfl rfl (fun w1 hw => Cells.of_block (hw.own ((b11, cb (cT key ⟨O.ver.n + 1, who⟩ (.slice a40 val.length c40)) 28)) zm) rfl) rfl ?_
        exact J.finX rfl (fun _ hw => ⟨⟨xu, uu⟩, rfl, fun _ _ _ => rfl, hF, hw⟩)
      case htail =>
       intro x
       obtain ⟨xu, uu⟩ := x
       show J _ _ _ _ _ ((57, .agg (cT key ⟨O.ver.n + 1, who⟩ (.slice a40 val.length c40)).toArray) :: (56, .agg (cI key).toArray) :: (55, .map (some mb)) :: (54, .pointer (some ⟨vb, 0 + 1, none⟩)) :: (53, .pointer (some ⟨vb, 0, none⟩)) :: (52, .pointer (some ⟨vb, 0, none⟩)) :: _) (fun w1 => (True) ∧ St w [vb, mb, lb, d, s] ((b11, cb (cT key ⟨O.ver.n + 1, who⟩ (.slice a40 val.length c40)) 28) :: (b8, cb (cH zH) 28) :: (b7, cb (cI who) 23) :: (b5, cb (cI key) 23) :: (vb, vaO (.pointer (some ⟨lb, 0, none⟩)) mb ((inc : Nat) : Int)) :: (mb, .map es ck) :: (lb, lgO d q9 dn9) :: (d, dkO s n σ9.p σ9.k) :: (s, dkS σ9.B) :: (l46 ++ l40)) w1)
       refine J.pr (fun hF => ?_); refine J.updV (xh := ⟨key, ⟨O.ver.n + 1, who⟩, val, .slice a40 val.length c40, l40⟩) (l' := fun es' c' => (b11, cb (cT key ⟨O.ver.n + 1, who⟩ (.slice a40 val.length c40)) 28) :: (b8, cb (cH zH) 28) :: (b7, cb (cI who) 23) :: (b5, cb (cI key) 23) :: (vb, vaO (.pointer (some ⟨lb, 0, none⟩)) mb ((inc : Nat) : Int)) :: (mb, .map es' c') :: (lb, lgO d q9 dn9) :: (d, dkO s n σ9.p σ9.k) :: (s, dkS σ9.B) :: (l46 ++ l40)) Ty.u97 Ty.KI Ty.keyI rfl rfl rfl hT (fun es' c' => zu) (fun es2 ck2 hT2 => ?_); refine J.nil ?_; refine JX.thenN (hK14 _ _ ?_); refine JC.seq (fun K15 hK15 => ?_); refine JC.region ?_; refine J.loadA (vs := cT key ⟨O.ver.n + 1, who⟩ (.slice a40 val.length c40)) Ty.a28 Ty.s28 rfl rfl (fun w1 hw => Cells.of_block (hw.own ((b11, cb (cT key ⟨O.ver.n + 1, who⟩ (.slice a40 val.length c40)) 28)) zm) rfl) rfl ?_; refine J.perm ([] ++ ((b11, cb (cT key ⟨O.ver.n + 1, who⟩ (.slice a40 val.length c40)) 28) :: (b8, cb (cH zH) 28) :: (b7, cb (cI who) 23) :: (b5, cb (cI key) 23) :: (vb, vaO (.pointer (some ⟨lb, 0, none⟩)) mb ((inc : Nat) : Int)) :: (mb, .map es2 ck2) :: (lb, lgO d q9 dn9) :: (d, dkO s n σ9.p σ9.k) :: (s, dkS σ9.B) :: (l46 ++ l40))) (.refl _) ?_; refine J.callS (α := Value × List (Nat × Obj)) (V := fun y => .agg (cT key ⟨O.ver.n + 1, who⟩ y.1).toArray) (Pr := fun y => Vec 5 1 y.1 (val).length ((val).map u8) y.2) (L := (·.2)) (l1 := []) Ty.bd47 rfl rfl (fun w1 hw => copied_spec (cT key ⟨O.ver.n + 1, who⟩ (.slice a40 val.length c40)) key ⟨O.ver.n + 1, who⟩ val _ w1 rfl (vec_rowM hv40 hw (fun q hq => by simp [hq])) (by omega)) (fun y hv59 => ?_)
       obtain ⟨v59, l59⟩ := y
       try simp only at hv59 ⊢
       obtain ⟨a59, c59, rfl, hc59⟩ := hv59.form
       refine J.perm ((b8, cb (cH zH) 28) :: (l59 ++ ((b11, cb (cT key ⟨O.ver.n + 1, who⟩ (.slice a40 val.length c40)) 28) :: (b7, cb (cI who) 23) :: (b5, cb (cI key) 23) :: (vb, vaO (.pointer (some ⟨lb, 0, none⟩)) mb ((inc : Nat) : Int)) :: (mb, .map es2 ck2) :: (lb, lgO d q9 dn9) :: (d, dkO s n σ9.p σ9.k) :: (s, dkS σ9.B) :: (l46 ++ l40)))) zp ?_; refine J.storeW (cs := cH zH) (vs := cT key ⟨O.ver.n + 1, who⟩ (.slice a59 val.length c59)) Ty.s28 rfl rfl rfl rfl rfl one_cT .here ?_; refine J.assign rfl rfl ?_; refine J.nil ?_; refine JX.thenN (hK15 _ _ ?_); refine JC.ret ?_; refine JX.retCT (vs := cT key ⟨O.ver.n + 1, who⟩ (.slice a59 val.length c59)) rfl rfl rfl Ty.a28 Ty.s28 rfl (fun w1 hw => Cells.of_block (hw.own ((b8, cb (cT key ⟨O.ver.n + 1, who⟩ (.slice a59 val.length c59)) 28)) zm) rfl) (fun w1 hw => ?_)
       exact ⟨.ok ⟨key, ⟨O.ver.n + 1, who⟩, val, .slice a40 val.length c40, l40⟩ _ l59 es2 ck2 q9 dn9 σ9, rfl, ⟨hg, ⟨⟨by simp only; omega, by simp only; omega⟩, hv40⟩, hv59, hT2⟩, (hw.perm (zp : List.Perm _ (((b8, cb (cT key ⟨O.ver.n + 1, who⟩ (.slice a59 val.length c59)) 28) :: (b11, cb (cT key ⟨O.ver.n + 1, who⟩ (.slice a40 val.length c40)) 28) :: (b7, cb (cI who) 23) :: (b5, cb (cI key) 23) :: l46) ++ ((vltB vb mb lb d s n q9 dn9 inc es2 ck2 σ9) ++ (l40 ++ l59))))).drop (List.sublist_append_right _ _)⟩

end Go.Proofs.Ytoaenmlhehcjfaa
/-
 The vault's Merge: contract.
-/
namespace Go.Proofs.Ytoaenmlhehcjfaa
open Go.J Go.RowKit
set_option linter.unusedVariables false
set_option linter.unusedSimpArgs false
set_option maxRecDepth 8000

set_option maxHeartbeats 2000000 in
theorem vmerge_spec (vb mb lb d s n inc : Nat) (q : LogP) (down : Bool) (B : List UInt8) (p k : Int) (L : List HI) (es : Array MapEntry) (ck : Nat) (hT : Vm L es ck) (hV : VOK L) (hI : LogI n q ⟨B, p, k⟩) (hn : n ≤ 4096) (hk : 0 ≤ k) (hk2 : k < 4611686018427380000) (xc : List Value) (key : IDV) (ver : WV) (bs : List UInt8) (sv : Value) (w : World) (hxc : xc = cT key ver sv) (hw0 : Own w (vltB vb mb lb d s n q down inc es ck ⟨B, p, k⟩)) (hb : Row w sv bs.length (bs.map u8)) (hoff : Off [vb, mb, lb, d, s] sv (bs.map u8)) (hlv : bs.length ≤ 140737488351232) :
  Calls Try.prog 19 [.pointer (some ⟨vb, 0, none⟩), .agg xc.toArray].toArray w fun r w' => ∃ z : MerR, r = .returned z.val ∧ z.Pr n q down ⟨B, p, k⟩ L ⟨key, ver, bs⟩ ∧ St w [vb, mb, lb, d, s] (z.lst vb mb lb d s n inc es ck) w' := by
 obtain ⟨hn3, hgl, hul, hcl_, hrl⟩ := openP_len hI.open_ hn
 obtain ⟨a, c, rfl, hc, _⟩ := id hb
 obtain ⟨O, hO⟩ : ∃ o, (hget L key).getD zH = o := ⟨_, rfl⟩
 obtain ⟨K, hK⟩ : ∃ o, (hget L key).isSome = o := ⟨_, rfl⟩
 obtain ⟨ao, co, hOs⟩ := hV.old key
 rw [hO] at hOs
 have hon := hV.okn key
 rw [hO] at hon
 obtain ⟨hon1, hon2⟩ := hon
 refine calls_of_J (args := [.pointer (some ⟨vb, 0, none⟩), .agg xc.toArray]) (e := [(0, .pointer (some ⟨vb, 0, none⟩)), (1, .agg xc.toArray)]) Try.func19 rfl rfl ⟨rfl, rfl, trivial⟩ (hw0.st) ?_; refine JC.seq (fun K0 hK0 => ?_); refine JC.region ?_; refine J.box rfl rfl rfl (fun b3 => ?_); refine J.assign rfl rfl ?_; refine J.assign rfl rfl ?_; refine J.nil ?_; refine JX.thenN (hK0 _ _ ?_); refine JC.seq (fun K1 hK1 => ?_); refine JC.block ?_; refine JC.seq (fun K2 hK2 => ?_)
 subst hxc
 by_cases xa : ver.n < 1
 ·have hg : vmergeP n q down ⟨B, p, k⟩ (L.map HI.it) ⟨key, ver, bs⟩ = (false, 1, q, down, ⟨B, p, k⟩) := by unfold vmergeP; rw [if_pos (.inl xa)]
  refine JC.region ?_; refine J.move rfl rfl ?_; refine J.eqNil Ty.u38 rfl rfl rfl ?_; refine J.move rfl rfl ?_
  first | refine J.skip rfl rfl rfl rfl rfl ?_ | refine J.skipU rfl rfl rfl rfl ?_ | (refine J.unguard rfl rfl rfl ?_; refine J.fieldAddr Ty.fd28_1 rfl rfl ?_)
  first | refine J.skip rfl rfl rfl rfl rfl ?_ | refine J.skipU rfl rfl rfl rfl ?_ | (refine J.unguard rfl rfl rfl ?_; refine J.fieldAddr Ty.fd25_0 rfl rfl ?_)
  refine J.unguard rfl rfl rfl ?_; refine J.load1 (v := .int .i64 ver.n) Ty.a2 rfl (fun w1 hw => by rw [cell_of (hw.own ((b3, cb (cT key ver (.slice a bs.length c)) 28)) zm)]; rfl) rfl ?_; refine J.unguard rfl rfl rfl ?_; refine J.bin rfl rfl rfl rfl ?_; refine J.name 16 rfl (show _ = Value.bool true by simp; omega) ?_
  (first | refine J.pickT rfl rfl rfl ?_ | refine J.pickF rfl rfl rfl ?_)
  refine J.move rfl rfl ?_
  first | refine J.skip rfl rfl rfl rfl rfl ?_ | refine J.skipU rfl rfl rfl rfl ?_ | (refine J.unguard rfl rfl rfl ?_; refine J.fieldAddr Ty.fd28_1 rfl rfl ?_)
  first | refine J.skip rfl rfl rfl rfl rfl ?_ | refine J.skipU rfl rfl rfl rfl ?_ | (refine J.unguard rfl rfl rfl ?_; refine J.fieldAddr Ty.fd25_0 rfl rfl ?_)
  first | refine J.skip rfl rfl rfl rfl rfl ?_ | refine J.skipU rfl rfl rfl rfl ?_ | (refine J.unguard rfl rfl rfl ?_; refine J.loadO Ty.a2 rfl zm (by exact rfl) rfl ?_)
  first | refine J.skip rfl rfl rfl rfl rfl ?_ | refine J.skipU rfl rfl rfl rfl ?_ | (refine J.unguard rfl rfl rfl ?_; refine J.bin rfl rfl rfl rfl ?_)
  (first | refine J.pickT rfl rfl rfl ?_ | refine J.pickF rfl rfl rfl ?_)
  refine J.assign rfl rfl ?_; refine J.nil ?_; refine JX.thenN (hK2 _ _ ?_)
  first | refine JC.condT rfl ?_ | refine JC.cond rfl (fun _ => ?_) (fun h => by first | (exfalso; simp at h; omega) | (simp at h))
  refine JC.seq (fun K3 hK3 => ?_); refine JC.region ?_; refine J.assign rfl rfl ?_; refine J.assign rfl rfl ?_; refine J.nil ?_; refine JX.thenN (hK3 _ _ ?_); refine JC.ret ?_; refine JX.blockR ?_; refine JX.thenR ?_; refine JX.ret2 rfl rfl rfl (fun w1 hw => ?_)
  exact ⟨.no 1 q down ⟨B, p, k⟩, rfl, hg, (hw.perm (zp : List.Perm _ ([(b3, cb (cT key ver (.slice a bs.length c)) 28)] ++ (vltB vb mb lb d s n q down inc es ck ⟨B, p, k⟩)))).drop (List.sublist_append_right _ _)⟩
 ·by_cases xb : 4611686018427387904 ≤ ver.n
  ·have hg : vmergeP n q down ⟨B, p, k⟩ (L.map HI.it) ⟨key, ver, bs⟩ = (false, 1, q, down, ⟨B, p, k⟩) := by unfold vmergeP; rw [if_pos (.inr xb)]
   refine JC.region ?_; refine J.move rfl rfl ?_; refine J.eqNil Ty.u38 rfl rfl rfl ?_; refine J.move rfl rfl ?_
   first | refine J.skip rfl rfl rfl rfl rfl ?_ | refine J.skipU rfl rfl rfl rfl ?_ | (refine J.unguard rfl rfl rfl ?_; refine J.fieldAddr Ty.fd28_1 rfl rfl ?_)
   first | refine J.skip rfl rfl rfl rfl rfl ?_ | refine J.skipU rfl rfl rfl rfl ?_ | (refine J.unguard rfl rfl rfl ?_; refine J.fieldAddr Ty.fd25_0 rfl rfl ?_)
   refine J.unguard rfl rfl rfl ?_; refine J.load1 (v := .int .i64 ver.n) Ty.a2 rfl (fun w1 hw => by rw [cell_of (hw.own ((b3, cb (cT key ver (.slice a bs.length c)) 28)) zm)]; rfl) rfl ?_; refine J.unguard rfl rfl rfl ?_; refine J.bin rfl rfl rfl rfl ?_; refine J.name 16 rfl (show _ = Value.bool false by simp; omega) ?_
   (first | refine J.pickT rfl rfl rfl ?_ | refine J.pickF rfl rfl rfl ?_)
   refine J.move rfl rfl ?_
   first | refine J.skip rfl rfl rfl rfl rfl ?_ | refine J.skipU rfl rfl rfl rfl ?_ | (refine J.unguard rfl rfl rfl ?_; refine J.fieldAddr Ty.fd28_1 rfl rfl ?_)
   first | refine J.skip rfl rfl rfl rfl rfl ?_ | refine J.skipU rfl rfl rfl rfl ?_ | (refine J.unguard rfl rfl rfl ?_; refine J.fieldAddr Ty.fd25_0 rfl rfl ?_)
   refine J.unguard rfl rfl rfl ?_; refine J.load1 (v := .int .i64 ver.n) Ty.a2 rfl (fun w1 hw => by rw [cell_of (hw.own ((b3, cb (cT key ver (.slice a bs.length c)) 28)) zm)]; rfl) rfl ?_; refine J.unguard rfl rfl rfl ?_; refine J.bin rfl rfl rfl rfl ?_; refine J.name 22 rfl (show _ = Value.bool true by simp; omega) ?_
   (first | refine J.pickT rfl rfl rfl ?_ | refine J.pickF rfl rfl rfl ?_)
   refine J.assign rfl rfl ?_; refine J.nil ?_; refine JX.thenN (hK2 _ _ ?_)
   first | refine JC.condT rfl ?_ | refine JC.cond rfl (fun _ => ?_) (fun h => by first | (exfalso; simp at h; omega) | (simp at h))
   refine JC.seq (fun K4 hK4 => ?_); refine JC.region ?_; refine J.assign rfl rfl ?_; refine J.assign rfl rfl ?_; refine J.nil ?_; refine JX.thenN (hK4 _ _ ?_); refine JC.ret ?_; refine JX.blockR ?_; refine JX.thenR ?_; refine JX.ret2 rfl rfl rfl (fun w1 hw => ?_)
   exact ⟨.no 1 q down ⟨B, p, k⟩, rfl, hg, (hw.perm (zp : List.Perm _ ([(b3, cb (cT key ver (.slice a bs.length c)) 28)] ++ (vltB vb mb lb d s n q down inc es ck ⟨B, p, k⟩)))).drop (List.sublist_append_right _ _)⟩
  ·have hor : ¬ (ver.n < 1 ∨ 4611686018427387904 ≤ ver.n) := by omega
   refine JC.region ?_; refine J.move rfl rfl ?_; refine J.eqNil Ty.u38 rfl rfl rfl ?_; refine J.move rfl rfl ?_
   first | refine J.skip rfl rfl rfl rfl rfl ?_ | refine J.skipU rfl rfl rfl rfl ?_ | (refine J.unguard rfl rfl rfl ?_; refine J.fieldAddr Ty.fd28_1 rfl rfl ?_)
   first | refine J.skip rfl rfl rfl rfl rfl ?_ | refine J.skipU rfl rfl rfl rfl ?_ | (refine J.unguard rfl rfl rfl ?_; refine J.fieldAddr Ty.fd25_0 rfl rfl ?_)
   refine J.unguard rfl rfl rfl ?_; refine J.load1 (v := .int .i64 ver.n) Ty.a2 rfl (fun w1 hw => by rw [cell_of (hw.own ((b3, cb (cT key ver (.slice a bs.length c)) 28)) zm)]; rfl) rfl ?_; refine J.unguard rfl rfl rfl ?_; refine J.bin rfl rfl rfl rfl ?_; refine J.name 16 rfl (show _ = Value.bool false by simp; omega) ?_
   (first | refine J.pickT rfl rfl rfl ?_ | refine J.pickF rfl rfl rfl ?_)
   refine J.move rfl rfl ?_
   first | refine J.skip rfl rfl rfl rfl rfl ?_ | refine J.skipU rfl rfl rfl rfl ?_ | (refine J.unguard rfl rfl rfl ?_; refine J.fieldAddr Ty.fd28_1 rfl rfl ?_)
   first | refine J.skip rfl rfl rfl rfl rfl ?_ | refine J.skipU rfl rfl rfl rfl ?_ | (refine J.unguard rfl rfl rfl ?_; refine J.fieldAddr Ty.fd25_0 rfl rfl ?_)
   refine J.unguard rfl rfl rfl ?_; refine J.load1 (v := .int .i64 ver.n) Ty.a2 rfl (fun w1 hw => by rw [cell_of (hw.own ((b3, cb (cT key ver (.slice a bs.length c)) 28)) zm)]; rfl) rfl ?_; refine J.unguard rfl rfl rfl ?_; refine J.bin rfl rfl rfl rfl ?_; refine J.name 22 rfl (show _ = Value.bool false by simp; omega) ?_
   (first | refine J.pickT rfl rfl rfl ?_ | refine J.pickF rfl rfl rfl ?_)
   refine J.assign rfl rfl ?_; refine J.nil ?_; refine JX.thenN (hK2 _ _ ?_)
   first | refine JC.condF rfl ?_ | refine JC.cond rfl (fun h => by first | (exfalso; simp at h; omega) | (simp at h)) (fun _ => ?_)
   refine JC.seq (fun K5 hK5 => ?_); refine JC.region ?_; refine J.fieldAddr Ty.fd28_2 rfl rfl ?_; refine J.load1 (v := (.slice a bs.length c)) Ty.a26 rfl (fun w1 hw => by rw [cell_of (hw.own ((b3, cb (cT key ver (.slice a bs.length c)) 28)) zm)]; rfl) rfl ?_; refine J.lenS rfl Ty.u26 rfl rfl ?_; refine J.bin rfl rfl rfl rfl ?_; refine J.assign rfl rfl ?_; refine J.nil ?_; refine JX.thenN (hK5 _ _ ?_); refine JC.cond rfl (fun h1 => ?_) (fun h1 => ?_)
   ·have hg : vmergeP n q down ⟨B, p, k⟩ (L.map HI.it) ⟨key, ver, bs⟩ = (false, 4, q, down, ⟨B, p, k⟩) := by unfold vmergeP; rw [if_neg hor, if_pos (show 64 < bs.length by simp at h1; omega)]
    refine JC.seq (fun K6 hK6 => ?_); refine JC.region ?_; refine J.assign rfl rfl ?_; refine J.assign rfl rfl ?_; refine J.nil ?_; refine JX.thenN (hK6 _ _ ?_); refine JC.ret ?_; refine JX.blockR ?_; refine JX.thenR ?_; refine JX.ret2 rfl rfl rfl (fun w1 hw => ?_)
    exact ⟨.no 4 q down ⟨B, p, k⟩, rfl, hg, (hw.perm (zp : List.Perm _ ([(b3, cb (cT key ver (.slice a bs.length c)) 28)] ++ (vltB vb mb lb d s n q down inc es ck ⟨B, p, k⟩)))).drop (List.sublist_append_right _ _)⟩
   ·have hb64 : ¬ 64 < bs.length := by simp at h1; omega
    refine JC.skip ?_; refine JX.blockN ?_; refine JX.thenN (hK1 _ _ ?_); refine JC.seqCut (α := Nat) (fun x6 => [(0, .pointer (some ⟨vb, 0, none⟩)), (3, .pointer (some ⟨b3, 0, none⟩))]) (fun x6 w' => (K = true → newB ver O.ver = true) ∧ St w [vb, mb, lb, d, s] ((x6, cb (cH O) 28) :: (b3, cb (cT key ver (.slice a bs.length c)) 28) :: (vb, vaO (.pointer (some ⟨lb, 0, none⟩)) mb ((inc : Nat) : Int)) :: (mb, .map es ck) :: (lb, lgO d q down) :: (d, dkO s n p k) :: (s, dkS B) :: []) w') (fun x6 => ?_) (fun K7 hK7 => ?_)
    ·refine JC.pr (fun hnb => ?_)
     have hnb2 : ¬ ((getV (L.map HI.it) key).isSome = true ∧ newB ver ((getV (L.map HI.it) key).getD zItV).ver = false) := by
      rw [old_it, hget_it, Option.isSome_map, hO, hK]
      rintro ⟨h1, h2⟩
      have h3 := hnb h1
      have h4 : newB ver O.ver = false := h2
      rw [h4] at h3
      cases h3
     refine JC.seq (fun K8 hK8 => ?_); refine JC.seq (fun K9 hK9 => ?_)
     apply JC.drawX (α := Value × List (Nat × Obj)) 6 (fun x => match x with | ⟨v53, l53⟩ => [.pointer (some ⟨vb, 0, none⟩), .pointer (some ⟨vb, 0, none⟩), .pointer (some ⟨vb, 0 + 0, none⟩), .pointer (some ⟨lb, 0, none⟩), .agg (cT key ver (.slice a bs.length c)).toArray, v53]) (fun m x => match x with | ⟨v53, l53⟩ => fun w1 => ((m 5 = true → Vec 5 1 v53 (formB ⟨key, ver, bs⟩).length ((formB ⟨key, ver, bs⟩).map u8) l53)) ∧ St w [vb, mb, lb, d, s] ((bif m 5 then l53 else []) ++ ((x6, cb (cH O) 28) :: (b3, cb (cT key ver (.slice a bs.length c)) 28) :: (vb, vaO (.pointer (some ⟨lb, 0, none⟩)) mb ((inc : Nat) : Int)) :: (mb, .map es ck) :: (lb, lgO d q down) :: (d, dkO s n p k) :: (s, dkS B) :: [])) w1) Ty.mixed rfl rfl rfl (by kernel_rfl) rfl rfl ?hinit ?hstep ?htail
     case hinit => exact fun w1 hw => ⟨(.slice none 0 0, []), fun h => (by cases h), hw.drew⟩
     case hstep =>
      refine ⟨fun m x hm hp => ?_, fun m x hm hp => ?_, fun m x hm hp => ?_, fun m x hm hp => ?_, fun m x hm hp => ?_, fun m x hm hp => ?_, trivial⟩
      ·obtain ⟨v53, l53⟩ := x
       show J _ _ _ _ _ (_) _
       refine J.pr (fun hF => ?_); refine J.move rfl rfl ?_
       exact J.finX rfl (fun _ hw => ⟨⟨v53, l53⟩, rfl, fun _ _ _ => rfl, hF, hw⟩)
      ·obtain ⟨v53, l53⟩ := x
       show J _ _ _ _ _ ((48, .pointer (some ⟨vb, 0, none⟩)) :: _) _
       refine J.pr (fun hF => ?_); refine J.nilCheck rfl rfl ?_
       exact J.finX rfl (fun _ hw => ⟨⟨v53, l53⟩, rfl, fun _ _ _ => rfl, hF, hw⟩)
      ·obtain ⟨v53, l53⟩ := x
       show J _ _ _ _ _ ((49, .pointer (some ⟨vb, 0, none⟩)) :: _) _
       refine J.pr (fun hF => ?_); refine J.fieldAddr Ty.fd99_0 rfl rfl ?_
       exact J.finX rfl (fun _ hw => ⟨⟨v53, l53⟩, rfl, fun _ _ _ => rfl, hF, hw⟩)
      ·obtain ⟨v53, l53⟩ := x
       show J _ _ _ _ _ ((50, .pointer (some ⟨vb, 0 + 0, none⟩)) :: _) _
       refine J.pr (fun hF => ?_); refine J.load1 (v := .pointer (some ⟨lb, 0, none⟩)) Ty.a94 rfl (fun w1 hw => by rw [cell_of (hw.own ((vb, vaO (.pointer (some ⟨lb, 0, none⟩)) mb ((inc : Nat) : Int))) zm)]; rfl) rfl ?_
       exact J.finX rfl (fun _ hw => ⟨⟨v53, l53⟩, rfl, fun _ _ _ => rfl, hF, hw⟩)
      ·obtain ⟨v53, l53⟩ := x
       show J _ _ _ _ _ (_) _
       refine J.pr (fun hF => ?_); refine J.loadA (vs := (cT key ver (.slice a bs.length c))) Ty.a28 Ty.s28 rfl rfl (fun w1 hw => Cells.of_block (hw.own ((b3, cb (cT key ver (.slice a bs.length c)) 28)) zm) rfl) rfl ?_
       exact J.finX rfl (fun _ hw => ⟨⟨v53, l53⟩, rfl, fun _ _ _ => rfl, hF, hw⟩)
      ·obtain ⟨v53, l53⟩ := x
       show J _ _ _ _ _ ((52, .agg (cT key ver (.slice a bs.length c)).toArray) :: _) _
       refine J.pr (fun hF => ?_)
       refine J.conseq (I' := St w [vb, mb, lb, d, s] ((x6, cb (cH O) 28) :: (b3, cb (cT key ver (.slice a bs.length c)) 28) :: (vb, vaO (.pointer (some ⟨lb, 0, none⟩)) mb ((inc : Nat) : Int)) :: (mb, .map es ck) :: (lb, lgO d q down) :: (d, dkO s n p k) :: (s, dkS B) :: [])) ?_ (fun w1 hw => by simp only [hm, cond_false, List.nil_append] at hw; exact hw)
       refine J.perm ([] ++ ((x6, cb (cH O) 28) :: (b3, cb (cT key ver (.slice a bs.length c)) 28) :: (vb, vaO (.pointer (some ⟨lb, 0, none⟩)) mb ((inc : Nat) : Int)) :: (mb, .map es ck) :: (lb, lgO d q down) :: (d, dkO s n p k) :: (s, dkS B) :: [])) (.refl _) ?_; refine J.callS (α := Value × List (Nat × Obj)) (V := (·.1)) (Pr := fun xo => Vec 5 1 xo.1 (formB ⟨key, ver, bs⟩).length ((formB ⟨key, ver, bs⟩).map u8) xo.2) (L := (·.2)) (l1 := []) Ty.bd11 rfl rfl (fun w1 hw => form_spec (cT key ver (.slice a bs.length c)) key ver bs _ w1 rfl (hb.st hoff hw) (by omega) (by omega) (by omega)) (fun xo hvn => ?_)
       obtain ⟨vn, ln⟩ := xo
       try simp only at hvn ⊢
       refine J.nil (JX.finB rfl (fun w1 hw => ⟨⟨⟨vn, ln⟩, rfl, fun j h1 h2 => ?_, ?_⟩, trivial⟩))
       ·match j, h1 with
        | 0, _ => (first | rfl | trivial)
        | 1, _ => (first | rfl | trivial)
        | 2, _ => (first | rfl | trivial)
        | 3, _ => (first | rfl | trivial)
        | 4, _ => (first | rfl | trivial)
        | 5, _ => exact absurd (h2.symm.trans hm) (by decide)
        | j + 6, h1 => omega
       show ((true = true → Vec 5 1 vn (formB ⟨key, ver, bs⟩).length ((formB ⟨key, ver, bs⟩).map u8) ln)) ∧ St w [vb, mb, lb, d, s] ((bif true then ln else []) ++ ((x6, cb (cH O) 28) :: (b3, cb (cT key ver (.slice a bs.length c)) 28) :: (vb, vaO (.pointer (some ⟨lb, 0, none⟩)) mb ((inc : Nat) : Int)) :: (mb, .map es ck) :: (lb, lgO d q down) :: (d, dkO s n p k) :: (s, dkS B) :: [])) w1
       simp only [cond_true] at hw ⊢
       exact ⟨fun _ => hvn, hw⟩
     case htail =>
      intro x
      obtain ⟨v53, l53⟩ := x
      show J _ _ _ _ _ ((53, v53) :: (52, .agg (cT key ver (.slice a bs.length c)).toArray) :: (51, .pointer (some ⟨lb, 0, none⟩)) :: (50, .pointer (some ⟨vb, 0 + 0, none⟩)) :: (49, .pointer (some ⟨vb, 0, none⟩)) :: (48, .pointer (some ⟨vb, 0, none⟩)) :: _) (fun w1 => ((true = true → Vec 5 1 v53 (formB ⟨key, ver, bs⟩).length ((formB ⟨key, ver, bs⟩).map u8) l53)) ∧ St w [vb, mb, lb, d, s] ((bif true then l53 else []) ++ ((x6, cb (cH O) 28) :: (b3, cb (cT key ver (.slice a bs.length c)) 28) :: (vb, vaO (.pointer (some ⟨lb, 0, none⟩)) mb ((inc : Nat) : Int)) :: (mb, .map es ck) :: (lb, lgO d q down) :: (d, dkO s n p k) :: (s, dkS B) :: [])) w1)
      refine J.pr (fun hF => ?_)
      have hv53 := hF rfl
      have hfl := formB_le ⟨key, ver, bs⟩
      try simp only at hfl
      obtain ⟨a53, c53, rfl, hc53⟩ := hv53.form
      refine J.conseq (I' := St w [vb, mb, lb, d, s] (l53 ++ ((x6, cb (cH O) 28) :: (b3, cb (cT key ver (.slice a bs.length c)) 28) :: (vb, vaO (.pointer (some ⟨lb, 0, none⟩)) mb ((inc : Nat) : Int)) :: (mb, .map es ck) :: (lb, lgO d q down) :: (d, dkO s n p k) :: (s, dkS B) :: []))) ?_ (fun w1 hw => by simp only [cond_true] at hw; exact hw)
      obtain ⟨⟨e9, q9, dn9, σ9⟩, hx9⟩ : ∃ x, appendP n q down ⟨B, p, k⟩ (formB ⟨key, ver, bs⟩) = x := ⟨_, rfl⟩
      refine J.perm ([(lb, lgO d q down), (d, dkO s n p k), (s, dkS B)] ++ (l53 ++ ((x6, cb (cH O) 28) :: (b3, cb (cT key ver (.slice a bs.length c)) 28) :: (vb, vaO (.pointer (some ⟨lb, 0, none⟩)) mb ((inc : Nat) : Int)) :: (mb, .map es ck) :: []))) zp ?_; refine J.callT (v := .int .i64 e9) (L := [(lb, lgO d q9 dn9), (d, dkO s n σ9.p σ9.k), (s, dkS σ9.B)]) Ty.bd46 rfl rfl (fun w1 hw => append_all lb d s n q down B (formB ⟨key, ver, bs⟩) p k a53 _ c53 w1 (St.owns hw) hI.len hn hn3 hgl hul hcl_ hk hk2 hI.p rfl (by omega) (vec_rowM hv53 hw (fun q hq => by simp [hq])) (vec_offM hv53 (fun p0 hp0 => St.off (l1 := [(lb, lgO d q down), (d, dkO s n p k), (s, dkS B)]) hw (o := p0.2) (by simp [hp0]))) hx9) ?_; refine J.perm ((x6, cb (cH O) 28) :: (b3, cb (cT key ver (.slice a bs.length c)) 28) :: (vb, vaO (.pointer (some ⟨lb, 0, none⟩)) mb ((inc : Nat) : Int)) :: (mb, .map es ck) :: (lb, lgO d q9 dn9) :: (d, dkO s n σ9.p σ9.k) :: (s, dkS σ9.B) :: l53) zp ?_; refine J.assign rfl rfl ?_; refine J.nil ?_; refine JX.thenN (hK9 _ _ ?_); refine JC.seq (fun K10 hK10 => ?_); refine JC.region ?_; refine J.move rfl rfl ?_; refine J.bin rfl rfl rfl rfl ?_; refine J.nil ?_; refine JX.thenN (hK10 _ _ ?_); refine JC.cond rfl (fun h3 => ?_) (fun h3 => ?_)
      ·have he9 : e9 ≠ 0 := by simpa using h3
       have hg : vmergeP n q down ⟨B, p, k⟩ (L.map HI.it) ⟨key, ver, bs⟩ = (false, e9, q9, dn9, σ9) := by unfold vmergeP; rw [if_neg hor, if_neg hb64, if_neg hnb2, hx9]; simp only; rw [decide_eq_false he9]
       refine JC.seq (fun K11 hK11 => ?_); refine JC.region ?_; refine J.move rfl rfl ?_; refine J.assign rfl rfl ?_; refine J.assign rfl rfl ?_; refine J.nil ?_; refine JX.thenN (hK11 _ _ ?_); refine JC.ret ?_; refine JX.thenR ?_; refine JX.ret2 rfl rfl rfl (fun w1 hw => ?_)
       exact ⟨.no e9 q9 dn9 σ9, rfl, hg, (hw.perm (zp : List.Perm _ (((x6, cb (cH O) 28) :: (b3, cb (cT key ver (.slice a bs.length c)) 28) :: l53) ++ (vltB vb mb lb d s n q9 dn9 inc es ck σ9)))).drop (List.sublist_append_right _ _)⟩
      ·have he9 : e9 = 0 := by simpa using h3
       have hg : vmergeP n q down ⟨B, p, k⟩ (L.map HI.it) ⟨key, ver, bs⟩ = (true, 0, q9, dn9, σ9) := by unfold vmergeP; rw [if_neg hor, if_neg hb64, if_neg hnb2, hx9]; simp only; rw [decide_eq_true he9, he9]
       refine JC.skip ?_; refine JX.thenN (hK8 _ _ ?_); refine JC.seq (fun K12 hK12 => ?_)
       apply JC.drawX (α := Option Addr × Nat × List (Nat × Obj)) 8 (fun x => match x with | ⟨a65, c65, l65⟩ => [.pointer (some ⟨vb, 0, none⟩), .pointer (some ⟨vb, 0, none⟩), .pointer (some ⟨vb, 0 + 1, none⟩), .map (some mb), .pointer (some ⟨b3, 0 + 0, none⟩), .agg (cI key).toArray, .agg (cT key ver (.slice a bs.length c)).toArray, .agg (cT key ver (.slice a65 bs.length c65)).toArray]) (fun m x => match x with | ⟨a65, c65, l65⟩ => fun w1 => ((m 7 = true → Vec 5 1 (.slice a65 bs.length c65) (bs).length ((bs).map u8) l65)) ∧ St w [vb, mb, lb, d, s] ((bif m 7 then l65 else []) ++ ((x6, cb (cH O) 28) :: (b3, cb (cT key ver (.slice a bs.length c)) 28) :: (vb, vaO (.pointer (some ⟨lb, 0, none⟩)) mb ((inc : Nat) : Int)) :: (mb, .map es ck) :: (lb, lgO d q9 dn9) :: (d, dkO s n σ9.p σ9.k) :: (s, dkS σ9.B) :: l53)) w1) Ty.mixed rfl rfl rfl (by kernel_rfl) rfl rfl ?hinit ?hstep ?htail
       case hinit => exact fun w1 hw => ⟨(none, 0, []), fun h => (by cases h), hw.drew⟩
       case hstep =>
        refine ⟨fun m x hm hp => ?_, fun m x hm hp => ?_, fun m x hm hp => ?_, fun m x hm hp => ?_, fun m x hm hp => ?_, fun m x hm hp => ?_, fun m x hm hp => ?_, fun m x hm hp => ?_, trivial⟩
        ·obtain ⟨a65, c65, l65⟩ := x
         show J _ _ _ _ _ (_) _
         refine J.pr (fun hF => ?_); refine J.move rfl rfl ?_
         exact J.finX rfl (fun _ hw => ⟨⟨a65, c65, l65⟩, rfl, fun _ _ _ => rfl, hF, hw⟩)
        ·obtain ⟨a65, c65, l65⟩ := x
         show J _ _ _ _ _ ((58, .pointer (some ⟨vb, 0, none⟩)) :: _) _
         refine J.pr (fun hF => ?_); refine J.nilCheck rfl rfl ?_
         exact J.finX rfl (fun _ hw => ⟨⟨a65, c65, l65⟩, rfl, fun _ _ _ => rfl, hF, hw⟩)
        ·obtain ⟨a65, c65, l65⟩ := x
         show J _ _ _ _ _ ((59, .pointer (some ⟨vb, 0, none⟩)) :: _) _
         refine J.pr (fun hF => ?_); refine J.fieldAddr Ty.fd99_1 rfl rfl ?_
         exact J.finX rfl (fun _ hw => ⟨⟨a65, c65, l65⟩, rfl, fun _ _ _ => rfl, hF, hw⟩)
        ·obtain ⟨a65, c65, l65⟩ := x
         show J _ _ _ _ _ ((60, .pointer (some ⟨vb, 0 + 1, none⟩)) :: _) _
         refine J.pr (fun hF => ?_); refine J.load1 (v := .map (some mb)) Ty.a97 rfl (fun w1 hw => by rw [cell_of (hw.own ((vb, vaO (.pointer (some ⟨lb, 0, none⟩)) mb ((inc : Nat) : Int))) zm)]; rfl) rfl ?_
         exact J.finX rfl (fun _ hw => ⟨⟨a65, c65, l65⟩, rfl, fun _ _ _ => rfl, hF, hw⟩)
        ·obtain ⟨a65, c65, l65⟩ := x
         show J _ _ _ _ _ (_) _
         refine J.pr (fun hF => ?_); refine J.fieldAddr Ty.fd28_0 rfl rfl ?_
         exact J.finX rfl (fun _ hw => ⟨⟨a65, c65, l65⟩, rfl, fun _ _ _ => rfl, hF, hw⟩)
        ·obtain ⟨a65, c65, l65⟩ := x
         show J _ _ _ _ _ ((62, .pointer (some ⟨b3, 0 + 0, none⟩)) :: _) _
         refine J.pr (fun hF => ?_); refine J.loadA (vs := cI key) Ty.a23 Ty.s23 rfl rfl (fun w1 hw => Cells.of_block (hw.own ((b3, cb (cT key ver (.slice a bs.length c)) 28)) zm) rfl) rfl ?_
         exact J.finX rfl (fun _ hw => ⟨⟨a65, c65, l65⟩, rfl, fun _ _ _ => rfl, hF, hw⟩)
        ·obtain ⟨a65, c65, l65⟩ := x
         show J _ _ _ _ _ (_) _
         refine J.pr (fun hF => ?_); refine J.loadA (vs := (cT key ver (.slice a bs.length c))) Ty.a28 Ty.s28 rfl rfl (fun w1 hw => Cells.of_block (hw.own ((b3, cb (cT key ver (.slice a bs.length c)) 28)) zm) rfl) rfl ?_
         exact J.finX rfl (fun _ hw => ⟨⟨a65, c65, l65⟩, rfl, fun _ _ _ => rfl, hF, hw⟩)
        ·obtain ⟨a65, c65, l65⟩ := x
         show J _ _ _ _ _ ((64, .agg (cT key ver (.slice a bs.length c)).toArray) :: _) _
         refine J.pr (fun hF => ?_)
         refine J.conseq (I' := St w [vb, mb, lb, d, s] ((x6, cb (cH O) 28) :: (b3, cb (cT key ver (.slice a bs.length c)) 28) :: (vb, vaO (.pointer (some ⟨lb, 0, none⟩)) mb ((inc : Nat) : Int)) :: (mb, .map es ck) :: (lb, lgO d q9 dn9) :: (d, dkO s n σ9.p σ9.k) :: (s, dkS σ9.B) :: l53)) ?_ (fun w1 hw => by simp only [hm, cond_false, List.nil_append] at hw; exact hw)
         refine J.perm ([] ++ ((x6, cb (cH O) 28) :: (b3, cb (cT key ver (.slice a bs.length c)) 28) :: (vb, vaO (.pointer (some ⟨lb, 0, none⟩)) mb ((inc : Nat) : Int)) :: (mb, .map es ck) :: (lb, lgO d q9 dn9) :: (d, dkO s n σ9.p σ9.k) :: (s, dkS σ9.B) :: l53)) (.refl _) ?_; refine J.callS (α := Value × List (Nat × Obj)) (V := fun y => .agg (cT key ver y.1).toArray) (Pr := fun y => Vec 5 1 y.1 (bs).length ((bs).map u8) y.2) (L := (·.2)) (l1 := []) Ty.bd47 rfl rfl (fun w1 hw => copied_spec (cT key ver (.slice a bs.length c)) key ver bs _ w1 rfl (hb.st hoff hw) (by omega)) (fun y hyn => ?_)
         obtain ⟨vn, ln⟩ := y
         try simp only at hyn ⊢
         obtain ⟨an, cn, rfl, hcn9⟩ := hyn.form
         refine J.nil (JX.finB rfl (fun w1 hw => ⟨⟨⟨an, cn, ln⟩, rfl, fun j h1 h2 => ?_, ?_⟩, trivial⟩))
         ·match j, h1 with
          | 0, _ => (first | rfl | trivial)
          | 1, _ => (first | rfl | trivial)
          | 2, _ => (first | rfl | trivial)
          | 3, _ => (first | rfl | trivial)
          | 4, _ => (first | rfl | trivial)
          | 5, _ => (first | rfl | trivial)
          | 6, _ => (first | rfl | trivial)
          | 7, _ => exact absurd (h2.symm.trans hm) (by decide)
          | j + 8, h1 => omega
         show ((true = true → Vec 5 1 (.slice an bs.length cn) (bs).length ((bs).map u8) ln)) ∧ St w [vb, mb, lb, d, s] ((bif true then ln else []) ++ ((x6, cb (cH O) 28) :: (b3, cb (cT key ver (.slice a bs.length c)) 28) :: (vb, vaO (.pointer (some ⟨lb, 0, none⟩)) mb ((inc : Nat) : Int)) :: (mb, .map es ck) :: (lb, lgO d q9 dn9) :: (d, dkO s n σ9.p σ9.k) :: (s, dkS σ9.B) :: l53)) w1
         simp only [cond_true] at hw ⊢
         exact ⟨fun _ => hyn, hw⟩
       case htail =>
        intro x
        obtain ⟨a65, c65, l65⟩ := x
        show J _ _ _ _ _ ((65, .agg (cT key ver (.slice a65 bs.length c65)).toArray) :: (64, .agg (cT key ver (.slice a bs.length c)).toArray) :: (63, .agg (cI key).toArray) :: (62, .pointer (some ⟨b3, 0 + 0, none⟩)) :: (61, .map (some mb)) :: (60, .pointer (some ⟨vb, 0 + 1, none⟩)) :: (59, .pointer (some ⟨vb, 0, none⟩)) :: (58, .pointer (some ⟨vb, 0, none⟩)) :: _) (fun w1 => ((true = true → Vec 5 1 (.slice a65 bs.length c65) (bs).length ((bs).map u8) l65)) ∧ St w [vb, mb, lb, d, s] ((bif true then l65 else []) ++ ((x6, cb (cH O) 28) :: (b3, cb (cT key ver (.slice a bs.length c)) 28) :: (vb, vaO (.pointer (some ⟨lb, 0, none⟩)) mb ((inc : Nat) : Int)) :: (mb, .map es ck) :: (lb, lgO d q9 dn9) :: (d, dkO s n σ9.p σ9.k) :: (s, dkS σ9.B) :: l53)) w1)
        refine J.pr (fun hF => ?_)
        have hv65 := hF rfl
        refine J.conseq (I' := St w [vb, mb, lb, d, s] ((x6, cb (cH O) 28) :: (b3, cb (cT key ver (.slice a bs.length c)) 28) :: (vb, vaO (.pointer (some ⟨lb, 0, none⟩)) mb ((inc : Nat) : Int)) :: (mb, .map es ck) :: (lb, lgO d q9 dn9) :: (d, dkO s n σ9.p σ9.k) :: (s, dkS σ9.B) :: l53 ++ l65)) ?_ (fun w1 hw => (by simp only [cond_true] at hw; exact hw.perm zp))
        refine J.updV (xh := ⟨key, ver, bs, (.slice a65 bs.length c65), l65⟩) (l' := fun es' c' => (x6, cb (cH O) 28) :: (b3, cb (cT key ver (.slice a bs.length c)) 28) :: (vb, vaO (.pointer (some ⟨lb, 0, none⟩)) mb ((inc : Nat) : Int)) :: (mb, .map es' c') :: (lb, lgO d q9 dn9) :: (d, dkO s n σ9.p σ9.k) :: (s, dkS σ9.B) :: l53 ++ l65) Ty.u97 Ty.KI Ty.keyI rfl rfl rfl hT (fun es' c' => zu) (fun es2 ck2 hT2 => ?_); refine J.nil ?_; refine JX.thenN (hK12 _ _ ?_); refine JC.seq (fun K13 hK13 => ?_); refine JC.region ?_; refine J.assign rfl rfl ?_; refine J.assign rfl rfl ?_; refine J.nil ?_; refine JX.thenN (hK13 _ _ ?_); refine JC.ret ?_; refine JX.ret2 rfl rfl rfl (fun w1 hw => ?_)
        exact ⟨.yes ⟨key, ver, bs, (.slice a65 bs.length c65), l65⟩ es2 ck2 q9 dn9 σ9, rfl, ⟨hg, rfl, ⟨⟨by simp only; omega, by simp only; omega⟩, hv65⟩, hT2⟩, (hw.perm (zp : List.Perm _ (((x6, cb (cH O) 28) :: (b3, cb (cT key ver (.slice a bs.length c)) 28) :: l53) ++ ((vltB vb mb lb d s n q9 dn9 inc es2 ck2 σ9) ++ l65)))).drop (List.sublist_append_right _ _)⟩
    ·refine JC.seq (fun K14 hK14 => ?_)
     apply JC.drawX (α := Nat × Unit) 12 (fun x => match x with | ⟨x6, uu⟩ => [.pointer (some ⟨vb, 0, none⟩), .pointer (some ⟨vb, 0, none⟩), .pointer (some ⟨vb, 0 + 1, none⟩), .map (some mb), .pointer (some ⟨b3, 0 + 0, none⟩), .agg (cI key).toArray, .tuple #[.agg (cH O).toArray, .bool K], .tuple #[.agg (cH O).toArray, .bool K], .agg (cH O).toArray, .bool K, .pointer (some ⟨x6, 0, none⟩), undef]) (fun m x => match x with | ⟨x6, uu⟩ => fun w1 => ((m 11 = true → m 10 = true)) ∧ St w [vb, mb, lb, d, s] ((bif m 10 then [(x6, cb (cH (bif m 11 then O else zH)) 28)] else []) ++ ((b3, cb (cT key ver (.slice a bs.length c)) 28) :: (vb, vaO (.pointer (some ⟨lb, 0, none⟩)) mb ((inc : Nat) : Int)) :: (mb, .map es ck) :: (lb, lgO d q down) :: (d, dkO s n p k) :: (s, dkS B) :: [])) w1) Ty.mixed rfl rfl rfl (by kernel_rfl) rfl rfl ?hinit ?hstep ?htail
     case hinit => exact fun w1 hw => ⟨(0, ()), fun h => (by cases h), hw.drew⟩
     case hstep =>
      refine ⟨fun m x hm hp => ?_, fun m x hm hp => ?_, fun m x hm hp => ?_, fun m x hm hp => ?_, fun m x hm hp => ?_, fun m x hm hp => ?_, fun m x hm hp => ?_, fun m x hm hp => ?_, fun m x hm hp => ?_, fun m x hm hp => ?_, fun m x hm hp => ?_, fun m x hm hp => ?_, trivial⟩
      ·obtain ⟨x6, uu⟩ := x
       show J _ _ _ _ _ (_) _
       refine J.pr (fun hF => ?_); refine J.move rfl rfl ?_
       exact J.finX rfl (fun _ hw => ⟨⟨x6, uu⟩, rfl, fun _ _ _ => rfl, hF, hw⟩)
      ·obtain ⟨x6, uu⟩ := x
       show J _ _ _ _ _ ((30, .pointer (some ⟨vb, 0, none⟩)) :: _) _
       refine J.pr (fun hF => ?_); refine J.nilCheck rfl rfl ?_
       exact J.finX rfl (fun _ hw => ⟨⟨x6, uu⟩, rfl, fun _ _ _ => rfl, hF, hw⟩)
      ·obtain ⟨x6, uu⟩ := x
       show J _ _ _ _ _ ((31, .pointer (some ⟨vb, 0, none⟩)) :: _) _
       refine J.pr (fun hF => ?_); refine J.fieldAddr Ty.fd99_1 rfl rfl ?_
       exact J.finX rfl (fun _ hw => ⟨⟨x6, uu⟩, rfl, fun _ _ _ => rfl, hF, hw⟩)
      ·obtain ⟨x6, uu⟩ := x
       show J _ _ _ _ _ ((32, .pointer (some ⟨vb, 0 + 1, none⟩)) :: _) _
       refine J.pr (fun hF => ?_); refine J.load1 (v := .map (some mb)) Ty.a97 rfl (fun w1 hw => by rw [cell_of (hw.own ((vb, vaO (.pointer (some ⟨lb, 0, none⟩)) mb ((inc : Nat) : Int))) zm)]; rfl) rfl ?_
       exact J.finX rfl (fun _ hw => ⟨⟨x6, uu⟩, rfl, fun _ _ _ => rfl, hF, hw⟩)
      ·obtain ⟨x6, uu⟩ := x
       show J _ _ _ _ _ (_) _
       refine J.pr (fun hF => ?_); refine J.fieldAddr Ty.fd28_0 rfl rfl ?_
       exact J.finX rfl (fun _ hw => ⟨⟨x6, uu⟩, rfl, fun _ _ _ => rfl, hF, hw⟩)
      ·obtain ⟨x6, uu⟩ := x
       show J _ _ _ _ _ ((34, .pointer (some ⟨b3, 0 + 0, none⟩)) :: _) _
       refine J.pr (fun hF => ?_); refine J.loadA (vs := cI key) Ty.a23 Ty.s23 rfl rfl (fun w1 hw => Cells.of_block (hw.own ((b3, cb (cT key ver (.slice a bs.length c)) 28)) zm) rfl) rfl ?_
       exact J.finX rfl (fun _ hw => ⟨⟨x6, uu⟩, rfl, fun _ _ _ => rfl, hF, hw⟩)
      ·obtain ⟨x6, uu⟩ := x
       show J _ _ _ _ _ ((35, .agg (cI key).toArray) :: (33, .map (some mb)) :: _) _
       refine J.pr (fun hF => ?_); refine J.lookV2 Ty.u97 Ty.KI Ty.keyI Ty.zIt rfl rfl hT (fun w1 hw => hw.own ((mb, .map es ck)) zm) rfl ?_; refine J.name 36 rfl (show _ = Value.tuple #[.agg (cH O).toArray, .bool K] by rw [hO, hK]) ?_
       exact J.finX rfl (fun _ hw => ⟨⟨x6, uu⟩, rfl, fun _ _ _ => rfl, hF, hw⟩)
      ·obtain ⟨x6, uu⟩ := x
       show J _ _ _ _ _ ((36, .tuple #[.agg (cH O).toArray, .bool K]) :: _) _
       refine J.pr (fun hF => ?_); refine J.move rfl rfl ?_
       exact J.finX rfl (fun _ hw => ⟨⟨x6, uu⟩, rfl, fun _ _ _ => rfl, hF, hw⟩)
      ·obtain ⟨x6, uu⟩ := x
       show J _ _ _ _ _ ((29, .tuple #[.agg (cH O).toArray, .bool K]) :: _) _
       refine J.pr (fun hF => ?_); refine J.extract rfl rfl rfl ?_
       exact J.finX rfl (fun _ hw => ⟨⟨x6, uu⟩, rfl, fun _ _ _ => rfl, hF, hw⟩)
      ·obtain ⟨x6, uu⟩ := x
       show J _ _ _ _ _ ((29, .tuple #[.agg (cH O).toArray, .bool K]) :: _) _
       refine J.pr (fun hF => ?_); refine J.extract rfl rfl rfl ?_
       exact J.finX rfl (fun _ hw => ⟨⟨x6, uu⟩, rfl, fun _ _ _ => rfl, hF, hw⟩)
      ·obtain ⟨x6, uu⟩ := x
       show J _ _ _ _ _ (_) _
       refine J.pr (fun hF => ?_)
       have h11 : m 11 = false := by cases h : m 11 with
        | false => rfl
        | true => rw [hF h] at hm; cases hm
       refine J.alloc Ty.zIt rfl rfl (fun b6 => ?_)
       refine J.nil (JX.finB rfl (fun w1 hw => ⟨⟨⟨b6, uu⟩, rfl, fun j h1 h2 => ?_, ?_⟩, trivial⟩))
       ·match j, h1 with
        | 0, _ => (first | rfl | trivial)
        | 1, _ => (first | rfl | trivial)
        | 2, _ => (first | rfl | trivial)
        | 3, _ => (first | rfl | trivial)
        | 4, _ => (first | rfl | trivial)
        | 5, _ => (first | rfl | trivial)
        | 6, _ => (first | rfl | trivial)
        | 7, _ => (first | rfl | trivial)
        | 8, _ => (first | rfl | trivial)
        | 9, _ => (first | rfl | trivial)
        | 10, _ => exact absurd (h2.symm.trans hm) (by decide)
        | 11, _ => (first | rfl | trivial)
        | j + 12, h1 => omega
       show ((m 11 = true → true = true)) ∧ St w [vb, mb, lb, d, s] ((bif true then [(b6, cb (cH (bif m 11 then O else zH)) 28)] else []) ++ ((b3, cb (cT key ver (.slice a bs.length c)) 28) :: (vb, vaO (.pointer (some ⟨lb, 0, none⟩)) mb ((inc : Nat) : Int)) :: (mb, .map es ck) :: (lb, lgO d q down) :: (d, dkO s n p k) :: (s, dkS B) :: [])) w1
       simp only [hm, h11, cond_true, cond_false] at hw ⊢
       exact ⟨fun _ => (by first | trivial | rfl), hw⟩
      ·obtain ⟨x6, uu⟩ := x
       show J _ _ _ _ _ ((6, .pointer (some ⟨x6, 0, none⟩)) :: (37, .agg (cH O).toArray) :: (29, .tuple #[.agg (cH O).toArray, .bool K]) :: (36, .tuple #[.agg (cH O).toArray, .bool K]) :: (35, .agg (cI key).toArray) :: (34, .pointer (some ⟨b3, 0 + 0, none⟩)) :: (33, .map (some mb)) :: (32, .pointer (some ⟨vb, 0 + 1, none⟩)) :: (31, .pointer (some ⟨vb, 0, none⟩)) :: (30, .pointer (some ⟨vb, 0, none⟩)) :: (37, .agg (cH O).toArray) :: (6, .pointer (some ⟨x6, 0, none⟩)) :: _) _
       have hp10 : m 10 = true := predsT hp (by kernel_rfl)
       have hp10 : m 10 = true := predsT hp (by kernel_rfl)
       refine J.pr (fun hF => ?_)
       refine J.conseq (I' := St w [vb, mb, lb, d, s] ((x6, cb (cH zH) 28) :: (b3, cb (cT key ver (.slice a bs.length c)) 28) :: (vb, vaO (.pointer (some ⟨lb, 0, none⟩)) mb ((inc : Nat) : Int)) :: (mb, .map es ck) :: (lb, lgO d q down) :: (d, dkO s n p k) :: (s, dkS B) :: [])) ?_ (fun w1 hw => by simp only [hm, hp10, cond_true, cond_false] at hw; exact hw)
       refine J.storeW (cs := cH zH) (vs := cH O) Ty.s28 rfl rfl rfl rfl rfl (one_cH hOs) .here ?_
       refine J.nil (JX.finN undef (fun w1 hw => ⟨⟨x6, uu⟩, rfl, fun j h1 h2 => ?_, ?_⟩))
       ·match j, h1 with
        | 0, _ => (first | rfl | trivial)
        | 1, _ => (first | rfl | trivial)
        | 2, _ => (first | rfl | trivial)
        | 3, _ => (first | rfl | trivial)
        | 4, _ => (first | rfl | trivial)
        | 5, _ => (first | rfl | trivial)
        | 6, _ => (first | rfl | trivial)
        | 7, _ => (first | rfl | trivial)
        | 8, _ => (first | rfl | trivial)
        | 9, _ => (first | rfl | trivial)
        | 10, _ => (first | rfl | trivial)
        | 11, _ => (first | rfl | trivial)
        | j + 12, h1 => omega
       show ((true = true → m 10 = true)) ∧ St w [vb, mb, lb, d, s] ((bif m 10 then [(x6, cb (cH (bif true then O else zH)) 28)] else []) ++ ((b3, cb (cT key ver (.slice a bs.length c)) 28) :: (vb, vaO (.pointer (some ⟨lb, 0, none⟩)) mb ((inc : Nat) : Int)) :: (mb, .map es ck) :: (lb, lgO d q down) :: (d, dkO s n p k) :: (s, dkS B) :: [])) w1
       simp only [hm, hp10, cond_true, cond_false] at hw ⊢
       exact ⟨fun _ => (by first | trivial | rfl), hw⟩
     case htail =>
      intro x
      obtain ⟨x6, uu⟩ := x
      show J _ _ _ _ _ ((6, .pointer (some ⟨x6, 0, none⟩)) :: (38, .bool K) :: (37, .agg (cH O).toArray) :: (29, .tuple #[.agg (cH O).toArray, .bool K]) :: (36, .tuple #[.agg (cH O).toArray, .bool K]) :: (35, .agg (cI key).toArray) :: (34, .pointer (some ⟨b3, 0 + 0, none⟩)) :: (33, .map (some mb)) :: (32, .pointer (some ⟨vb, 0 + 1, none⟩)) :: (31, .pointer (some ⟨vb, 0, none⟩)) :: (30, .pointer (some ⟨vb, 0, none⟩)) :: _) (fun w1 => ((true = true → true = true)) ∧ St w [vb, mb, lb, d, s] ((bif true then [(x6, cb (cH (bif true then O else zH)) 28)] else []) ++ ((b3, cb (cT key ver (.slice a bs.length c)) 28) :: (vb, vaO (.pointer (some ⟨lb, 0, none⟩)) mb ((inc : Nat) : Int)) :: (mb, .map es ck) :: (lb, lgO d q down) :: (d, dkO s n p k) :: (s, dkS B) :: [])) w1)
      refine J.pr (fun hF => ?_)
      refine J.conseq (I' := St w [vb, mb, lb, d, s] ((x6, cb (cH O) 28) :: (b3, cb (cT key ver (.slice a bs.length c)) 28) :: (vb, vaO (.pointer (some ⟨lb, 0, none⟩)) mb ((inc : Nat) : Int)) :: (mb, .map es ck) :: (lb, lgO d q down) :: (d, dkO s n p k) :: (s, dkS B) :: [])) ?_ (fun w1 hw => by simp only [cond_true] at hw; exact hw)
      refine J.assign rfl rfl ?_; refine J.nil ?_; refine JX.thenN (hK14 _ _ ?_); refine JC.seq (fun K15 hK15 => ?_)
      cases K with
      | false =>
       have hnb : (false = true → newB ver O.ver = true) := fun h => (by cases h)
       refine JC.region ?_; refine J.move rfl rfl ?_; refine J.move rfl rfl ?_
       first | refine J.skip rfl rfl rfl rfl rfl ?_ | refine J.skipU rfl rfl rfl rfl ?_ | (refine J.unguard rfl rfl rfl ?_; refine J.fieldAddr Ty.fd28_1 rfl rfl ?_)
       first | refine J.skip rfl rfl rfl rfl rfl ?_ | refine J.skipU rfl rfl rfl rfl ?_ | (refine J.unguard rfl rfl rfl ?_; refine J.loadOA Ty.a25 Ty.s25 rfl zm (by exact rfl) rfl rfl ?_)
       first | refine J.skip rfl rfl rfl rfl rfl ?_ | refine J.skipU rfl rfl rfl rfl ?_ | (refine J.unguard rfl rfl rfl ?_; refine J.fieldAddr Ty.fd28_1 rfl rfl ?_)
       first | refine J.skip rfl rfl rfl rfl rfl ?_ | refine J.skipU rfl rfl rfl rfl ?_ | (refine J.unguard rfl rfl rfl ?_; refine J.loadOA Ty.a25 Ty.s25 rfl zm (by exact rfl) rfl rfl ?_)
       first | refine J.skip rfl rfl rfl rfl rfl ?_ | refine J.skipU rfl rfl rfl rfl ?_ | (refine J.unguard rfl rfl rfl ?_; fail)
       first | refine J.skip rfl rfl rfl rfl rfl ?_ | refine J.skipU rfl rfl rfl rfl ?_ | (refine J.unguard rfl rfl rfl ?_; refine J.not rfl rfl ?_)
       (first | refine J.pickT rfl rfl rfl ?_ | refine J.pickF rfl rfl rfl ?_)
       refine J.nil ?_; refine JX.thenN (hK15 _ _ ?_)
       first | refine JC.condF rfl ?_ | refine JC.cond rfl (fun h => by first | (exfalso; simp at h; omega) | (simp at h)) (fun _ => ?_)
       refine JC.skip ?_; refine JX.thenN ?_
       exact JX.cut (hK7 x6) ⟨rfl, rfl, trivial⟩ (fun w1 hw => ⟨hnb, hw⟩)
      | true =>
       refine JC.region ?_; refine J.move rfl rfl ?_; refine J.move rfl rfl ?_
       first | refine J.skip rfl rfl rfl rfl rfl ?_ | refine J.skipU rfl rfl rfl rfl ?_ | (refine J.unguard rfl rfl rfl ?_; refine J.fieldAddr Ty.fd28_1 rfl rfl ?_)
       refine J.unguard rfl rfl rfl ?_; refine J.loadA (vs := cV ver) Ty.a25 Ty.s25 rfl rfl (fun w1 hw => Cells.of_block (hw.own ((b3, cb (cT key ver (.slice a bs.length c)) 28)) zm) rfl) rfl ?_
       first | refine J.skip rfl rfl rfl rfl rfl ?_ | refine J.skipU rfl rfl rfl rfl ?_ | (refine J.unguard rfl rfl rfl ?_; refine J.fieldAddr Ty.fd28_1 rfl rfl ?_)
       refine J.unguard rfl rfl rfl ?_; refine J.loadA (vs := cV O.ver) Ty.a25 Ty.s25 rfl rfl (fun w1 hw => Cells.of_block (hw.own ((x6, cb (cH O) 28)) zm) rfl) rfl ?_; refine J.unguard rfl rfl rfl ?_; refine J.callB (v := .bool (newB ver O.ver)) (fun w1 w2 hw hb => hw.step hb) Ty.bd13 rfl rfl (fun w1 hw => newer_spec ver O.ver w1) ?_
       first | refine J.skip rfl rfl rfl rfl rfl ?_ | refine J.skipU rfl rfl rfl rfl ?_ | (refine J.unguard rfl rfl rfl ?_; refine J.not rfl rfl ?_)
       (first | refine J.pickT rfl rfl rfl ?_ | refine J.pickF rfl rfl rfl ?_)
       refine J.nil ?_; refine JX.thenN (hK15 _ _ ?_); refine JC.cond rfl (fun h2 => ?_) (fun h2 => ?_)
       ·have hnf : newB ver O.ver = false := by simpa using h2
        have hg : vmergeP n q down ⟨B, p, k⟩ (L.map HI.it) ⟨key, ver, bs⟩ = (false, 0, q, down, ⟨B, p, k⟩) := by unfold vmergeP; rw [if_neg hor, if_neg hb64, old_it, hget_it, Option.isSome_map, hO, hK, if_pos ⟨rfl, hnf⟩]
        refine JC.seq (fun K16 hK16 => ?_); refine JC.region ?_; refine J.assign rfl rfl ?_; refine J.assign rfl rfl ?_; refine J.nil ?_; refine JX.thenN (hK16 _ _ ?_); refine JC.ret ?_; refine JX.thenR ?_; refine JX.ret2 rfl rfl rfl (fun w1 hw => ?_)
        exact ⟨.no 0 q down ⟨B, p, k⟩, rfl, hg, (hw.perm (zp : List.Perm _ ([(x6, cb (cH O) 28), (b3, cb (cT key ver (.slice a bs.length c)) 28)] ++ (vltB vb mb lb d s n q down inc es ck ⟨B, p, k⟩)))).drop (List.sublist_append_right _ _)⟩
       ·have hnb : (true = true → newB ver O.ver = true) := fun _ => by simpa using h2
        refine JC.skip ?_; refine JX.thenN ?_
        exact JX.cut (hK7 x6) ⟨rfl, rfl, trivial⟩ (fun w1 hw => ⟨hnb, hw⟩)

end Go.Proofs.Ytoaenmlhehcjfaa
/-
 Plain laws: a record that is laid is read again; appending with power; what a vault's log holds.
-/
namespace Go.Proofs.Ytoaenmlhehcjfaa
open Go.J Go.RowKit
set_option linter.unusedVariables false
set_option linter.unusedSimpArgs false
set_option maxRecDepth 8000
theorem div_pow256 (n a b : Nat) (h : b ≤ a) : n / 256 ^ a = n / 256 ^ b / 256 ^ (a - b) := by
 rw [Nat.div_div_eq_div_mul, ← Nat.pow_add]
 congr 2; omega
def beB (n : Nat) : List UInt8 := (List.range (wid n)).map (fun i => UInt8.ofNat (n / 2 ^ (8 * (wid n - 1 - i))))
theorem beB_len (n : Nat) : (beB n).length = wid n := by simp [beB]
theorem beB_at {n i : Nat} (h : i < (beB n).length) : (beB n)[i] = UInt8.ofNat (n / 256 ^ (wid n - 1 - i)) := by
 simp only [beB, List.getElem_map, List.getElem_range]
 rw [Nat.pow_mul]
theorem numB_eq (n : Nat) : numB n = UInt8.ofNat (wid n) :: beB n := rfl
theorem beB_num {n : Nat} (hn : n < 18446744073709551616) : ∀ j, j ≤ wid n → num ((beB n).take j) = n / 256 ^ (wid n - j) := by
 intro j
 induction j with
 | zero =>
  intro _
  rw [List.take_zero, Nat.sub_zero, Nat.div_eq_of_lt (wid_ub hn)]; rfl
 | succ j ih =>
  intro h
  have hl : j < (beB n).length := by rw [beB_len]; omega
  rw [num_succ hl, ih (by omega), beB_at hl, div_pow256 n (wid n - j) (wid n - (j + 1)) (by omega), show wid n - j - (wid n - (j + 1)) = 1 by omega, show wid n - 1 - j = wid n - (j + 1) by omega, Nat.pow_one, UInt8.toNat_ofNat']
  omega
theorem beB_all {n : Nat} (hn : n < 18446744073709551616) : num (beB n) = n := by
 have h := beB_num hn (wid n) (Nat.le_refl _)
 rwa [List.take_of_length_le (by rw [beB_len]; exact Nat.le_refl _), Nat.sub_self, Nat.pow_zero, Nat.div_one] at h
theorem wid8 (n : Nat) : (UInt8.ofNat (wid n)).toNat = wid n := by
 have := wid_le n
 rw [UInt8.toNat_ofNat']
 omega
theorem getD_mid (a b : List UInt8) (x : UInt8) : (a ++ x :: b).getD a.length 0 = x := by
 rw [List.getD_eq_getElem?_getD, List.getElem?_append_right (Nat.le_refl _), Nat.sub_self]; rfl
theorem getN_put {n : Nat} (hn : n < 18446744073709551616) (a b : List UInt8) : getN (a ++ (numB n ++ b)) a.length = (n, a.length + (numB n).length, 0) := by
 have hw := wid_le n
 have hd : (a ++ (numB n ++ b)).getD a.length 0 = UInt8.ofNat (wid n) := by rw [numB_eq, List.cons_append]; exact getD_mid _ _ _
 have hk : ((a ++ (numB n ++ b)).getD a.length 0).toNat = wid n := by rw [hd, wid8]
 have hl : (a ++ (numB n ++ b)).length = a.length + (1 + wid n) + b.length := by rw [List.length_append, List.length_append, numB_len]; omega
 have hdr : ((a ++ (numB n ++ b)).drop (a.length + 1)).take (wid n) = beB n := by
  rw [← List.drop_drop, List.drop_left, numB_eq, List.cons_append, List.drop_succ_cons, List.drop_zero, ← beB_len n, List.take_left]
 unfold getN
 rw [if_neg (by omega), if_neg (by omega), hk, if_neg (by omega), if_neg (by omega), if_neg ?_, hdr, beB_all hn, numB_len]
 ·congr 2; omega
 ·rintro ⟨h1, h2⟩
  have e : (a ++ (numB n ++ b)).getD (a.length + 1) 0 = (beB n)[0]'(by rw [beB_len]; exact h1) := by
   rw [List.getD_eq_getElem?_getD, List.getElem?_append_right (by omega), numB_eq, List.cons_append, show a.length + 1 - a.length = 0 + 1 by omega, List.getElem?_cons_succ, List.getElem?_append_left (by rw [beB_len]; exact h1), List.getElem?_eq_getElem (by rw [beB_len]; exact h1)]
   rfl
  rw [e, beB_at, UInt8.toNat_ofNat', Nat.sub_zero] at h2
  have h3 := (wid_lt (n := n) (k := wid n - 1) (by omega)).1 (by omega)
  rw [Nat.pow_mul] at h3
  have h4 := wid_ub hn
  have h5 : n / 256 ^ (wid n - 1) < 256 := by
   rw [Nat.div_lt_iff_lt_mul (Nat.pow_pos (by omega)), ← Nat.pow_succ']
   rw [show (wid n - 1).succ = wid n by omega]
   exact h4
  have h6 : (2 : Nat) ^ 8 = 256 := by decide
  rw [h6] at h3
  omega
theorem getI_put (k : IDV) (a b : List UInt8) : getI (a ++ (bI k ++ b)) a.length = (k, a.length + 16, 0) := by
 have hl : (a ++ (bI k ++ b)).length = a.length + 16 + b.length := by rw [List.length_append, List.length_append, bI_len]; omega
 unfold getI
 rw [if_neg (by omega), if_neg (by omega), List.drop_left, show (bI k ++ b).take 16 = bI k from List.take_left (l₁ := bI k), idB_bI]
theorem getT_put {t : List UInt8} {most : Nat} (ht : t.length ≤ most) (hm : most < 18446744073709551616) (a b : List UInt8) : getT (a ++ (textB t ++ b)) a.length most = (t, a.length + (textB t).length, 0) := by
 have hN : getN (a ++ (textB t ++ b)) a.length = (t.length, a.length + (numB t.length).length, 0) := by
  unfold textB
  rw [List.append_assoc]
  exact getN_put (by omega) a (t ++ b)
 have hl : (a ++ (textB t ++ b)).length = a.length + (numB t.length).length + t.length + b.length := by
  unfold textB
  simp only [List.length_append]; omega
 unfold getT
 rw [hN]
 simp only
 rw [if_neg (by simp), if_neg (by omega), if_neg (by omega)]
 have hd : ((a ++ (textB t ++ b)).drop (a.length + (numB t.length).length)).take t.length = t := by
  unfold textB
  rw [← List.drop_drop, List.drop_left, List.append_assoc, List.drop_left, List.take_left]
 rw [hd]
 have e : (textB t).length = (numB t.length).length + t.length := by unfold textB; rw [List.length_append]
 rw [e, Nat.add_assoc]
theorem readP_incB {inc m : Nat} (h1 : inc < m) (h2 : m ≤ 1048576) : readP inc (incB m) = some (.inl m) := by
 have hN0 : getN (incB m) 0 = (1, (numB 1).length, 0) := by
  have := getN_put (n := 1) (by omega) [] (numB m)
  rw [List.nil_append, List.length_nil, Nat.zero_add] at this
  exact this
 have hN1 : getN (incB m) (numB 1).length = (m, (numB 1).length + (numB m).length, 0) := by
  have := getN_put (n := m) (by omega) (numB 1) []
  rw [List.append_nil] at this
  exact this
 exact readP_inc hN0 hN1 rfl (by unfold incB; rw [List.length_append]; omega) (by omega) (by omega)
/-- an item that may be kept -/
def okIt (x : ItV) : Prop := 1 ≤ x.ver.n ∧ x.ver.n < 4611686018427387904 ∧ x.bs.length ≤ 64
theorem readP_formB {inc : Nat} {x : ItV} (h : okIt x) : readP inc (formB x) = some (.inr x) := by
 obtain ⟨key, ⟨vn, who⟩, bs⟩ := x
 obtain ⟨h1, h2, h3⟩ := h
 simp only at h1 h2 h3
 obtain ⟨v, rfl⟩ : ∃ v : Nat, vn = (v : Int) := ⟨vn.toNat, by omega⟩
 have hv : ((v : Nat) : Int).toNat = v := Int.toNat_natCast v
 have e : formB ⟨key, ⟨(v : Int), who⟩, bs⟩ = numB 2 ++ (bI key ++ (numB v ++ (bI who ++ (textB bs ++ [])))) := by
  unfold formB
  simp only [hv, List.append_assoc, List.append_nil]
 rw [e]
 have hN0 : getN (numB 2 ++ (bI key ++ (numB v ++ (bI who ++ (textB bs ++ []))))) 0 = (2, (numB 2).length, 0) := by
  have := getN_put (n := 2) (by omega) [] (bI key ++ (numB v ++ (bI who ++ (textB bs ++ []))))
  rw [List.nil_append, List.length_nil, Nat.zero_add] at this
  exact this
 have hK1 := getI_put key (numB 2) (numB v ++ (bI who ++ (textB bs ++ [])))
 have hN2 := getN_put (n := v) (by omega) (numB 2 ++ bI key) (bI who ++ (textB bs ++ []))
 rw [List.append_assoc, List.length_append, bI_len] at hN2
 have hK3 := getI_put who (numB 2 ++ (bI key ++ numB v)) (textB bs ++ [])
 have hT4 := getT_put h3 (by omega) (numB 2 ++ (bI key ++ (numB v ++ bI who))) []
 simp only [List.append_assoc, List.length_append, bI_len, Nat.add_assoc] at hK1 hN2 hK3 hT4 ⊢
 exact readP_item hN0 hK1 rfl hN2 (by omega) (by omega) hK3 rfl hT4 rfl (by simp only [List.length_append, bI_len, List.length_nil]; omega)
/-- with endless power all is written -/
theorem dws_endless : ∀ (xs : List (Nat × List UInt8)) (σ : DS), σ.p < 0 → ∃ σ', dws σ xs = (σ', true) ∧ σ'.p = σ.p
 | [], σ, _ => ⟨σ, rfl, rfl⟩
 | x :: xs, σ, h => by
  have h1 : (dw σ x.1 x.2).p = σ.p := by
   show (if 0 < σ.p then σ.p - 1 else σ.p) = σ.p
   rw [if_neg (by omega)]
  obtain ⟨σ', h2, h3⟩ := dws_endless xs (dw σ x.1 x.2) (by rw [h1]; exact h)
  exact ⟨σ', by rw [dws_cons (by omega)]; exact h2, by rw [h3, h1]⟩
theorem append_ok {n : Nat} {q : LogP} {σ : DS} {rec_ : List UInt8} (hp : σ.p < 0) (hl : rec_.length ≤ 1024) (hr : needN rec_.length ≤ n - 2 - q.used) :
  ∃ σ', appendP n q false σ rec_ = (0, ⟨q.gen + 1, q.used + needN rec_.length, q.cnt + 1, q.recs ++ [rec_]⟩, false, σ') ∧ σ'.p = σ.p := by
 obtain ⟨σ', h1, h2⟩ := dws_endless (planP q.gen q.used q.cnt rec_) σ hp
 exact ⟨σ', appendP_ok (by omega) (by omega) h1, h2⟩
/-- what holds between a vault's log, its disk, and its items -/
structure VaI (n : Nat) (q : LogP) (σ : DS) (inc : Nat) (L : List ItV) : Prop where
 log : LogI n q σ
 held : heldV q.recs = some (inc, L)
 inc : inc ≤ 1048576
theorem needN_1 {k : Nat} (h : k ≤ 62) : needN k = 1 := by unfold needN; omega
theorem incB_len (m : Nat) : (incB m).length ≤ 18 := by
 unfold incB
 have h1 := numB_le 1
 have h2 := numB_le m
 rw [List.length_append]; omega

end Go.Proofs.Ytoaenmlhehcjfaa
/-
 The chapter's example of layer 18: contract.
-/
namespace Go.Proofs.Ytoaenmlhehcjfaa
open Go.J Go.RowKit
set_option linter.unusedVariables false
set_option linter.unusedSimpArgs false
set_option maxRecDepth 8000
def nI (k : UInt8) : IDV := fun i => if i = 15 then k else 0
theorem vopen_ok {n inc : Nat} {q : LogP} {σ : DS} {L : List ItV} (hn : n ≤ 4096) (hI : LogI n q σ) (hh : heldV q.recs = some (inc, L)) (hi : inc < 1048576) (hp : σ.p < 0) (hg : q.gen + 1 < 9223372036854775808) (hr : 1 ≤ n - 2 - q.used) :
  ∃ σ', vopenP n σ = (0, some (⟨q.gen + 1, q.used + 1, q.cnt + 1, q.recs ++ [incB (inc + 1)]⟩, inc + 1, L), σ') ∧ LogI n ⟨q.gen + 1, q.used + 1, q.cnt + 1, q.recs ++ [incB (inc + 1)]⟩ σ' ∧ σ'.p = σ.p ∧ σ.k ≤ σ'.k ∧ σ'.k ≤ σ.k + 19 := by
 have hl := incB_len (inc + 1)
 have hn1 : needN (incB (inc + 1)).length = 1 := needN_1 (by omega)
 obtain ⟨σ', h1, h2⟩ := append_ok (n := n) (q := q) (σ := σ) (rec_ := incB (inc + 1)) hp (by omega) (by rw [hn1]; exact hr)
 rw [hn1] at h1
 obtain ⟨e, q', dn, σ2, h3, h4, h5, h6, _⟩ := append_law (down := false) (rec_ := incB (inc + 1)) hn hI hg
 rw [h1] at h3
 simp only [Prod.mk.injEq] at h3
 obtain ⟨rfl, rfl, rfl, rfl⟩ := h3
 exact ⟨σ', vopenP_ok hI.open_ hh (by omega) h1 rfl, h4, h2, h5, h6⟩
theorem put_ok {n : Nat} {q : LogP} {σ : DS} {x : ItV} (hn : n ≤ 4096) (hI : LogI n q σ) (hx : x.bs.length ≤ 64) (hp : σ.p < 0) (hg : q.gen + 1 < 9223372036854775808) (hr : needN (formB x).length ≤ n - 2 - q.used) :
  ∃ σ', appendP n q false σ (formB x) = (0, ⟨q.gen + 1, q.used + needN (formB x).length, q.cnt + 1, q.recs ++ [formB x]⟩, false, σ') ∧ LogI n ⟨q.gen + 1, q.used + needN (formB x).length, q.cnt + 1, q.recs ++ [formB x]⟩ σ' ∧ σ'.p = σ.p ∧ σ.k ≤ σ'.k ∧ σ'.k ≤ σ.k + 19 := by
 have hl := formB_le x
 obtain ⟨σ', h1, h2⟩ := append_ok (n := n) (q := q) (σ := σ) (rec_ := formB x) hp (by omega) hr
 obtain ⟨e, q', dn, σ2, h3, h4, h5, h6, _⟩ := append_law (down := false) (rec_ := formB x) hn hI hg
 rw [h1] at h3
 simp only [Prod.mk.injEq] at h3
 obtain ⟨rfl, rfl, rfl, rfl⟩ := h3
 exact ⟨σ', h1, h4, h2, h5, h6⟩
theorem held_inc {rs : List (List UInt8)} {inc : Nat} {L : List ItV} (h : heldV rs = some (inc, L)) (hi : inc < 1048576) : heldV (rs ++ [incB (inc + 1)]) = some (inc + 1, L) := by
 rw [heldV_snoc, h]
 simp only [Option.bind_some, stepV, readP_incB (show inc < inc + 1 by omega) (show inc + 1 ≤ 1048576 by omega)]
theorem held_item {rs : List (List UInt8)} {inc : Nat} {L : List ItV} {x : ItV} (h : heldV rs = some (inc, L)) (hx : okIt x) : heldV (rs ++ [formB x]) = some (inc, takeV L x) := by
 rw [heldV_snoc, h]
 simp only [Option.bind_some, stepV, readP_formB hx]
def itF : ItV := ⟨nI 3, ⟨1, nI 7⟩, [97]⟩
def QF1 : LogP := ⟨1, 1, 1, [incB 1]⟩
def QF2 : LogP := ⟨2, 2, 2, [incB 1, formB itF]⟩
def QF3 : LogP := ⟨3, 3, 3, [incB 1, formB itF, incB 2]⟩
theorem itF_need : needN (formB itF).length = 1 := by decide +kernel
theorem itG_need : needN (formB ⟨nI 3, ⟨1, nI 8⟩, []⟩).length = 1 := by decide +kernel
theorem logI_zero {n : Nat} (h : 3 ≤ n) (hn : n ≤ 4096) (p k : Int) (hp : p < 9223372036854775808) : LogI n ⟨0, 0, 0, []⟩ ⟨List.replicate (64 * n) 0, p, k⟩ := ⟨by simp, openP_zero h hn, hp⟩
theorem fx_all : ∃ σ1 σ2 σ3 : DS, ∃ q4 σ4, (vopenP 20 ⟨List.replicate (64 * 20) 0, -1, 0⟩ = (0, some (QF1, 1, []), σ1) ∧ LogI 20 QF1 σ1 ∧ 0 ≤ σ1.k ∧ σ1.k ≤ 100) ∧
  (vputP 20 QF1 false σ1 [] (nI 3) [97] (nI 7) = (0, some itF, QF2, false, σ2) ∧ LogI 20 QF2 σ2 ∧ 0 ≤ σ2.k ∧ σ2.k ≤ 200) ∧
  (vopenP 20 σ2 = (0, some (QF3, 2, [itF]), σ3) ∧ LogI 20 QF3 σ3 ∧ 0 ≤ σ3.k ∧ σ3.k ≤ 300) ∧
  vmergeP 20 QF3 false σ3 [itF] ⟨nI 3, ⟨1, nI 6⟩, []⟩ = (false, 0, QF3, false, σ3) ∧
  vmergeP 20 QF3 false σ3 [itF] ⟨nI 3, ⟨1, nI 8⟩, []⟩ = (true, 0, q4, false, σ4) := by
 have h0 : heldV [] = some (0, []) := rfl
 have hh1 : heldV [incB 1] = some (1, []) := held_inc (rs := []) h0 (by omega)
 have hh2 : heldV [incB 1, formB itF] = some (1, [itF]) := held_item (rs := [incB 1]) hh1 ⟨by decide, by decide, by decide⟩
 obtain ⟨σ1, a1, a2, a3, a4, a5⟩ := vopen_ok (n := 20) (q := ⟨0, 0, 0, []⟩) (σ := ⟨List.replicate (64 * 20) 0, -1, 0⟩) (by omega) (logI_zero (by omega) (by omega) _ _ (by omega)) h0 (by omega) (by show (-1 : Int) < 0; omega) (by simp) (by simp)
 simp only at a3 a4 a5
 obtain ⟨σ2, b1, b2, b3, b4, b5⟩ := put_ok (n := 20) (q := QF1) (σ := σ1) (x := itF) (by omega) a2 (by decide) (by omega) (by decide) (by rw [itF_need]; decide)
 rw [itF_need] at b1 b2
 obtain ⟨σ3, c1, c2, c3, c4, c5⟩ := vopen_ok (n := 20) (q := QF2) (σ := σ2) (by omega) b2 hh2 (by omega) (by omega) (by decide) (by decide)
 obtain ⟨σ4, d1, _⟩ := put_ok (n := 20) (q := QF3) (σ := σ3) (x := ⟨nI 3, ⟨1, nI 8⟩, []⟩) (by omega) c2 (by decide) (by omega) (by decide) (by rw [itG_need]; decide)
 obtain ⟨q4, d2⟩ : ∃ q, appendP 20 QF3 false σ3 (formB ⟨nI 3, ⟨1, nI 8⟩, []⟩) = (0, q, false, σ4) := ⟨_, d1⟩
 refine ⟨σ1, σ2, σ3, q4, σ4, ⟨a1, a2, by omega, by omega⟩, ⟨?_, b2, by omega, by omega⟩, ⟨c1, c2, by omega, by omega⟩, ?_, ?_⟩
 ·unfold vputP
  rw [if_neg (by decide), if_neg (by decide +kernel), show (⟨nI 3, ⟨verN [] (nI 3) + 1, nI 7⟩, [97]⟩ : ItV) = itF by decide +kernel, b1]
  rfl
 ·unfold vmergeP
  rw [if_neg (by decide), if_neg (by decide), if_pos (by decide +kernel)]
 ·unfold vmergeP
  rw [if_neg (by decide), if_neg (by decide), if_neg (by decide +kernel), d2]
  rfl

theorem n18_spec (k : UInt8) (w : World) :
  Calls Try.prog 38 [u8 k].toArray w fun r w' => r = .returned (.agg (cI (nI k)).toArray) ∧ Bel w w' := by
 refine calls_of_J (args := [u8 k]) (e := [(0, u8 k)]) Try.func38 rfl rfl ⟨rfl, trivial⟩ (St.start w) ?_; refine JC.seq (fun K0 hK0 => ?_); refine JC.region ?_; refine J.alloc Ty.zID rfl rfl (fun b2 => ?_); refine J.nil ?_; refine JX.thenN (hK0 _ _ ?_); refine JC.seq (fun K1 hK1 => ?_); refine JC.region ?_; refine J.move rfl rfl ?_; refine J.buildA (cs := cI (nI k)) Ty.ar23 Ty.s5 Ty.z23 rfl (by kernel_rfl) rfl ?_; refine J.storeW (cs := cI zI) (vs := cI (nI k)) Ty.s23 rfl rfl rfl rfl rfl (one_cI _) .here ?_; refine J.nil ?_; refine JX.thenN (hK1 _ _ ?_); refine JC.ret ?_; refine JX.retC rfl rfl Ty.a23 Ty.s23 (vs := cI (nI k)) rfl (fun w1 hw => Cells.of_block (hw.own _ (.head _)) rfl) (fun w1 hw => ?_)
 exact ⟨rfl, (hw.drop (List.nil_sublist _)).below⟩

set_option maxHeartbeats 2000000 in
theorem fixed18_spec (w : World) :
  Calls Try.prog 10 [].toArray w fun r w' => r = .returned (.bool true) ∧ Bel w w' := by
 obtain ⟨σ1, σ2, σ3, q4, σ4, ⟨hO1, hI1, hk1, hkb1⟩, ⟨hO2, hI2, hk2, hkb2⟩, ⟨hO3, hI3, hk3, hkb3⟩, hM6, hM8⟩ := fx_all
 refine calls_of_J (args := []) (e := []) Try.func10 rfl rfl trivial (St.start w) ?_; refine JC.seq (fun K0 hK0 => ?_); refine JC.region ?_; refine J.assign rfl rfl ?_; refine J.nil ?_; refine JX.thenN (hK0 _ _ ?_); refine JC.seq (fun K1 hK1 => ?_); refine JC.region ?_; refine J.callS (α := Nat × Nat) (l1 := []) (L := fun x => [(x.1, dkO x.2 (min (max (20 : Int) 0) 4096).toNat (-1) 0), (x.2, dkS (List.replicate (64 * (min (max (20 : Int) 0) 4096).toNat) 0))]) (V := fun x => .pointer (some ⟨x.1, 0, none⟩)) (Pr := fun _ => True) Ty.bd15 rfl rfl (fun w1 hw => new_spec 20 w1) (fun x _ => ?_)
 obtain ⟨d, s⟩ := x
 have hN : (min (max (20 : Int) 0) 4096).toNat = 20 := by decide
 simp only [hN, List.append_nil]
 refine J.assign rfl rfl ?_; refine J.nil ?_; refine JX.thenN (hK1 _ _ ?_); refine JC.seq (fun K2 hK2 => ?_); refine JC.region ?_; refine J.move rfl rfl ?_; refine J.perm ([(d, dkO s 20 (-1) 0), (s, dkS (List.replicate (64 * 20) 0))] ++ []) (.refl _) ?_; refine J.callS (α := VO) (V := VO.val) (Pr := fun z => z.Pr 20 (⟨(List.replicate (64 * 20) 0), -1, 0⟩ : DS)) (L := fun z => z.lst d s 20) Ty.bd17 rfl rfl (fun w1 hw => vopen_spec d s 20 (List.replicate (64 * 20) 0) (-1) 0 w1 (St.owns hw) (by simp) (by omega) (by omega) (by omega) (by omega)) (fun z hz => ?_)
 rcases z with ⟨ez, sz⟩ | ⟨v1, m1, l1, q1, inc1, L1, es1, ck1, sz⟩
 ·exact absurd (congrArg (fun x => x.1) (hz.1.symm.trans hO1)) hz.2
 obtain ⟨hz1, hT1, hV1⟩ := hz
 rw [hO1] at hz1
 simp only [Prod.mk.injEq, Option.some.injEq, true_and] at hz1
 obtain ⟨⟨rfl, rfl, hL1⟩, rfl⟩ := hz1
 obtain rfl := List.map_eq_nil_iff.1 hL1.symm
 refine J.name 16 rfl (show _ = Value.tuple #[.pointer (some ⟨v1, 0, none⟩), .int .i64 0] from rfl) ?_; refine J.perm ((v1, vaO (.pointer (some ⟨l1, 0, none⟩)) m1 ((1 : Nat) : Int)) :: (m1, .map es1 ck1) :: (l1, lgO d QF1 false) :: (d, dkO s 20 σ1.p σ1.k) :: (s, dkS σ1.B) :: []) (by simp only [VO.lst, lpsH, List.flatMap_nil, List.append_nil]; exact zp) ?_; refine J.move rfl rfl ?_; refine J.extract rfl rfl rfl ?_; refine J.extract rfl rfl rfl ?_; refine J.assign rfl rfl ?_; refine J.assign rfl rfl ?_; refine J.nil ?_; refine JX.thenN (hK2 _ _ ?_); refine JC.seq (fun K3 hK3 => ?_); refine JC.seq (fun K4 hK4 => ?_); refine JC.region ?_; refine J.move rfl rfl ?_; refine J.eqNil Ty.u34 rfl rfl rfl ?_; refine J.move rfl rfl ?_
 first | refine J.skip rfl rfl rfl rfl rfl ?_ | refine J.skipU rfl rfl rfl rfl ?_ | (refine J.unguard rfl rfl rfl ?_; refine J.move rfl rfl ?_)
 first | refine J.skip rfl rfl rfl rfl rfl ?_ | refine J.skipU rfl rfl rfl rfl ?_ | (refine J.unguard rfl rfl rfl ?_; refine J.eqNil Ty.u38 rfl rfl rfl ?_)
 (first | refine J.pickT rfl rfl rfl ?_ | refine J.pickF rfl rfl rfl ?_)
 refine J.move rfl rfl ?_
 first | refine J.skip rfl rfl rfl rfl rfl ?_ | refine J.skipU rfl rfl rfl rfl ?_ | (refine J.unguard rfl rfl rfl ?_; refine J.move rfl rfl ?_)
 refine J.unguard rfl rfl rfl ?_; refine J.bin rfl rfl rfl rfl ?_; refine J.name 27 rfl (show _ = Value.bool false by simp) ?_
 (first | refine J.pickT rfl rfl rfl ?_ | refine J.pickF rfl rfl rfl ?_)
 refine J.move rfl rfl ?_
 first | refine J.skip rfl rfl rfl rfl rfl ?_ | refine J.skipU rfl rfl rfl rfl ?_ | (refine J.unguard rfl rfl rfl ?_; refine J.move rfl rfl ?_)
 refine J.unguard rfl rfl rfl ?_; refine J.callB (v := .int .i64 1) (fun w1 w2 hw hb => hw.step hb) Ty.bd18 rfl rfl (fun w1 hw => inc_spec v1 m1 _ 1 w1 (St.owns' hw)) ?_; refine J.unguard rfl rfl rfl ?_; refine J.bin rfl rfl rfl rfl ?_; refine J.name 32 rfl (show _ = Value.bool false by simp) ?_
 (first | refine J.pickT rfl rfl rfl ?_ | refine J.pickF rfl rfl rfl ?_)
 refine J.nil ?_; refine JX.thenN (hK4 _ _ ?_)
 first | refine JC.condF rfl ?_ | refine JC.cond rfl (fun h => by first | (exfalso; simp at h; omega) | (simp at h)) (fun _ => ?_)
 refine JC.skip ?_; refine JX.thenN (hK3 _ _ ?_); refine JC.seq (fun K5 hK5 => ?_); refine JC.region ?_; refine J.move rfl rfl ?_; refine J.callB (v := .agg (cI (nI 3)).toArray) (fun w1 w2 hw hb => hw.step hb) Ty.bd38 rfl rfl (fun w1 hw => n18_spec 3 w1) ?_; refine J.buildSl (cs := ([97].map u8 : List Value)) Ty.el26 Ty.s5 Ty.z5 rfl rfl rfl rfl rfl rfl rfl (fun b37 => ?_); refine J.convBytes Ty.u26 Ty.u5 rfl .here rfl ?_; refine J.perm ((b37, Obj.cells (([97].map u8) : List Value).toArray 5 (1, 2)) :: (v1, vaO (.pointer (some ⟨l1, 0, none⟩)) m1 ((1 : Nat) : Int)) :: (m1, .map es1 ck1) :: (l1, lgO d QF1 false) :: (d, dkO s 20 σ1.p σ1.k) :: (s, dkS σ1.B) :: []) (.refl _) ?_; refine J.callB (v := .agg (cI (nI 7)).toArray) (fun w1 w2 hw hb => hw.step hb) Ty.bd38 rfl rfl (fun w1 hw => n18_spec 7 w1) ?_; refine J.perm (vltB v1 m1 l1 d s 20 QF1 false 1 es1 ck1 ⟨σ1.B, σ1.p, σ1.k⟩ ++ [(b37, Obj.cells (([97].map u8) : List Value).toArray 5 (1, 2))]) zp ?_
 refine J.callS (α := PutR) (V := PutR.val) (Pr := fun z => z.Pr 20 QF1 false σ1 [] (nI 3) [97] (nI 7)) (L := fun z => z.lst v1 m1 l1 d s 20 1 es1 ck1) Ty.bd24 rfl rfl (fun w1 hw => vput_spec v1 m1 l1 d s 20 1 QF1 false σ1.B σ1.p σ1.k [] es1 ck1 hT1 hV1 hI1 (by omega) hk1 (by omega) (nI 3) (nI 7) [97] (.slice (some ⟨b37, 0, none⟩) 1 1) w1 (St.owns hw) (Row.own (cs := [97].map u8) (tb := 5) (fr := (1, 2)) hw (List.mem_append_right _ (.head _)) rfl (Nat.le_refl _)) (.inr fun b o k c e => by
  simp only [Value.slice.injEq, Option.some.injEq, Addr.mk.injEq] at e
  rw [← e.1.1]
  exact St.off (l1 := vltB v1 m1 l1 d s 20 QF1 false 1 es1 ck1 ⟨σ1.B, σ1.p, σ1.k⟩) hw (o := (b37, Obj.cells (([97].map u8) : List Value).toArray 5 (1, 2)).2) (.head _)) (by decide)) (fun z hz => ?_)
 rcases z with ⟨ez, qz, dz, sz⟩ | ⟨hp9, y, ly, es2, ck2, qz, dz, sz⟩
 ·exact absurd (congrArg (fun x => x.1) (hz.1.symm.trans hO2)) hz.2
 obtain ⟨hz1, hz2, hy, hT2⟩ := hz
 have hz3 := hO2.symm.trans hz1
 simp only [Prod.mk.injEq, Option.some.injEq, true_and] at hz3
 obtain ⟨hit, rfl, rfl, rfl⟩ := hz3
 obtain ⟨kh, vh, bh, sh, lh⟩ := hp9
 simp only [HI.it, itF, ItV.mk.injEq] at hit
 obtain ⟨rfl, rfl, rfl⟩ := hit
 simp only at hy
 obtain ⟨ay, cy, rfl, hcy⟩ := hy.form
 refine J.name 40 rfl (show _ = Value.tuple #[.agg (cT (nI 3) ⟨1, nI 7⟩ (.slice ay 1 cy)).toArray, .int .i64 0] from rfl) ?_; refine J.perm ((v1, vaO (.pointer (some ⟨l1, 0, none⟩)) m1 ((1 : Nat) : Int)) :: (m1, .map es2 ck2) :: (l1, lgO d QF2 false) :: (d, dkO s 20 σ2.p σ2.k) :: (s, dkS σ2.B) :: (lh ++ (ly ++ [(b37, Obj.cells (([97].map u8) : List Value).toArray 5 (1, 2))]))) (by simp only [PutR.lst]; exact zp) ?_; refine J.move rfl rfl ?_; refine J.extract rfl rfl rfl ?_; refine J.extract rfl rfl rfl ?_; refine J.alloc Ty.zIt rfl rfl (fun b4 => ?_); refine J.storeW (cs := cH zH) (vs := cT (nI 3) ⟨1, nI 7⟩ (.slice ay 1 cy)) Ty.s28 rfl rfl rfl rfl rfl one_cT .here ?_; refine J.assign rfl rfl ?_; refine J.nil ?_; refine JX.thenN (hK5 _ _ ?_); refine JC.seq (fun K6 hK6 => ?_); refine JC.region ?_; refine J.move rfl rfl ?_; refine J.perm ([(d, dkO s 20 σ2.p σ2.k), (s, dkS σ2.B)] ++ ((v1, vaO (.pointer (some ⟨l1, 0, none⟩)) m1 ((1 : Nat) : Int)) :: (m1, .map es2 ck2) :: (l1, lgO d QF2 false) :: (lh ++ (ly ++ [(b4, cb (cT (nI 3) ⟨1, nI 7⟩ (.slice ay 1 cy)) 28), (b37, Obj.cells (([97].map u8) : List Value).toArray 5 (1, 2))])))) zp ?_; refine J.callS (α := VO) (V := VO.val) (Pr := fun z => z.Pr 20 σ2) (L := fun z => z.lst d s 20) Ty.bd17 rfl rfl (fun w1 hw => vopen_spec d s 20 σ2.B σ2.p σ2.k w1 (St.owns hw) hI2.len (by omega) hk2 (by omega) hI2.p) (fun z hz => ?_)
 rcases z with ⟨ez, sz⟩ | ⟨v2, m2, l2, q1, inc1, L3, es3, ck3, sz⟩
 ·exact absurd (congrArg (fun x => x.1) (hz.1.symm.trans hO3)) hz.2
 obtain ⟨hz1, hT3, hV3⟩ := hz
 rw [hO3] at hz1
 simp only [Prod.mk.injEq, Option.some.injEq, true_and] at hz1
 obtain ⟨⟨rfl, rfl, hL3⟩, rfl⟩ := hz1
 obtain ⟨h2, rfl, hit2⟩ := List.map_eq_singleton_iff.1 hL3.symm
 obtain ⟨kh2, vh2, bh2, sv2, lp2⟩ := h2
 simp only [HI.it, itF, ItV.mk.injEq] at hit2
 obtain ⟨rfl, rfl, rfl⟩ := hit2
 refine J.name 45 rfl (show _ = Value.tuple #[.pointer (some ⟨v2, 0, none⟩), .int .i64 0] from rfl) ?_; refine J.perm ((v2, vaO (.pointer (some ⟨l2, 0, none⟩)) m2 ((2 : Nat) : Int)) :: (m2, .map es3 ck3) :: (l2, lgO d QF3 false) :: (d, dkO s 20 σ3.p σ3.k) :: (s, dkS σ3.B) :: (lp2 ++ ((v1, vaO (.pointer (some ⟨l1, 0, none⟩)) m1 ((1 : Nat) : Int)) :: (m1, .map es2 ck2) :: (l1, lgO d QF2 false) :: (lh ++ (ly ++ [(b4, cb (cT (nI 3) ⟨1, nI 7⟩ (.slice ay 1 cy)) 28), (b37, Obj.cells (([97].map u8) : List Value).toArray 5 (1, 2))]))))) (by simp only [VO.lst, lpsH, List.flatMap_cons, List.flatMap_nil, List.append_nil]; exact zp) ?_; refine J.move rfl rfl ?_; refine J.extract rfl rfl rfl ?_; refine J.extract rfl rfl rfl ?_; refine J.assign rfl rfl ?_; refine J.assign rfl rfl ?_; refine J.nil ?_; refine JX.thenN (hK6 _ _ ?_); refine JC.seq (fun K7 hK7 => ?_); refine JC.seq (fun K8 hK8 => ?_)
 apply JC.drawX (α := Nat × Unit) 22 (fun x => match x with | ⟨xu, uu⟩ => [.int .i64 0, .bool false, .bool false, .int .i64 0, .bool false, .bool false, .bool false, .pointer (some ⟨v2, 0, none⟩), .bool false, .bool false, .bool false, .pointer (some ⟨v2, 0, none⟩), .int .i64 2, .bool false, .bool false, .bool false, .pointer (some ⟨b4, 0 + 16, none⟩), .agg (cV (⟨1, nI 7⟩ : WV)).toArray, .agg (cI (nI 7)).toArray, .agg (cV (⟨1, nI 7⟩ : WV)).toArray, .bool false, .bool false]) (fun m x => match x with | ⟨xu, uu⟩ => fun w1 => (True) ∧ St w [] ((v2, vaO (.pointer (some ⟨l2, 0, none⟩)) m2 ((2 : Nat) : Int)) :: (m2, .map es3 ck3) :: (l2, lgO d QF3 false) :: (d, dkO s 20 σ3.p σ3.k) :: (s, dkS σ3.B) :: (lp2 ++ ((v1, vaO (.pointer (some ⟨l1, 0, none⟩)) m1 ((1 : Nat) : Int)) :: (m1, .map es2 ck2) :: (l1, lgO d QF2 false) :: (lh ++ (ly ++ [(b4, cb (cT (nI 3) ⟨1, nI 7⟩ (.slice ay 1 cy)) 28), (b37, Obj.cells (([97].map u8) : List Value).toArray 5 (1, 2))]))))) w1) Ty.mixed rfl rfl rfl (by kernel_rfl) rfl rfl ?hinit ?hstep ?htail
 case hinit => exact fun w1 hw => ⟨(0, ()), trivial, hw.drew⟩
 case hstep =>
  refine ⟨fun m x hm hp => ?_, fun m x hm hp => ?_, fun m x hm hp => ?_, fun m x hm hp => ?_, fun m x hm hp => ?_, fun m x hm hp => ?_, fun m x hm hp => ?_, fun m x hm hp => ?_, fun m x hm hp => ?_, fun m x hm hp => ?_, fun m x hm hp => ?_, fun m x hm hp => ?_, fun m x hm hp => ?_, fun m x hm hp => ?_, fun m x hm hp => ?_, fun m x hm hp => ?_, fun m x hm hp => ?_, fun m x hm hp => ?_, fun m x hm hp => ?_, fun m x hm hp => ?_, fun m x hm hp => ?_, fun m x hm hp => ?_, trivial⟩
  ·obtain ⟨xu, uu⟩ := x
   show J _ _ _ _ _ (_) _
   refine J.pr (fun hF => ?_); refine J.move rfl rfl ?_
   exact J.finX rfl (fun _ hw => ⟨⟨xu, uu⟩, rfl, fun _ _ _ => rfl, hF, hw⟩)
  ·obtain ⟨xu, uu⟩ := x
   show J _ _ _ _ _ ((48, .int .i64 0) :: _) _
   refine J.pr (fun hF => ?_); refine J.bin rfl rfl rfl rfl ?_
   exact J.finX rfl (fun _ hw => ⟨⟨xu, uu⟩, rfl, fun _ _ _ => rfl, hF, hw⟩)
  ·obtain ⟨xu, uu⟩ := x
   show J _ _ _ _ _ ((49, .bool false) :: _) _
   refine J.pr (fun hF => ?_); refine J.move rfl rfl ?_
   exact J.finX rfl (fun _ hw => ⟨⟨xu, uu⟩, rfl, fun _ _ _ => rfl, hF, hw⟩)
  ·obtain ⟨xu, uu⟩ := x
   show J _ _ _ _ _ ((50, .bool false) :: _) _
   refine J.pr (fun hF => ?_)
   first | refine J.skip rfl rfl rfl rfl rfl ?_ | refine J.skipU rfl rfl rfl rfl ?_ | (refine J.unguard rfl rfl rfl ?_; refine J.move rfl rfl ?_)
   exact J.finX rfl (fun _ hw => ⟨⟨xu, uu⟩, rfl, fun _ _ _ => rfl, hF, hw⟩)
  ·obtain ⟨xu, uu⟩ := x
   show J _ _ _ _ _ ((50, .bool false) :: (51, .int .i64 0) :: _) _
   refine J.pr (fun hF => ?_)
   first | refine J.skip rfl rfl rfl rfl rfl ?_ | refine J.skipU rfl rfl rfl rfl ?_ | (refine J.unguard rfl rfl rfl ?_; refine J.bin rfl rfl rfl rfl ?_)
   exact J.finX rfl (fun _ hw => ⟨⟨xu, uu⟩, rfl, fun _ _ _ => rfl, hF, hw⟩)
  ·obtain ⟨xu, uu⟩ := x
   show J _ _ _ _ _ ((52, .bool false) :: (50, .bool false) :: _) _
   refine J.pr (fun hF => ?_)
   (first | refine J.pickT rfl rfl rfl ?_ | refine J.pickF rfl rfl rfl ?_)
   exact J.finX rfl (fun _ hw => ⟨⟨xu, uu⟩, rfl, fun _ _ _ => rfl, hF, hw⟩)
  ·obtain ⟨xu, uu⟩ := x
   show J _ _ _ _ _ ((50, .bool false) :: (53, .bool false) :: _) _
   refine J.pr (fun hF => ?_); refine J.move rfl rfl ?_
   exact J.finX rfl (fun _ hw => ⟨⟨xu, uu⟩, rfl, fun _ _ _ => rfl, hF, hw⟩)
  ·obtain ⟨xu, uu⟩ := x
   show J _ _ _ _ _ ((54, .bool false) :: _) _
   refine J.pr (fun hF => ?_)
   first | refine J.skip rfl rfl rfl rfl rfl ?_ | refine J.skipU rfl rfl rfl rfl ?_ | (refine J.unguard rfl rfl rfl ?_; refine J.move rfl rfl ?_)
   exact J.finX rfl (fun _ hw => ⟨⟨xu, uu⟩, rfl, fun _ _ _ => rfl, hF, hw⟩)
  ·obtain ⟨xu, uu⟩ := x
   show J _ _ _ _ _ ((54, .bool false) :: (55, .pointer (some ⟨v2, 0, none⟩)) :: _) _
   refine J.pr (fun hF => ?_)
   first | refine J.skip rfl rfl rfl rfl rfl ?_ | refine J.skipU rfl rfl rfl rfl ?_ | (refine J.unguard rfl rfl rfl ?_; refine J.eqNil Ty.u38 rfl rfl rfl ?_)
   exact J.finX rfl (fun _ hw => ⟨⟨xu, uu⟩, rfl, fun _ _ _ => rfl, hF, hw⟩)
  ·obtain ⟨xu, uu⟩ := x
   show J _ _ _ _ _ ((56, .bool false) :: (54, .bool false) :: _) _
   refine J.pr (fun hF => ?_)
   (first | refine J.pickT rfl rfl rfl ?_ | refine J.pickF rfl rfl rfl ?_)
   exact J.finX rfl (fun _ hw => ⟨⟨xu, uu⟩, rfl, fun _ _ _ => rfl, hF, hw⟩)
  ·obtain ⟨xu, uu⟩ := x
   show J _ _ _ _ _ ((54, .bool false) :: (57, .bool false) :: _) _
   refine J.pr (fun hF => ?_); refine J.move rfl rfl ?_
   exact J.finX rfl (fun _ hw => ⟨⟨xu, uu⟩, rfl, fun _ _ _ => rfl, hF, hw⟩)
  ·obtain ⟨xu, uu⟩ := x
   show J _ _ _ _ _ ((58, .bool false) :: _) _
   refine J.pr (fun hF => ?_)
   first | refine J.skip rfl rfl rfl rfl rfl ?_ | refine J.skipU rfl rfl rfl rfl ?_ | (refine J.unguard rfl rfl rfl ?_; refine J.move rfl rfl ?_)
   exact J.finX rfl (fun _ hw => ⟨⟨xu, uu⟩, rfl, fun _ _ _ => rfl, hF, hw⟩)
  ·obtain ⟨xu, uu⟩ := x
   show J _ _ _ _ _ ((58, .bool false) :: (58, .bool false) :: (59, .pointer (some ⟨v2, 0, none⟩)) :: _) _
   refine J.pr (fun hF => ?_); refine J.unguard rfl rfl rfl ?_; refine J.callB (v := .int .i64 2) (fun w1 w2 hw hb => hw.step hb) Ty.bd18 rfl rfl (fun w1 hw => inc_spec v2 m2 _ 2 w1 (St.owns' hw)) ?_
   exact J.finX rfl (fun _ hw => ⟨⟨xu, uu⟩, rfl, fun _ _ _ => rfl, hF, hw⟩)
  ·obtain ⟨xu, uu⟩ := x
   show J _ _ _ _ _ ((58, .bool false) :: (60, .int .i64 2) :: _) _
   refine J.pr (fun hF => ?_)
   first | refine J.skip rfl rfl rfl rfl rfl ?_ | refine J.skipU rfl rfl rfl rfl ?_ | (refine J.unguard rfl rfl rfl ?_; refine J.bin rfl rfl rfl rfl ?_)
   exact J.finX rfl (fun _ hw => ⟨⟨xu, uu⟩, rfl, fun _ _ _ => rfl, hF, hw⟩)
  ·obtain ⟨xu, uu⟩ := x
   show J _ _ _ _ _ ((61, .bool false) :: (58, .bool false) :: _) _
   refine J.pr (fun hF => ?_)
   (first | refine J.pickT rfl rfl rfl ?_ | refine J.pickF rfl rfl rfl ?_)
   exact J.finX rfl (fun _ hw => ⟨⟨xu, uu⟩, rfl, fun _ _ _ => rfl, hF, hw⟩)
  ·obtain ⟨xu, uu⟩ := x
   show J _ _ _ _ _ ((60, .int .i64 2) :: (62, .bool false) :: _) _
   refine J.pr (fun hF => ?_); refine J.move rfl rfl ?_
   exact J.finX rfl (fun _ hw => ⟨⟨xu, uu⟩, rfl, fun _ _ _ => rfl, hF, hw⟩)
  ·obtain ⟨xu, uu⟩ := x
   show J _ _ _ _ _ ((63, .bool false) :: _) _
   refine J.pr (fun hF => ?_)
   first | refine J.skip rfl rfl rfl rfl rfl ?_ | refine J.skipU rfl rfl rfl rfl ?_ | (refine J.unguard rfl rfl rfl ?_; refine J.fieldAddr Ty.fd28_1 rfl rfl ?_)
   exact J.finX rfl (fun _ hw => ⟨⟨xu, uu⟩, rfl, fun _ _ _ => rfl, hF, hw⟩)
  ·obtain ⟨xu, uu⟩ := x
   show J _ _ _ _ _ ((63, .bool false) :: (64, .pointer (some ⟨b4, 0 + 16, none⟩)) :: _) _
   refine J.pr (fun hF => ?_); refine J.unguard rfl rfl rfl ?_; refine J.loadA (vs := cV ⟨1, nI 7⟩) Ty.a25 Ty.s25 rfl rfl (fun w1 hw => Cells.of_block (hw.own ((b4, cb (cT (nI 3) ⟨1, nI 7⟩ (.slice ay 1 cy)) 28)) zm) rfl) rfl ?_
   exact J.finX rfl (fun _ hw => ⟨⟨xu, uu⟩, rfl, fun _ _ _ => rfl, hF, hw⟩)
  ·obtain ⟨xu, uu⟩ := x
   show J _ _ _ _ _ ((63, .bool false) :: (63, .bool false) :: _) _
   refine J.pr (fun hF => ?_); refine J.unguard rfl rfl rfl ?_; refine J.callB (v := .agg (cI (nI 7)).toArray) (fun w1 w2 hw hb => hw.step hb) Ty.bd38 rfl rfl (fun w1 hw => n18_spec 7 w1) ?_
   exact J.finX rfl (fun _ hw => ⟨⟨xu, uu⟩, rfl, fun _ _ _ => rfl, hF, hw⟩)
  ·obtain ⟨xu, uu⟩ := x
   show J _ _ _ _ _ ((63, .bool false) :: (66, .agg (cI (nI 7)).toArray) :: _) _
   refine J.pr (fun hF => ?_); refine J.unguard rfl rfl rfl ?_; refine J.buildS (cs := cV ⟨1, nI 7⟩) Ty.pl25 Ty.zVr rfl (by kernel_rfl) rfl ?_
   exact J.finX rfl (fun _ hw => ⟨⟨xu, uu⟩, rfl, fun _ _ _ => rfl, hF, hw⟩)
  ·obtain ⟨xu, uu⟩ := x
   show J _ _ _ _ _ ((63, .bool false) :: (67, .agg (cV (⟨1, nI 7⟩ : WV)).toArray) :: (65, .agg (cV (⟨1, nI 7⟩ : WV)).toArray) :: _) _
   refine J.pr (fun hF => ?_); refine J.unguard rfl rfl rfl ?_; refine J.neV rfl rfl (by decide) (by decide) rfl ?_; refine J.name 68 rfl (show _ = Value.bool false by simp) ?_
   exact J.finX rfl (fun _ hw => ⟨⟨xu, uu⟩, rfl, fun _ _ _ => rfl, hF, hw⟩)
  ·obtain ⟨xu, uu⟩ := x
   show J _ _ _ _ _ ((68, .bool false) :: (63, .bool false) :: _) _
   refine J.pr (fun hF => ?_)
   (first | refine J.pickT rfl rfl rfl ?_ | refine J.pickF rfl rfl rfl ?_)
   exact J.finX rfl (fun _ hw => ⟨⟨xu, uu⟩, rfl, fun _ _ _ => rfl, hF, hw⟩)
 case htail =>
  intro x
  obtain ⟨xu, uu⟩ := x
  show J _ _ _ _ _ ((69, .bool false) :: (68, .bool false) :: (67, .agg (cV (⟨1, nI 7⟩ : WV)).toArray) :: (66, .agg (cI (nI 7)).toArray) :: (65, .agg (cV (⟨1, nI 7⟩ : WV)).toArray) :: (64, .pointer (some ⟨b4, 0 + 16, none⟩)) :: (63, .bool false) :: (62, .bool false) :: (61, .bool false) :: (60, .int .i64 2) :: (59, .pointer (some ⟨v2, 0, none⟩)) :: (58, .bool false) :: (57, .bool false) :: (56, .bool false) :: (55, .pointer (some ⟨v2, 0, none⟩)) :: (54, .bool false) :: (53, .bool false) :: (52, .bool false) :: (51, .int .i64 0) :: (50, .bool false) :: (49, .bool false) :: (48, .int .i64 0) :: _) (fun w1 => (True) ∧ St w [] ((v2, vaO (.pointer (some ⟨l2, 0, none⟩)) m2 ((2 : Nat) : Int)) :: (m2, .map es3 ck3) :: (l2, lgO d QF3 false) :: (d, dkO s 20 σ3.p σ3.k) :: (s, dkS σ3.B) :: (lp2 ++ ((v1, vaO (.pointer (some ⟨l1, 0, none⟩)) m1 ((1 : Nat) : Int)) :: (m1, .map es2 ck2) :: (l1, lgO d QF2 false) :: (lh ++ (ly ++ [(b4, cb (cT (nI 3) ⟨1, nI 7⟩ (.slice ay 1 cy)) 28), (b37, Obj.cells (([97].map u8) : List Value).toArray 5 (1, 2))]))))) w1)
  refine J.pr (fun hF => ?_); refine J.nil ?_; refine JX.thenN (hK8 _ _ ?_)
  first | refine JC.condF rfl ?_ | refine JC.cond rfl (fun h => by first | (exfalso; simp at h; omega) | (simp at h)) (fun _ => ?_)
  refine JC.skip ?_; refine JX.thenN (hK7 _ _ ?_); refine JC.seq (fun K9 hK9 => ?_); refine JC.region ?_; refine J.move rfl rfl ?_; refine J.callB (v := .agg (cI (nI 3)).toArray) (fun w1 w2 hw hb => hw.step hb) Ty.bd38 rfl rfl (fun w1 hw => n18_spec 3 w1) ?_
  have hv3 := (hV3 _ (.head _)).2
  simp only at hv3
  refine J.perm ([(v2, vaO (.pointer (some ⟨l2, 0, none⟩)) m2 ((2 : Nat) : Int)), (m2, .map es3 ck3)] ++ ((l2, lgO d QF3 false) :: (d, dkO s 20 σ3.p σ3.k) :: (s, dkS σ3.B) :: (lp2 ++ ((v1, vaO (.pointer (some ⟨l1, 0, none⟩)) m1 ((1 : Nat) : Int)) :: (m1, .map es2 ck2) :: (l1, lgO d QF2 false) :: (lh ++ (ly ++ [(b4, cb (cT (nI 3) ⟨1, nI 7⟩ (.slice ay 1 cy)) 28), (b37, Obj.cells (([97].map u8) : List Value).toArray 5 (1, 2))])))))) zp ?_; refine J.callS (α := Value × List (Nat × Obj)) (V := fun y => .tuple #[.agg (cT (nI 3) ⟨1, nI 7⟩ y.1).toArray, .bool true]) (Pr := fun y => Vec 5 1 y.1 ([97]).length (([97]).map u8) y.2) (L := fun y => y.2 ++ [(v2, vaO (.pointer (some ⟨l2, 0, none⟩)) m2 ((2 : Nat) : Int)), (m2, .map es3 ck3)]) Ty.bd22 rfl rfl (fun w1 hw => vget_spec v2 m2 _ _ _ es3 ck3 hT3 hV3 (nI 3) ⟨nI 3, ⟨1, nI 7⟩, [97], sv2, lp2⟩ true w1 (St.owns hw) (by simp [hget]) (by simp [hget]) (vec_rowM hv3 hw (fun q hq => by simp [hq])) (vec_offM hv3 (fun p0 hp0 => St.off (l1 := [(v2, vaO (.pointer (some ⟨l2, 0, none⟩)) m2 ((2 : Nat) : Int)), (m2, .map es3 ck3)]) hw (o := p0.2) (by simp [hp0]))) (by show 1 ≤ 140737488351232; omega)) (fun y hyg => ?_)
  obtain ⟨vg, lg⟩ := y
  try simp only at hyg ⊢
  obtain ⟨ag, cg, rfl, hcg⟩ := hyg.form
  refine J.move rfl rfl ?_; refine J.extract rfl rfl rfl ?_; refine J.extract rfl rfl rfl ?_; refine J.alloc Ty.zIt rfl rfl (fun b7 => ?_); refine J.storeW (cs := cH zH) (vs := cT (nI 3) ⟨1, nI 7⟩ (.slice ag 1 cg)) Ty.s28 rfl rfl rfl rfl rfl one_cT .here ?_; refine J.perm ((b7, cb (cT (nI 3) ⟨1, nI 7⟩ (.slice ag 1 cg)) 28) :: (lg ++ ((v2, vaO (.pointer (some ⟨l2, 0, none⟩)) m2 ((2 : Nat) : Int)) :: (m2, .map es3 ck3) :: (l2, lgO d QF3 false) :: (d, dkO s 20 σ3.p σ3.k) :: (s, dkS σ3.B) :: (lp2 ++ ((v1, vaO (.pointer (some ⟨l1, 0, none⟩)) m1 ((1 : Nat) : Int)) :: (m1, .map es2 ck2) :: (l1, lgO d QF2 false) :: (lh ++ (ly ++ [(b4, cb (cT (nI 3) ⟨1, nI 7⟩ (.slice ay 1 cy)) 28), (b37, Obj.cells (([97].map u8) : List Value).toArray 5 (1, 2))]))))))) zp ?_; refine J.assign rfl rfl ?_; refine J.nil ?_; refine JX.thenN (hK9 _ _ ?_); refine JC.seq (fun K10 hK10 => ?_); refine JC.region ?_; refine J.move rfl rfl ?_; refine J.callB (v := .agg (cI (nI 3)).toArray) (fun w1 w2 hw hb => hw.step hb) Ty.bd38 rfl rfl (fun w1 hw => n18_spec 3 w1) ?_; refine J.callB (v := .agg (cI (nI 6)).toArray) (fun w1 w2 hw hb => hw.step hb) Ty.bd38 rfl rfl (fun w1 hw => n18_spec 6 w1) ?_; refine J.buildS (cs := cV ⟨1, nI 6⟩) Ty.pl25 Ty.zVr rfl (by kernel_rfl) rfl ?_; refine J.buildS (cs := cT (nI 3) ⟨1, nI 6⟩ (.slice none 0 0)) Ty.pl28 Ty.zIt rfl (by kernel_rfl) rfl ?_; refine J.perm (vltB v2 m2 l2 d s 20 QF3 false 2 es3 ck3 ⟨σ3.B, σ3.p, σ3.k⟩ ++ ((b7, cb (cT (nI 3) ⟨1, nI 7⟩ (.slice ag 1 cg)) 28) :: (lg ++ (lp2 ++ ((v1, vaO (.pointer (some ⟨l1, 0, none⟩)) m1 ((1 : Nat) : Int)) :: (m1, .map es2 ck2) :: (l1, lgO d QF2 false) :: (lh ++ (ly ++ [(b4, cb (cT (nI 3) ⟨1, nI 7⟩ (.slice ay 1 cy)) 28), (b37, Obj.cells (([97].map u8) : List Value).toArray 5 (1, 2))]))))))) zp ?_; refine J.callS (α := MerR) (V := MerR.val) (Pr := fun z => z.Pr 20 QF3 false σ3 [⟨nI 3, ⟨1, nI 7⟩, [97], sv2, lp2⟩] ⟨nI 3, ⟨1, nI 6⟩, []⟩) (L := fun z => z.lst v2 m2 l2 d s 20 2 es3 ck3) Ty.bd19 rfl rfl (fun w1 hw => vmerge_spec v2 m2 l2 d s 20 2 QF3 false σ3.B σ3.p σ3.k _ es3 ck3 hT3 hV3 hI3 (by omega) hk3 (by omega) (cT (nI 3) ⟨1, nI 6⟩ (.slice none 0 0)) (nI 3) ⟨1, nI 6⟩ [] (.slice none 0 0) w1 rfl (St.owns hw) ⟨none, 0, rfl, Nat.le_refl _, .inl rfl⟩ (.inl rfl) (by decide)) (fun z hz => ?_)
  rcases z with ⟨ez, qz, dz, sz⟩ | ⟨hz9, esz, ckz, qz, dz, sz⟩
  rotate_left
  ·exact absurd (congrArg (fun x => x.1) (hM6.symm.trans hz.1)) (by simp)
  have hz1 := hM6.symm.trans hz
  simp only [Prod.mk.injEq, true_and] at hz1
  obtain ⟨rfl, rfl, rfl, rfl⟩ := hz1
  refine J.name 82 rfl (show _ = Value.tuple #[.bool false, .int .i64 0] from rfl) ?_; refine J.perm ((b7, cb (cT (nI 3) ⟨1, nI 7⟩ (.slice ag 1 cg)) 28) :: (lg ++ ((v2, vaO (.pointer (some ⟨l2, 0, none⟩)) m2 ((2 : Nat) : Int)) :: (m2, .map es3 ck3) :: (l2, lgO d QF3 false) :: (d, dkO s 20 σ3.p σ3.k) :: (s, dkS σ3.B) :: (lp2 ++ ((v1, vaO (.pointer (some ⟨l1, 0, none⟩)) m1 ((1 : Nat) : Int)) :: (m1, .map es2 ck2) :: (l1, lgO d QF2 false) :: (lh ++ (ly ++ [(b4, cb (cT (nI 3) ⟨1, nI 7⟩ (.slice ay 1 cy)) 28), (b37, Obj.cells (([97].map u8) : List Value).toArray 5 (1, 2))]))))))) (by simp only [MerR.lst]; exact zp) ?_; refine J.move rfl rfl ?_; refine J.extract rfl rfl rfl ?_; refine J.extract rfl rfl rfl ?_; refine J.assign rfl rfl ?_; refine J.assign rfl rfl ?_; refine J.nil ?_; refine JX.thenN (hK10 _ _ ?_); refine JC.seq (fun K11 hK11 => ?_); refine JC.region ?_; refine J.move rfl rfl ?_; refine J.callB (v := .agg (cI (nI 3)).toArray) (fun w1 w2 hw hb => hw.step hb) Ty.bd38 rfl rfl (fun w1 hw => n18_spec 3 w1) ?_; refine J.callB (v := .agg (cI (nI 8)).toArray) (fun w1 w2 hw hb => hw.step hb) Ty.bd38 rfl rfl (fun w1 hw => n18_spec 8 w1) ?_; refine J.buildS (cs := cV ⟨1, nI 8⟩) Ty.pl25 Ty.zVr rfl (by kernel_rfl) rfl ?_; refine J.buildS (cs := cT (nI 3) ⟨1, nI 8⟩ (.slice none 0 0)) Ty.pl28 Ty.zIt rfl (by kernel_rfl) rfl ?_; refine J.perm (vltB v2 m2 l2 d s 20 QF3 false 2 es3 ck3 ⟨σ3.B, σ3.p, σ3.k⟩ ++ ((b7, cb (cT (nI 3) ⟨1, nI 7⟩ (.slice ag 1 cg)) 28) :: (lg ++ (lp2 ++ ((v1, vaO (.pointer (some ⟨l1, 0, none⟩)) m1 ((1 : Nat) : Int)) :: (m1, .map es2 ck2) :: (l1, lgO d QF2 false) :: (lh ++ (ly ++ [(b4, cb (cT (nI 3) ⟨1, nI 7⟩ (.slice ay 1 cy)) 28), (b37, Obj.cells (([97].map u8) : List Value).toArray 5 (1, 2))]))))))) zp ?_; refine J.callS (α := MerR) (V := MerR.val) (Pr := fun z => z.Pr 20 QF3 false σ3 [⟨nI 3, ⟨1, nI 7⟩, [97], sv2, lp2⟩] ⟨nI 3, ⟨1, nI 8⟩, []⟩) (L := fun z => z.lst v2 m2 l2 d s 20 2 es3 ck3) Ty.bd19 rfl rfl (fun w1 hw => vmerge_spec v2 m2 l2 d s 20 2 QF3 false σ3.B σ3.p σ3.k _ es3 ck3 hT3 hV3 hI3 (by omega) hk3 (by omega) (cT (nI 3) ⟨1, nI 8⟩ (.slice none 0 0)) (nI 3) ⟨1, nI 8⟩ [] (.slice none 0 0) w1 rfl (St.owns hw) ⟨none, 0, rfl, Nat.le_refl _, .inl rfl⟩ (.inl rfl) (by decide)) (fun z hz => ?_)
  rcases z with ⟨ez, qz, dz, sz⟩ | ⟨hz9, esz, ckz, qz, dz, sz⟩
  ·exact absurd (congrArg (fun x => x.1) (hM8.symm.trans hz)) (by simp)
  obtain ⟨hz1, -, -, -⟩ := hz
  have hz2 := hM8.symm.trans hz1
  simp only [Prod.mk.injEq, true_and] at hz2
  obtain ⟨rfl, rfl, rfl⟩ := hz2
  refine J.name 91 rfl (show _ = Value.tuple #[.bool true, .int .i64 0] from rfl) ?_; refine J.perm ((v2, vaO (.pointer (some ⟨l2, 0, none⟩)) m2 ((2 : Nat) : Int)) :: (m2, .map esz ckz) :: (l2, lgO d q4 false) :: (d, dkO s 20 σ4.p σ4.k) :: (s, dkS σ4.B) :: (b7, cb (cT (nI 3) ⟨1, nI 7⟩ (.slice ag 1 cg)) 28) :: (hz9.lp ++ (lg ++ (lp2 ++ ((v1, vaO (.pointer (some ⟨l1, 0, none⟩)) m1 ((1 : Nat) : Int)) :: (m1, .map es2 ck2) :: (l1, lgO d QF2 false) :: (lh ++ (ly ++ [(b4, cb (cT (nI 3) ⟨1, nI 7⟩ (.slice ay 1 cy)) 28), (b37, Obj.cells (([97].map u8) : List Value).toArray 5 (1, 2))]))))))) (by simp only [MerR.lst]; exact zp) ?_; refine J.move rfl rfl ?_; refine J.extract rfl rfl rfl ?_; refine J.extract rfl rfl rfl ?_; refine J.assign rfl rfl ?_; refine J.assign rfl rfl ?_; refine J.nil ?_; refine JX.thenN (hK11 _ _ ?_); refine JC.seq (fun K12 hK12 => ?_); refine JC.region ?_; refine J.move rfl rfl ?_; refine J.move rfl rfl ?_
  first | refine J.skip rfl rfl rfl rfl rfl ?_ | refine J.skipU rfl rfl rfl rfl ?_ | (refine J.unguard rfl rfl rfl ?_; refine J.fieldAddr Ty.fd28_2 rfl rfl ?_)
  refine J.unguard rfl rfl rfl ?_; refine J.load1 (v := .slice ag 1 cg) Ty.a26 rfl (fun w1 hw => by rw [cell_of (hw.own ((b7, cb (cT (nI 3) ⟨1, nI 7⟩ (.slice ag 1 cg)) 28)) zm)]; rfl) rfl ?_; refine J.unguard rfl rfl rfl ?_; refine J.toStr (m := 1) (bs := [97]) Ty.el26 Ty.u5 Ty.u9 rfl (fun w1 hw => vec_rowM hyg hw (fun q hq => by simp [hq])) rfl rfl ?_; refine J.unguard rfl rfl rfl ?_; refine J.strEq (xs := [97]) (ys := [97]) rfl rfl rfl ?_; refine J.name 99 rfl (show _ = Value.bool true from rfl) ?_
  (first | refine J.pickT rfl rfl rfl ?_ | refine J.pickF rfl rfl rfl ?_)
  refine J.move rfl rfl ?_
  first | refine J.skip rfl rfl rfl rfl rfl ?_ | refine J.skipU rfl rfl rfl rfl ?_ | (refine J.unguard rfl rfl rfl ?_; refine J.move rfl rfl ?_)
  first | refine J.skip rfl rfl rfl rfl rfl ?_ | refine J.skipU rfl rfl rfl rfl ?_ | (refine J.unguard rfl rfl rfl ?_; refine J.not rfl rfl ?_)
  (first | refine J.pickT rfl rfl rfl ?_ | refine J.pickF rfl rfl rfl ?_)
  refine J.move rfl rfl ?_
  first | refine J.skip rfl rfl rfl rfl rfl ?_ | refine J.skipU rfl rfl rfl rfl ?_ | (refine J.unguard rfl rfl rfl ?_; refine J.move rfl rfl ?_)
  (first | refine J.pickT rfl rfl rfl ?_ | refine J.pickF rfl rfl rfl ?_)
  refine J.move rfl rfl ?_
  first | refine J.skip rfl rfl rfl rfl rfl ?_ | refine J.skipU rfl rfl rfl rfl ?_ | (refine J.unguard rfl rfl rfl ?_; refine J.move rfl rfl ?_)
  refine J.unguard rfl rfl rfl ?_; refine J.callB (v := .bool false) (fun w1 w2 hw hb => hw.step hb) Ty.bd25 rfl rfl (fun w1 hw => vdown_spec v2 m2 l2 d q4 false _ w1 (l := []) (St.owns (l1 := [_, _]) (hw.perm (zp : List.Perm _ ([(v2, vaO (.pointer (some ⟨l2, 0, none⟩)) m2 ((2 : Nat) : Int)), (l2, lgO d q4 false)] ++ ((m2, .map esz ckz) :: (d, dkO s 20 σ4.p σ4.k) :: (s, dkS σ4.B) :: (b7, cb (cT (nI 3) ⟨1, nI 7⟩ (.slice ag 1 cg)) 28) :: (hz9.lp ++ (lg ++ (lp2 ++ ((v1, vaO (.pointer (some ⟨l1, 0, none⟩)) m1 ((1 : Nat) : Int)) :: (m1, .map es2 ck2) :: (l1, lgO d QF2 false) :: (lh ++ (ly ++ [(b4, cb (cT (nI 3) ⟨1, nI 7⟩ (.slice ay 1 cy)) 28), (b37, Obj.cells (([97].map u8) : List Value).toArray 5 (1, 2))])))))))))))) ?_
  first | refine J.skip rfl rfl rfl rfl rfl ?_ | refine J.skipU rfl rfl rfl rfl ?_ | (refine J.unguard rfl rfl rfl ?_; refine J.not rfl rfl ?_)
  (first | refine J.pickT rfl rfl rfl ?_ | refine J.pickF rfl rfl rfl ?_)
  refine J.assign rfl rfl ?_; refine J.nil ?_; refine JX.thenN (hK12 _ _ ?_); refine JC.ret ?_; refine JX.ret1 rfl rfl (fun w hw => ?_)
  exact ⟨rfl, (hw.drop (List.nil_sublist _)).below⟩

end Go.Proofs.Ytoaenmlhehcjfaa
/-
 Arguments: arrays of what can be decoded. Proved over any program.
-/
namespace Go.J
open Go.ChangeShapes Go.WideShapes Go.ChangeAt Go.RowKit
set_option linter.unusedVariables false
set_option linter.unusedSimpArgs false
def RArr {α : Type} (k sz : Nat) (R : World → List Value → α → Prop) : World → List Value → List α → Prop := fun w cs xs =>
 cs.length = k * sz ∧ xs.length = k ∧ ∀ i x, xs[i]? = some x → R w ((cs.drop (i * sz)).take sz) x
/-- an array of two -/
theorem RArr.two {α : Type} {sz : Nat} {R : World → List Value → α → Prop} {w : World} {cs : List Value} {xs : List α} (h : RArr 2 sz R w cs xs) : ∃ a b c1 c2, cs = c1 ++ c2 ∧ R w c1 a ∧ R w c2 b := by
 obtain ⟨h1, h2, h3⟩ := h
 match xs, h2 with
 | [a, b], _ =>
  refine ⟨a, b, cs.take sz, cs.drop sz, (List.take_append_drop _ _).symm, ?_, ?_⟩
  ·have := h3 0 a rfl
   simpa using this
  ·have := h3 1 b rfl
   rw [Nat.one_mul, List.take_of_length_le (by rw [List.length_drop]; omega)] at this
   exact this
end Go.J
/-
 The calculus: slices whose capacity may end ahead of their block; s[lo:hi:max]; rows of anything. Proved over any program.
-/
namespace Go.J
open Go.RowKit
set_option linter.unusedVariables false
set_option linter.unusedSimpArgs false
/-- a slice of the call's own of which the block may hold more than its capacity -/
def VecW (t sz : Nat) (v : Value) (k : Nat) (xs : List Value) (lp : List (Nat × Obj)) : Prop :=
 xs.length = k * sz ∧ ((v = .slice none 0 0 ∧ k = 0 ∧ lp = []) ∨ ∃ b c sp, v = .slice (some ⟨b, 0, none⟩) k c ∧ lp = [(b, cb (xs ++ sp) t)] ∧ c * sz ≤ (xs ++ sp).length ∧ k ≤ c)
theorem Vec.weak {t sz : Nat} {v : Value} {k : Nat} {xs : List Value} {lp : List (Nat × Obj)} (h : Vec t sz v k xs lp) : VecW t sz v k xs lp := by
 refine ⟨h.1, ?_⟩
 rcases h.2 with h | ⟨b, c, sp, h1, h2, h3, h4⟩
 ·exact .inl h
 ·exact .inr ⟨b, c, sp, h1, h2, Nat.le_of_eq h3.symm, h4⟩
theorem VecW.nil (t sz : Nat) : VecW t sz (.slice none 0 0) 0 [] [] := (Vec.nil t sz).weak
theorem VecW.row {w0 w : World} {S : List Nat} {l lp : List (Nat × Obj)} {t sz : Nat} {v : Value} {k : Nat} {xs : List Value} (h : VecW t sz v k xs lp) (hw : St w0 S (lp ++ l) w) : Row w v k xs := by
 obtain ⟨hl, h⟩ := h
 rcases h with ⟨rfl, rfl, rfl⟩ | ⟨b, c, sp, rfl, rfl, _, hk⟩
 ·exact ⟨none, 0, rfl, Nat.le_refl _, .inl (List.eq_nil_of_length_eq_zero (by simpa using hl))⟩
 ·exact Row.own (cs := xs ++ sp) (tb := t) (fr := (0, 0)) hw (.head _) (by simp) hk
theorem VecW.form {t sz : Nat} {v : Value} {k : Nat} {xs : List Value} {lp : List (Nat × Obj)} (h : VecW t sz v k xs lp) : ∃ a c, v = .slice a k c ∧ k ≤ c := by
 rcases h.2 with ⟨rfl, rfl, rfl⟩ | ⟨b, c, sp, rfl, rfl, _, hk⟩
 ·exact ⟨none, 0, rfl, Nat.le_refl _⟩
 ·exact ⟨_, c, rfl, hk⟩
/-- its first j elements, with no more room than that -/
theorem VecW.cut {t sz : Nat} {a : Option Addr} {k c j : Nat} {xs : List Value} {lp : List (Nat × Obj)} (h : VecW t sz (.slice a k c) k xs lp) (hj : j ≤ k) : VecW t sz (.slice a j j) j (xs.take (j * sz)) lp := by
 have hl := h.1
 have hle : j * sz ≤ xs.length := by rw [hl]; exact Nat.mul_le_mul_right _ hj
 refine ⟨by rw [List.length_take]; omega, ?_⟩
 rcases h.2 with ⟨h1, h2, h3⟩ | ⟨b, c', sp, h1, h2, h3, h4⟩
 ·simp only [Value.slice.injEq] at h1
  obtain ⟨rfl, _, _⟩ := h1
  obtain rfl : j = 0 := by omega
  exact .inl ⟨rfl, rfl, h3⟩
 ·simp only [Value.slice.injEq] at h1
  obtain ⟨rfl, _, _⟩ := h1
  refine .inr ⟨b, j, xs.drop (j * sz) ++ sp, rfl, ?_, ?_, Nat.le_refl _⟩
  ·rw [h2, ← List.append_assoc, List.take_append_drop]
  ·rw [← List.append_assoc, List.take_append_drop, List.length_append]; omega
section
variable {P : Program} {ops : Array Oper} {Q : Exit → Act → World → Prop} {n : Nat} {e : Env} {I I' : World → Prop} {rest : List Oper}
variable {d t : Nat} {p : String} {af : Array Edge} {x y z : Operand} {v v1 v2 : Value} {w0 : World} {S : List Nat} {l l' lp : List (Nat × Obj)}
end
/-- rows of anything -/
theorem fG_length {α : Type} {c : α → List Value} {sz : Nat} (hc : ∀ x, (c x).length = sz) : ∀ xs : List α, (xs.flatMap c).length = xs.length * sz
 | [] => by simp
 | x :: xs => by
  have := fG_length hc xs
  simp only [List.flatMap_cons, List.length_append, List.length_cons, this, hc, Nat.add_mul]
  omega
theorem fG_at {α : Type} {c : α → List Value} {sz : Nat} (hc : ∀ x, (c x).length = sz) : ∀ {xs : List α} {i : Nat} {a : α}, xs[i]? = some a → ((xs.flatMap c).drop (i * sz)).take sz = c a
 | [], i, a, h => by simp at h
 | x :: xs, 0, a, h => by
  simp only [List.getElem?_cons_zero, Option.some.injEq] at h
  subst h
  rw [Nat.zero_mul, List.drop_zero, List.flatMap_cons, ← hc x, List.take_left]
 | x :: xs, i + 1, a, h => by
  have ih := fG_at hc (xs := xs) (i := i) (by simpa using h)
  rw [Nat.add_mul, Nat.one_mul, Nat.add_comm, ← List.drop_drop, List.flatMap_cons]
  have : (c x ++ List.flatMap c xs).drop sz = List.flatMap c xs := by rw [← hc x, List.drop_left]
  rw [this]
  exact ih
theorem rowG_at {α : Type} {c : α → List Value} {sz : Nat} (hc : ∀ x, (c x).length = sz) {w : World} {b o k cc q i : Nat} {xs : List α} {a : α} (h : Row w (.slice (some ⟨b, o, none⟩) k cc) k (xs.flatMap c)) (hi : xs[i]? = some a) (hq : q = o + i * sz) : Cells w b q (c a) := by
 have hl : i < xs.length := (List.getElem?_eq_some_iff.1 hi).1
 have hlen := fG_length hc xs
 intro j hj
 rw [hc a] at hj
 have h1 : (i + 1) * sz ≤ xs.length * sz := Nat.mul_le_mul_right _ hl
 rw [Nat.add_mul, Nat.one_mul] at h1
 obtain ⟨b', o', c', hv, _, hcc⟩ := Row.some h (by omega)
 simp only [Value.slice.injEq, Option.some.injEq, Addr.mk.injEq] at hv
 obtain ⟨⟨rfl, rfl, _⟩, _, rfl⟩ := hv
 subst hq
 rw [Nat.add_assoc, hcc (i * sz + j) (by omega)]
 have e := fG_at hc hi
 have : (c a)[j]? = (((xs.flatMap c).drop (i * sz)).take sz)[j]? := by rw [e]
 rw [this, List.getElem?_take_of_lt hj, List.getElem?_drop]
theorem fG_cell {α : Type} {c : α → List Value} {sz : Nat} (hc : ∀ x, (c x).length = sz) {xs : List α} {i r : Nat} {a : α} (h : xs[i]? = some a) (hr : r < sz) : (xs.flatMap c)[i * sz + r]? = (c a)[r]? := by
 rw [← fG_at hc h, List.getElem?_take_of_lt hr, List.getElem?_drop]
end Go.J
/-
 Arguments: slices of what has fixed cells, as rows. Proved over any program.
-/
namespace Go.J
open Go.ChangeShapes Go.WideShapes Go.ChangeAt Go.RowKit
set_option linter.unusedVariables false
set_option linter.unusedSimpArgs false
theorem rslG {α : Type} {c : α → List Value} {sz by_ : Nat} (hc : ∀ x, (c x).length = sz) (hz : 0 < sz) {R : World → List Value → α → Prop} (hR : ∀ W cs x, R W cs x → cs = c x) {W : World} {s : Sl α} {cs : List Value} (h : RSl sz by_ R W cs s) : Row W s.v s.xs.length (s.xs.flatMap c) := by
 obtain ⟨_, h1, _, h2⟩ := h
 refine ⟨s.a, s.c, rfl, h1, ?_⟩
 rcases h2 with h2 | ⟨b, o, ha, h2⟩
 ·left; rw [h2]; rfl
 ·right
  refine ⟨b, o, ha, fun j hj => ?_⟩
  rw [fG_length hc] at hj
  have hi : j / sz < s.xs.length := Nat.div_lt_of_lt_mul (by rw [Nat.mul_comm]; exact hj)
  obtain ⟨cs', hl, hcc, hr⟩ := h2 (j / sz) s.xs[j / sz] (List.getElem?_eq_getElem hi)
  have hr' : cs' = c s.xs[j / sz] := hR _ _ _ hr
  subst hr'
  have hm := Nat.mod_lt j hz
  have := hcc (j % sz) (by rw [hc]; exact hm)
  have hdm : j / sz * sz + j % sz = j := by rw [Nat.mul_comm]; exact Nat.div_add_mod j sz
  rw [show o + j = o + j / sz * sz + j % sz by omega, this, ← fG_cell hc (List.getElem?_eq_getElem hi) hm, hdm]
end Go.J
/-
 A nil vault; items that come in; VaultNil: the walk.
-/
namespace Go.Proofs.Ytoaenmlhehcjfaa
open Go.J Go.RowKit
set_option linter.unusedVariables false
set_option linter.unusedSimpArgs false
set_option maxRecDepth 8000
def RId : World → List Value → IDV → Prop := fun _ cs a => cs = cI a
/-- an item that comes in -/
structure ItX where
 key : IDV
 ver : WV
 v : Sl UInt8
def RVr : World → List Value → WV → Prop := fun _ cs x => cs = cV x ∧ okN x.n
def RIt : World → List Value → ItX → Prop := fun W cs x => cs = cT x.key x.ver x.v.v ∧ okN x.ver.n ∧ RSl 1 1 RU8 W [x.v.v] x.v
theorem reach_len1 {W : World} {s : Sl UInt8} {cs : List Value} (h : RSl 1 1 RU8 W cs s) : s.xs.length ≤ 140737488351232 := by
 have h1 := h.2.1
 have h2 := h.2.2.1
 have h3 : reachBytes = 140737488351232 := rfl
 omega

end Go.Proofs.Ytoaenmlhehcjfaa
/-
 The document's Num, Text, Newer, Form: contracts; VaultForms: the walk.
-/
namespace Go.Proofs.Ytoaenmlhehcjfaa
open Go.J Go.RowKit
set_option linter.unusedVariables false
set_option linter.unusedSimpArgs false
set_option maxRecDepth 8000
section
variable {P : Program} {ops : Array Oper} {Q : Exit → Act → World → Prop} {n : Nat} {e : Env} {I I' : World → Prop} {rest : List Oper}
variable {d t yt : Nat} {p : String} {af : Array Edge} {x y z : Operand}
theorem J.quoU {ty : TypeId} {a b : Int} (hx : ev e x = some (.int .u64 a)) (hy : ev e y = some (.int .u64 b)) (h1 : 0 ≤ a) (h2 : a < 18446744073709551616) (h3 : 0 < b) (hd : Nat.blt d n = true)
  (h : J P ops Q n rest ((d, .int .u64 (a / b)) :: e) I) : J P ops Q n (⟨some d, .binOp .quo ty x y yt, t, p, af, none⟩ :: rest) e I := by
 refine J.bin (v := .int .u64 (IntKind.u64.wrap (a.tdiv b))) hx hy ?_ hd ?_
 ·simp only [binI, if_true]
  rw [if_neg (by omega)]
 ·rw [Int.tdiv_eq_ediv_of_nonneg h1]
  have h4 : 0 ≤ a / b := Int.ediv_nonneg h1 (by omega)
  have h5 : a / b ≤ a := Int.ediv_le_self b h1
  rw [wrap_u64 (by omega) (by omega)]
  exact h
theorem J.remU {ty : TypeId} {a b : Int} (hx : ev e x = some (.int .u64 a)) (hy : ev e y = some (.int .u64 b)) (h1 : 0 ≤ a) (h3 : 0 < b) (hd : Nat.blt d n = true)
  (h : J P ops Q n rest ((d, .int .u64 (a % b)) :: e) I) : J P ops Q n (⟨some d, .binOp .rem ty x y yt, t, p, af, none⟩ :: rest) e I := by
 refine J.bin (v := .int .u64 (a.tmod b)) hx hy ?_ hd ?_
 ·simp only [binI, if_true]
  rw [if_neg (by omega)]
 ·rw [Int.tmod_eq_emod_of_nonneg h1]; exact h
end
structure ByM where
 i : Nat
 m : Nat
 v : Value
 lp : List (Nat × Obj)
/-- a number's bytes, the lowest first -/
def lowB (n k : Nat) : List UInt8 := (List.range k).map (fun i => UInt8.ofNat (n / 256 ^ i))
theorem lowB_len (n k : Nat) : (lowB n k).length = k := by simp [lowB]
theorem lowB_snoc (n k : Nat) : lowB n (k + 1) = lowB n k ++ [UInt8.ofNat (n / 256 ^ k)] := by
 unfold lowB
 rw [List.range_succ, List.map_append]; rfl
theorem lowB_at (n k j : Nat) (h : j < k) : (lowB n k)[j]'(by rw [lowB_len]; exact h) = UInt8.ofNat (n / 256 ^ j) := by simp [lowB]
theorem wid_at {n k : Nat} (hn : n < 18446744073709551616) (h : k ≤ wid n) : 0 < n / 256 ^ k ↔ k < wid n := by
 rcases Nat.lt_or_ge k (wid n) with h1 | h1
 ·have h2 := wid_le n
  have h3 := wid_lt (n := n) (k := k) (by omega)
  rw [Nat.pow_mul] at h3
  have h6 : (2 : Nat) ^ 8 = 256 := by decide
  rw [h6] at h3
  exact h3.symm
 ·have : k = wid n := by omega
  subst this
  rw [Nat.div_eq_of_lt (wid_ub hn)]
  omega
theorem byte_low (m : Nat) : Value.int .u8 (IntKind.u8.wrap (((m : Nat) : Int) % 256)) = u8 (UInt8.ofNat m) := by
 rw [show ((m : Nat) : Int) % 256 = ((m % 256 : Nat) : Int) by omega, conv_u8]
 congr 1
 apply UInt8.toNat_inj.1
 simp

theorem numB_step {n q : Nat} (h : q + 1 ≤ wid n) : (numB n).take (1 + (wid n - (q + 1))) ++ [UInt8.ofNat (n / 256 ^ q)] = (numB n).take (1 + (wid n - q)) := by
 have h1 := numB_snoc (n := n) (i := wid n - (q + 1)) (by omega)
 rw [show wid n - (q + 1) + 1 = wid n - q by omega, show wid n - 1 - (wid n - (q + 1)) = q by omega, Nat.pow_mul] at h1
 exact h1.symm

theorem rnum_spec (n : Nat) (w : World) (hn : n < 18446744073709551616) :
  Calls Try.prog 41 [.int .u64 ((n : Nat) : Int)].toArray w fun r w' => ∃ x : Value × List (Nat × Obj), r = .returned x.1 ∧ Vec 5 1 x.1 (numB n).length ((numB n).map u8) x.2 ∧ St w [] x.2 w' := by
 refine calls_of_J (args := [.int .u64 ((n : Nat) : Int)]) (e := [(0, .int .u64 ((n : Nat) : Int))]) Try.func41 rfl rfl ⟨rfl, trivial⟩ (St.start w) ?_; refine JC.seq (fun K0 hK0 => ?_); refine JC.region ?_; refine J.assign rfl rfl ?_; refine J.nil ?_; refine JX.thenN (hK0 _ _ ?_); refine JC.seq (fun K1 hK1 => ?_); refine JC.region ?_; refine J.assign rfl rfl ?_; refine J.nil ?_; refine JX.thenN (hK1 _ _ ?_); refine JC.seq (fun K2 hK2 => ?_); refine JC.block ?_
 refine JC.conseq (JC.cov (f := (fun st => [(0, .int .u64 ((st.m : Nat) : Int)), (3, st.v)]) (⟨0, n, .slice none 0 0, []⟩ : ByM)) ⟨rfl, rfl, trivial⟩ (JC.loop (α := ByM) (fun st => [(0, .int .u64 ((st.m : Nat) : Int)), (3, st.v)]) (fun st w' => (st.i ≤ wid n ∧ st.m = n / 256 ^ st.i ∧ Vec 5 1 st.v (lowB n st.i).length ((lowB n st.i).map u8) st.lp) ∧ St w [] st.lp w') (fun st => wid n - st.i) (⟨0, n, .slice none 0 0, []⟩ : ByM) (fun st => ?_))) (fun w hw => ⟨⟨Nat.zero_le _, by simp, Vec.nil _ _⟩, hw⟩)
 obtain ⟨k, nk, v3, l3⟩ := st
 refine JC.pr (fun hI => ?_)
 obtain ⟨hk, hnk, hv3⟩ := hI
 try simp only at hk hnk hv3 ⊢
 have hw8 := wid_le n
 have hll := lowB_len n k
 have hle : nk ≤ n := by rw [hnk]; exact Nat.div_le_self _ _
 have hwa := wid_at hn hk
 rw [← hnk] at hwa
 refine JC.seq (fun K3 hK3 => ?_); refine JC.seq (fun K4 hK4 => ?_); refine JC.region ?_; refine J.move rfl rfl ?_; refine J.bin rfl rfl rfl rfl ?_; refine J.nil ?_; refine JX.thenN (hK4 _ _ ?_); refine JC.cond rfl (fun h0 => ?_) (fun h0 => ?_)
 ·have hlt : k < wid n := hwa.1 (by simp at h0; omega)
  refine JC.skip ?_; refine JX.thenN (hK3 _ _ ?_); refine JC.seq (fun K5 hK5 => ?_); refine JC.block ?_; refine JC.region ?_; refine J.move rfl rfl ?_; refine J.move rfl rfl ?_; refine J.remU rfl rfl (by omega) (by omega) rfl ?_; refine J.convInt Ty.u81 Ty.u5 rfl rfl ?_; refine J.name 13 rfl (byte_low nk) ?_; refine J.buildSl Ty.el26 Ty.s5 Ty.z5 rfl rfl rfl rfl rfl rfl rfl (fun b14 => ?_); refine J.perm (l3 ++ ((b14, cb ([UInt8.ofNat nk].map u8) 5) :: [])) zp ?_; refine J.append (lp := l3) (xs := (lowB n k).map u8) (ys := ([UInt8.ofNat nk]).map u8) (k := (lowB n k).length) (m := ([UInt8.ofNat nk]).length) Ty.el26 Ty.s5 Ty.b5 Ty.z5 rfl (.inl ⟨5, Ty.u26⟩) rfl rfl hv3 (fun w1 hw => .inl (Row.own (cs := ([UInt8.ofNat nk]).map u8) (tb := 5) (fr := (0, 0)) hw (List.mem_append_right _ (.head _)) (List.take_of_length_le (Nat.le_refl _)) (Nat.le_refl _))) (by rw [List.length_map, Nat.mul_one]) (one_u8 _) (by simp only [List.length_singleton]; omega) (by simp only [List.length_singleton]; omega) rfl (fun v15 l15 hv15 => ?_)
  rw [← List.map_append, ← List.length_append] at hv15
  rw [hnk, ← lowB_snoc] at hv15
  refine J.assign rfl rfl ?_; refine J.nil ?_; refine JX.blockN ?_; refine JX.thenN (hK5 _ _ ?_); refine JC.region ?_; refine J.move rfl rfl ?_; refine J.quoU rfl rfl (by omega) (by omega) (by omega) rfl ?_; refine J.name 9 rfl (show _ = Value.int .u64 ((nk / 256 : Nat) : Int) from congrArg (Value.int .u64) (by omega)) ?_; refine J.assign rfl rfl ?_; refine J.nil ?_; refine JX.thenN ?_; refine JX.again (⟨k + 1, nk / 256, v15, l15⟩ : ByM) ?_ ?_ ?_
  ·simp only; omega
  ·exact ⟨rfl, rfl, trivial⟩
  ·exact fun w1 hw => ⟨⟨hlt, by simp only; rw [hnk, Nat.pow_succ, Nat.div_div_eq_div_mul], hv15⟩, hw.drop (List.sublist_append_left _ _)⟩
 ·have hke : k = wid n := by
   rcases Nat.lt_or_ge k (wid n) with h9 | h9
   ·have := hwa.2 h9
    simp at h0; omega
   ·omega
  subst hke
  obtain ⟨a3, c3, rfl, hc3⟩ := hv3.form
  have hw9 : (lowB n (wid n)).length = wid n := lowB_len n _
  refine JC.exit ?_; refine JX.thenE ?_; refine JX.thenE ?_; refine JX.blockE ?_; refine JX.thenN (hK2 _ _ ?_); refine JC.seq (fun K6 hK6 => ?_); refine JC.region ?_; refine J.move rfl rfl ?_; refine J.lenS rfl Ty.u26 rfl rfl ?_; refine J.convInt Ty.u3 Ty.u5 rfl rfl ?_; refine J.name 18 rfl (show _ = u8 (UInt8.ofNat (wid n)) by rw [conv_u8, hw9]) ?_; refine J.buildSl (cs := [UInt8.ofNat (wid n)].map u8) Ty.el26 Ty.s5 Ty.z5 rfl rfl rfl rfl rfl rfl rfl (fun b19 => ?_); refine J.assign rfl rfl ?_; refine J.nil ?_; refine JX.thenN (hK6 _ _ ?_); refine JC.seq (fun K7 hK7 => ?_); refine JC.seq (fun K8 hK8 => ?_); refine JC.region ?_; refine J.move rfl rfl ?_; refine J.lenS rfl Ty.u26 rfl rfl ?_; refine J.subN rfl rfl (by omega) (by omega) rfl ?_; refine J.name 22 rfl (show _ = Value.int .i64 (((wid n : Nat) : Int) - 1) from congrArg (Value.int .i64) (by omega)) ?_; refine J.assign rfl rfl ?_; refine J.nil ?_; refine JX.thenN (hK8 _ _ ?_); refine JC.block ?_
  refine JC.conseq (JC.cov (f := (fun st => [(3, .slice a3 (lowB n (wid n)).length c3), (4, st.v), (5, .int .i64 (((st.i : Nat) : Int) - 1))]) (⟨wid n, .slice (some ⟨b19, 0, none⟩) 1 1, [(b19, cb ([UInt8.ofNat (wid n)].map u8) 5)]⟩ : ByS)) ⟨rfl, rfl, rfl, trivial⟩ (JC.loop (α := ByS) (fun st => [(3, .slice a3 (lowB n (wid n)).length c3), (4, st.v), (5, .int .i64 (((st.i : Nat) : Int) - 1))]) (fun st w' => (st.i ≤ wid n ∧ Vec 5 1 st.v (((numB n).take (1 + (wid n - st.i)))).length ((((numB n).take (1 + (wid n - st.i)))).map u8) st.lp) ∧ St w [] (st.lp ++ l3) w') (fun st => st.i) (⟨wid n, .slice (some ⟨b19, 0, none⟩) 1 1, [(b19, cb ([UInt8.ofNat (wid n)].map u8) 5)]⟩ : ByS) (fun st => ?_))) (fun w hw => ⟨⟨Nat.le_refl _, by simp only; rw [Nat.sub_self]; exact ⟨rfl, .inr ⟨b19, 1, [], rfl, rfl, rfl, Nat.le_refl _⟩⟩⟩, hw⟩)
  obtain ⟨j, v4, l4⟩ := st
  refine JC.pr (fun hI => ?_)
  obtain ⟨hj, hv4⟩ := hI
  try simp only at hj hv4 ⊢
  have hnl := numB_len n
  refine JC.seq (fun K9 hK9 => ?_); refine JC.seq (fun K10 hK10 => ?_); refine JC.region ?_; refine J.move rfl rfl ?_; refine J.bin rfl rfl rfl rfl ?_; refine J.nil ?_; refine JX.thenN (hK10 _ _ ?_); refine JC.cond rfl (fun h1 => ?_) (fun h1 => ?_)
  ·obtain ⟨q, rfl⟩ : ∃ q, j = q + 1 := ⟨j - 1, by simp at h1; omega⟩
   obtain ⟨q3, sp3, rfl, rfl, hq3⟩ : ∃ b sp, a3 = some ⟨b, 0, none⟩ ∧ l3 = [(b, cb ((lowB n (wid n)).map u8 ++ sp) 5)] ∧ (lowB n (wid n)).length ≤ c3 := by
    rcases hv3.2 with ⟨_, h9, _⟩ | ⟨b, c, sp, h9, h10, _, h11⟩
    ·omega
    ·simp only [Value.slice.injEq] at h9
     obtain ⟨h9, -, rfl⟩ := h9
     exact ⟨b, sp, h9, h10, h11⟩
   refine JC.skip ?_; refine JX.thenN (hK9 _ _ ?_); refine JC.seq (fun K11 hK11 => ?_); refine JC.block ?_; refine JC.region ?_; refine J.move rfl rfl ?_; refine J.move rfl rfl ?_; refine J.move rfl rfl ?_; refine J.name 29 rfl (show _ = Value.int .i64 ((q : Nat) : Int) from congrArg (Value.int .i64) (by omega)) ?_; refine J.indexAddrS Ty.el26 Ty.s5 rfl rfl (by omega) (by omega) rfl ?_; refine J.load1 (v := u8 (UInt8.ofNat (n / 256 ^ q))) Ty.a5 rfl (fun w1 hw => (cell_of (hw.own (q3, cb ((lowB n (wid n)).map u8 ++ sp3) 5) zm)).trans (by rw [at_u8 (by omega), lowB_at n _ q (by omega)])) rfl ?_; refine J.buildSl (cs := [UInt8.ofNat (n / 256 ^ q)].map u8) Ty.el26 Ty.s5 Ty.z5 rfl rfl rfl rfl rfl rfl rfl (fun b32 => ?_); refine J.perm (l4 ++ ((b32, cb (([UInt8.ofNat (n / 256 ^ q)]).map u8) 5) :: [(q3, cb ((lowB n (wid n)).map u8 ++ sp3) 5)])) zp ?_; refine J.append (lp := l4) (xs := (((numB n).take (1 + (wid n - (q + 1))))).map u8) (ys := ([UInt8.ofNat (n / 256 ^ q)]).map u8) (k := (((numB n).take (1 + (wid n - (q + 1))))).length) (m := ([UInt8.ofNat (n / 256 ^ q)]).length) Ty.el26 Ty.s5 Ty.b5 Ty.z5 rfl (.inl ⟨5, Ty.u26⟩) rfl rfl hv4 (fun w1 hw => .inl (Row.own (cs := ([UInt8.ofNat (n / 256 ^ q)]).map u8) (tb := 5) (fr := (0, 0)) hw (List.mem_append_right _ (.head _)) (List.take_of_length_le (Nat.le_refl _)) (Nat.le_refl _))) (by rw [List.length_map, Nat.mul_one]) (one_u8 _) (by simp only [List.length_singleton, List.length_take]; omega) (by simp only [List.length_singleton, List.length_take]; omega) rfl (fun v33 l33 hv33 => ?_)
   rw [← List.map_append, ← List.length_append] at hv33
   rw [numB_step hj] at hv33
   refine J.assign rfl rfl ?_; refine J.nil ?_; refine JX.blockN ?_; refine JX.thenN (hK11 _ _ ?_); refine JC.region ?_; refine J.move rfl rfl ?_; refine J.subN rfl rfl (by omega) (by omega) rfl ?_; refine J.name 26 rfl (show _ = Value.int .i64 (((q : Nat) : Int) - 1) from congrArg (Value.int .i64) (by omega)) ?_; refine J.assign rfl rfl ?_; refine J.nil ?_; refine JX.thenN ?_; refine JX.again (⟨q, v33, l33⟩ : ByS) ?_ ?_ ?_
   ·simp only; omega
   ·exact ⟨rfl, rfl, rfl, trivial⟩
   ·exact fun w1 hw => ⟨⟨by simp only; omega, hv33⟩, (hw.perm (zp : List.Perm _ ((b32, cb ([UInt8.ofNat (n / 256 ^ q)].map u8) 5) :: (l33 ++ [(q3, cb ((lowB n (wid n)).map u8 ++ sp3) 5)])))).drop (List.sublist_cons_self _ _)⟩
  ·have hj0 : j = 0 := by simp at h1; omega
   subst hj0
   rw [Nat.sub_zero, List.take_of_length_le (by rw [hnl]; exact Nat.le_refl _)] at hv4
   refine JC.exit ?_; refine JX.thenE ?_; refine JX.thenE ?_; refine JX.blockE ?_; refine JX.thenN (hK7 _ _ ?_); refine JC.seq (fun K12 hK12 => ?_); refine JC.region ?_; refine J.move rfl rfl ?_; refine J.assign rfl rfl ?_; refine J.nil ?_; refine JX.thenN (hK12 _ _ ?_); refine JC.ret ?_; refine JX.ret1 rfl rfl (fun w hw => ?_)
   exact ⟨(v4, l4), rfl, hv4, hw.drop (List.sublist_append_left _ _)⟩

theorem newB_ne {a b : WV} (h : a.n ≠ b.n) : newB a b = decide (b.n < a.n) := by
 unfold newB
 rw [decide_eq_false h, Bool.false_and, Bool.or_false]
theorem newB_eq {a b : WV} (h : a.n = b.n) : newB a b = decide (valI b.who < valI a.who) := by
 unfold newB
 rw [decide_eq_true h, Bool.true_and, decide_eq_false (by omega), Bool.false_or]
theorem rnewer_spec (a b : WV) (w : World) :
  Calls Try.prog 14 [.agg (cV a).toArray, .agg (cV b).toArray].toArray w fun r w' => r = .returned (.bool (newB a b)) ∧ Bel w w' := by
 refine calls_of_J (args := [.agg (cV a).toArray, .agg (cV b).toArray]) (e := [(0, .agg (cV a).toArray), (1, .agg (cV b).toArray)]) Try.func14 rfl rfl ⟨rfl, rfl, trivial⟩ (St.start w) ?_; refine JC.seq (fun K0 hK0 => ?_); refine JC.region ?_; refine J.box rfl rfl rfl (fun b2 => ?_); refine J.box rfl rfl rfl (fun b3 => ?_); refine J.assign rfl rfl ?_; refine J.nil ?_; refine JX.thenN (hK0 _ _ ?_); refine JC.seq (fun K1 hK1 => ?_); refine JC.seq (fun K2 hK2 => ?_); refine JC.region ?_; refine J.fieldAddr Ty.fd25_0 rfl rfl ?_; refine J.load1 (v := .int .i64 a.n) Ty.a2 rfl (fun w1 hw => by rw [cell_of (hw.own ((b2, cb (cV a) 25)) zm)]; rfl) rfl ?_; refine J.fieldAddr Ty.fd25_0 rfl rfl ?_; refine J.load1 (v := .int .i64 b.n) Ty.a2 rfl (fun w1 hw => by rw [cell_of (hw.own ((b3, cb (cV b) 25)) zm)]; rfl) rfl ?_; refine J.bin rfl rfl rfl rfl ?_; refine J.nil ?_; refine JX.thenN (hK2 _ _ ?_); refine JC.cond rfl (fun h0 => ?_) (fun h0 => ?_)
 ·have hne : a.n ≠ b.n := by simpa using h0
  refine JC.seq (fun K3 hK3 => ?_); refine JC.region ?_; refine J.fieldAddr Ty.fd25_0 rfl rfl ?_; refine J.load1 (v := .int .i64 a.n) Ty.a2 rfl (fun w1 hw => by rw [cell_of (hw.own ((b2, cb (cV a) 25)) zm)]; rfl) rfl ?_; refine J.fieldAddr Ty.fd25_0 rfl rfl ?_; refine J.load1 (v := .int .i64 b.n) Ty.a2 rfl (fun w1 hw => by rw [cell_of (hw.own ((b3, cb (cV b) 25)) zm)]; rfl) rfl ?_; refine J.bin rfl rfl rfl rfl ?_; refine J.name 14 rfl (show _ = Value.bool (newB a b) from congrArg Value.bool (by rw [newB_ne hne])) ?_; refine J.assign rfl rfl ?_; refine J.nil ?_; refine JX.thenN (hK3 _ _ ?_); refine JC.ret ?_; refine JX.thenR ?_; refine JX.ret1 rfl rfl (fun w hw => ?_)
  exact ⟨rfl, (hw.drop (List.nil_sublist _)).below⟩
 ·have heq : a.n = b.n := by simpa using h0
  refine JC.skip ?_; refine JX.thenN (hK1 _ _ ?_); refine JC.seq (fun K4 hK4 => ?_); refine JC.region ?_; refine J.fieldAddr Ty.fd25_1 rfl rfl ?_; refine J.loadA (vs := cI b.who) Ty.a23 Ty.s23 rfl rfl (fun w1 hw => Cells.of_block (hw.own ((b3, cb (cV b) 25)) zm) rfl) rfl ?_; refine J.fieldAddr Ty.fd25_1 rfl rfl ?_; refine J.loadA (vs := cI a.who) Ty.a23 Ty.s23 rfl rfl (fun w1 hw => Cells.of_block (hw.own ((b2, cb (cV a) 25)) zm) rfl) rfl ?_; refine J.callB (v := .bool (newB a b)) (fun w1 w2 hw hb => hw.step hb) Ty.bd21 rfl rfl (fun w1 hw => by rw [newB_eq heq]; exact less_spec b.who a.who w1) ?_; refine J.assign rfl rfl ?_; refine J.nil ?_; refine JX.thenN (hK4 _ _ ?_); refine JC.ret ?_; refine JX.ret1 rfl rfl (fun w hw => ?_)
  exact ⟨rfl, (hw.drop (List.nil_sublist _)).below⟩

end Go.Proofs.Ytoaenmlhehcjfaa
