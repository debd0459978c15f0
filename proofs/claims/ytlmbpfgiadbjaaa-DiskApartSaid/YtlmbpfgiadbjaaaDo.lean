/-
  The laws of layer 5 (disk): walks, fourth part.
-/
import Derived.Test.YtlmbpfgiadbjaaaDn
namespace Go.Proofs.Ytlmbpfgiadbjaaa
open Go.J Go.RowKit
set_option linter.unusedVariables false
set_option linter.unusedSimpArgs false
set_option maxRecDepth 8000
/-- one byte behind a write -/
def want (n : Nat) (i : Int) (m : Nat) (B bs : List UInt8) (k : Nat) : UInt8 := if wE n (-1) i m = 0 ∧ (k : Int) / 64 = i then bs.getD (k % 64) 0 else B.getD k 0
theorem want_get {n : Nat} {i : Int} {B bs : List UInt8} (hB : B.length = 64 * n) {k : Nat} (hk : k < (wB n (-1) i B bs).length) : (wB n (-1) i B bs)[k] = want n i bs.length B bs k := by
  have hl := wB_length (p := -1) (i := i) (bs := bs) hB
  have hkn : k < 64 * n := by omega
  have e : (wB n (-1) i B bs)[k]? = some (want n i bs.length B bs k) := by
    unfold want wB
    by_cases he : wE n (-1) i bs.length = 0
    · rw [if_pos he]
      have h1 : 0 ≤ i ∧ i < n ∧ bs.length ≤ 64 := by
        unfold wE at he
        split at he
        · omega
        · split at he
          · omega
          · omega
      obtain ⟨h1, h2, h3⟩ := h1
      have l1 : (B.take (64 * i.toNat)).length = 64 * i.toNat := by simp; omega
      have l2 : (bs ++ List.replicate (64 - bs.length) (0 : UInt8)).length = 64 := by simp; omega
      by_cases hb : (k : Int) / 64 = i
      · rw [if_pos ⟨he, hb⟩, put, List.append_assoc, List.getElem?_append_right (by omega), List.getElem?_append_left (by omega), l1]
        have : k - 64 * i.toNat = k % 64 := by omega
        rw [this]
        by_cases hm : k % 64 < bs.length
        · rw [List.getElem?_append_left hm, List.getD_eq_getElem?_getD, List.getElem?_eq_getElem hm]; rfl
        · rw [List.getElem?_append_right (by omega), List.getElem?_replicate, if_pos (by omega), List.getD_eq_getElem?_getD, List.getElem?_eq_none (by omega)]; rfl
      · rw [if_neg (fun h => hb h.2), put, List.getD_eq_getElem?_getD]
        have hg : B[k]? = some (B[k]'(by omega)) := List.getElem?_eq_getElem (by omega)
        by_cases hk1 : k < 64 * i.toNat
        · rw [List.append_assoc, List.getElem?_append_left (by omega), List.getElem?_take_of_lt hk1, hg]; rfl
        · rw [List.getElem?_append_right (by simp only [List.length_append] at l1 l2 ⊢; omega), List.getElem?_drop]
          have : 64 * i.toNat + 64 + (k - (List.take (64 * i.toNat) B ++ (bs ++ List.replicate (64 - bs.length) 0)).length) = k := by
            rw [List.length_append, l1, l2]; omega
          rw [this, hg]; rfl
    · rw [if_neg he, if_neg (fun h => he h.1), List.getD_eq_getElem?_getD, List.getElem?_eq_getElem (by omega)]; rfl
  rw [List.getElem?_eq_getElem hk] at e
  simpa using e

theorem diskOf_bad (w : World) (x : Sl UInt8) (hx : RSl 1 1 RU8 w [x.v] x) (hbad : x.xs.length % 64 ≠ 0 ∨ 262144 < x.xs.length) :
    Calls Try.prog 6 [x.v].toArray w fun r w' => r = .returned (.bool true) ∧ Below w.heap.size w w' := by
  have hxr := hx.row
  have hxl := reach_len hx
  refine calls_of_J (args := [x.v]) (e := [(0, x.v)]) Try.func6 rfl rfl ⟨rfl, trivial⟩ (St.start w) ?_
  refine JC.seq (fun K0 hK0 => ?_)
  refine JC.region ?_
  refine J.assign rfl rfl ?_
  refine J.nil ?_
  refine JX.thenN (hK0 _ _ ?_)
  refine JC.seq (fun K1 hK1 => ?_)
  refine JC.region ?_
  refine J.move rfl rfl ?_
  refine J.toStr (m := x.xs.length) (bs := x.xs) Ty.el28 Ty.u5 Ty.u9 rfl (fun w' hw => hxr.st (.inr (by simp)) hw) rfl rfl ?_
  refine J.assign rfl rfl ?_
  refine J.nil ?_
  refine JX.thenN (hK1 _ _ ?_)
  refine JC.seq (fun K2 hK2 => ?_)
  refine JC.region ?_
  refine J.buildSl Ty.el28 Ty.s5 Ty.z5 rfl rfl rfl rfl rfl rfl rfl (fun b12 => ?_)
  refine J.move rfl rfl ?_
  refine J.append (lp := [(b12, cb [] 5)]) (xs := []) (ys := x.xs.map u8) (k := 0) (m := x.xs.length) Ty.el28 Ty.s5 Ty.b5 Ty.z5 rfl (.inl ⟨5, Ty.u28⟩) rfl rfl ⟨rfl, .inr ⟨b12, 0, [], rfl, rfl, rfl, Nat.le_refl _⟩⟩ (fun w' hw => .inl (hxr.st (.inr (by simp)) hw)) (by simp) (one_u8 _) (by omega) (by omega) rfl (fun v1 lp1 hv1 => ?_)
  rw [Nat.zero_add, List.nil_append] at hv1
  obtain ⟨a1, c1, rfl, hc1⟩ := hv1.form
  refine J.assign rfl rfl ?_
  refine J.nil ?_
  refine JX.thenN (hK2 _ _ ?_)
  refine JC.seq (fun K3 hK3 => ?_)
  refine JC.region ?_
  refine J.move rfl rfl ?_
  refine J.callB (fun w1 w2 hw hb => hw.step hb) Ty.bd25 rfl rfl (fun w' hw => of_bad a1 x.xs.length c1 w' hbad) ?_
  refine J.move rfl rfl ?_
  refine J.extract rfl rfl rfl ?_
  refine J.extract rfl rfl rfl ?_
  refine J.assign rfl rfl ?_
  refine J.assign rfl rfl ?_
  refine J.nil ?_
  refine JX.thenN (hK3 _ _ ?_)
  refine JC.seq (fun K4 hK4 => ?_)
  refine JC.seq (fun K5 hK5 => ?_)
  refine JC.region ?_
  refine J.move rfl rfl ?_
  refine J.lenS rfl Ty.u28 rfl rfl ?_
  (first | refine J.remN rfl rfl (by omega) (by omega) rfl ?_ | refine J.bin rfl rfl rfl rfl ?_)
  refine J.bin rfl rfl rfl rfl ?_
  refine J.move rfl rfl ?_
  refine J.split 24 rfl (fun hs24 => ?_) (fun hs24 => ?_)
  · skip
    try simp only [decide_eq_true_eq, decide_eq_false_iff_not, beq_iff_eq, bne_iff_ne, bne_eq_false_iff_eq, ne_eq, beq_eq_false_iff_ne, Bool.not_eq_true, Bool.not_eq_false, Int.not_lt, Int.not_le] at hs24
    first
      | (refine J.skip rfl rfl rfl rfl rfl ?_)
      | (refine J.skipU rfl rfl rfl rfl ?_)
      | (refine J.unguard rfl rfl rfl ?_; refine J.move rfl rfl ?_)
    first
      | (refine J.skip rfl rfl rfl rfl rfl ?_)
      | (refine J.skipU rfl rfl rfl rfl ?_)
      | (refine J.unguard rfl rfl rfl ?_; refine J.lenS rfl Ty.u28 rfl rfl ?_)
    first
      | (refine J.skip rfl rfl rfl rfl rfl ?_)
      | (refine J.skipU rfl rfl rfl rfl ?_)
      | (refine J.unguard rfl rfl rfl ?_; refine J.bin rfl rfl rfl rfl ?_)
    (first | refine J.pickT rfl rfl rfl ?_ | refine J.pickF rfl rfl rfl ?_)
    refine J.nil ?_
    refine JX.thenN (hK5 _ _ ?_)
    first | refine JC.condT rfl ?_ | refine JC.cond rfl (fun _ => ?_) (fun h => by first | (exfalso; simp at h; omega) | (simp at h))
    refine JC.seq (fun K6 hK6 => ?_)
    refine JC.region ?_
    refine J.callB (fun w1 w2 hw hb => hw.step hb) Ty.bd16 rfl rfl (fun w' hw => fixed5 w') ?_
    refine J.move rfl rfl ?_
    first
      | (refine J.skip rfl rfl rfl rfl rfl ?_)
      | (refine J.skipU rfl rfl rfl rfl ?_)
      | (refine J.unguard rfl rfl rfl ?_; refine J.move rfl rfl ?_)
    first
      | (refine J.skip rfl rfl rfl rfl rfl ?_)
      | (refine J.skipU rfl rfl rfl rfl ?_)
      | (refine J.unguard rfl rfl rfl ?_; refine J.eqNil Ty.u23 rfl rfl rfl ?_)
    (first | refine J.pickT rfl rfl rfl ?_ | refine J.pickF rfl rfl rfl ?_)
    refine J.move rfl rfl ?_
    first
      | (refine J.skip rfl rfl rfl rfl rfl ?_)
      | (refine J.skipU rfl rfl rfl rfl ?_)
      | (refine J.unguard rfl rfl rfl ?_; refine J.move rfl rfl ?_)
    first
      | (refine J.skip rfl rfl rfl rfl rfl ?_)
      | (refine J.skipU rfl rfl rfl rfl ?_)
      | (refine J.unguard rfl rfl rfl ?_; refine J.bin rfl rfl rfl rfl ?_)
    (first | refine J.pickT rfl rfl rfl ?_ | refine J.pickF rfl rfl rfl ?_)
    refine J.assign rfl rfl ?_
    refine J.nil ?_
    refine JX.thenN (hK6 _ _ ?_)
    refine JC.ret ?_
    refine JX.thenR ?_
    refine JX.ret1 rfl rfl (fun w hw => ?_)
    exact ⟨rfl, hw.below⟩
  · skip
    try simp only [decide_eq_true_eq, decide_eq_false_iff_not, beq_iff_eq, bne_iff_ne, bne_eq_false_iff_eq, ne_eq, beq_eq_false_iff_ne, Bool.not_eq_true, Bool.not_eq_false, Int.not_lt, Int.not_le] at hs24
    first
      | (refine J.skip rfl rfl rfl rfl rfl ?_)
      | (refine J.skipU rfl rfl rfl rfl ?_)
      | (refine J.unguard rfl rfl rfl ?_; refine J.move rfl rfl ?_)
    first
      | (refine J.skip rfl rfl rfl rfl rfl ?_)
      | (refine J.skipU rfl rfl rfl rfl ?_)
      | (refine J.unguard rfl rfl rfl ?_; refine J.lenS rfl Ty.u28 rfl rfl ?_)
    first
      | (refine J.skip rfl rfl rfl rfl rfl ?_)
      | (refine J.skipU rfl rfl rfl rfl ?_)
      | (refine J.unguard rfl rfl rfl ?_; refine J.bin rfl rfl rfl rfl ?_)
    (first | refine J.pickT rfl rfl rfl ?_ | refine J.pickF rfl rfl rfl ?_)
    refine J.nil ?_
    refine JX.thenN (hK5 _ _ ?_)
    first | refine JC.condT rfl ?_ | refine JC.cond rfl (fun _ => ?_) (fun h => by first | (exfalso; simp at h; omega) | (simp at h))
    refine JC.seq (fun K7 hK7 => ?_)
    refine JC.region ?_
    refine J.callB (fun w1 w2 hw hb => hw.step hb) Ty.bd16 rfl rfl (fun w' hw => fixed5 w') ?_
    refine J.move rfl rfl ?_
    first
      | (refine J.skip rfl rfl rfl rfl rfl ?_)
      | (refine J.skipU rfl rfl rfl rfl ?_)
      | (refine J.unguard rfl rfl rfl ?_; refine J.move rfl rfl ?_)
    first
      | (refine J.skip rfl rfl rfl rfl rfl ?_)
      | (refine J.skipU rfl rfl rfl rfl ?_)
      | (refine J.unguard rfl rfl rfl ?_; refine J.eqNil Ty.u23 rfl rfl rfl ?_)
    (first | refine J.pickT rfl rfl rfl ?_ | refine J.pickF rfl rfl rfl ?_)
    refine J.move rfl rfl ?_
    first
      | (refine J.skip rfl rfl rfl rfl rfl ?_)
      | (refine J.skipU rfl rfl rfl rfl ?_)
      | (refine J.unguard rfl rfl rfl ?_; refine J.move rfl rfl ?_)
    first
      | (refine J.skip rfl rfl rfl rfl rfl ?_)
      | (refine J.skipU rfl rfl rfl rfl ?_)
      | (refine J.unguard rfl rfl rfl ?_; refine J.bin rfl rfl rfl rfl ?_)
    (first | refine J.pickT rfl rfl rfl ?_ | refine J.pickF rfl rfl rfl ?_)
    refine J.assign rfl rfl ?_
    refine J.nil ?_
    refine JX.thenN (hK7 _ _ ?_)
    refine JC.ret ?_
    refine JX.thenR ?_
    refine JX.ret1 rfl rfl (fun w hw => ?_)
    exact ⟨rfl, hw.below⟩

theorem diskOf_good (w : World) (x : Sl UInt8) (hx : RSl 1 1 RU8 w [x.v] x) (n : Nat) (hn : x.xs.length = 64 * n) (hn2 : n ≤ 4096) :
    Calls Try.prog 6 [x.v].toArray w fun r w' => r = .returned (.bool true) ∧ Below w.heap.size w w' := by
  have hxr := hx.row
  have hxl := reach_len hx
  refine calls_of_J (args := [x.v]) (e := [(0, x.v)]) Try.func6 rfl rfl ⟨rfl, trivial⟩ (St.start w) ?_
  refine JC.seq (fun K0 hK0 => ?_)
  refine JC.region ?_
  refine J.assign rfl rfl ?_
  refine J.nil ?_
  refine JX.thenN (hK0 _ _ ?_)
  refine JC.seq (fun K1 hK1 => ?_)
  refine JC.region ?_
  refine J.move rfl rfl ?_
  refine J.toStr (m := x.xs.length) (bs := x.xs) Ty.el28 Ty.u5 Ty.u9 rfl (fun w' hw => hxr.st (.inr (by simp)) hw) rfl rfl ?_
  refine J.assign rfl rfl ?_
  refine J.nil ?_
  refine JX.thenN (hK1 _ _ ?_)
  refine JC.seq (fun K2 hK2 => ?_)
  refine JC.region ?_
  refine J.buildSl Ty.el28 Ty.s5 Ty.z5 rfl rfl rfl rfl rfl rfl rfl (fun b12 => ?_)
  refine J.move rfl rfl ?_
  refine J.append (lp := [(b12, cb [] 5)]) (xs := []) (ys := x.xs.map u8) (k := 0) (m := x.xs.length) Ty.el28 Ty.s5 Ty.b5 Ty.z5 rfl (.inl ⟨5, Ty.u28⟩) rfl rfl ⟨rfl, .inr ⟨b12, 0, [], rfl, rfl, rfl, Nat.le_refl _⟩⟩ (fun w' hw => .inl (hxr.st (.inr (by simp)) hw)) (by simp) (one_u8 _) (by omega) (by omega) rfl (fun v1 lp1 hv1 => ?_)
  rw [Nat.zero_add, List.nil_append] at hv1
  obtain ⟨a1, c1, rfl, hc1⟩ := hv1.form
  refine J.assign rfl rfl ?_
  refine J.nil ?_
  refine JX.thenN (hK2 _ _ ?_)
  refine JC.seq (fun K3 hK3 => ?_)
  refine JC.region ?_
  refine J.move rfl rfl ?_
  refine J.perm ([] ++ lp1) (by (refine perm_cnt (fun _ => ?_)); simp only [cntB_append, cntB_cons, cntB_nil, Nat.add_zero, Nat.zero_add]; try ac_rfl) ?_
  refine J.callS (l1 := []) Ty.bd25 rfl rfl (fun w' hw => of_spec a1 x.xs.length c1 n x.xs w' (hv1.row (l := []) (hw.perm (by (refine perm_cnt (fun _ => ?_)); simp only [cntB_append, cntB_cons, cntB_nil, Nat.add_zero, Nat.zero_add]; try ac_rfl))) rfl hn hn2) (fun y _ => ?_)
  obtain ⟨d, s⟩ := y
  simp only
  refine J.move rfl rfl ?_
  refine J.extract rfl rfl rfl ?_
  refine J.extract rfl rfl rfl ?_
  refine J.assign rfl rfl ?_
  refine J.assign rfl rfl ?_
  refine J.nil ?_
  refine JX.thenN (hK3 _ _ ?_)
  refine JC.seq (fun K4 hK4 => ?_)
  refine JC.seq (fun K5 hK5 => ?_)
  refine JC.region ?_
  refine J.move rfl rfl ?_
  refine J.lenS rfl Ty.u28 rfl rfl ?_
  (first | refine J.remN rfl rfl (by omega) (by omega) rfl ?_ | refine J.bin rfl rfl rfl rfl ?_)
  refine J.bin rfl rfl rfl rfl ?_
  refine J.move rfl rfl ?_
  refine J.split 24 rfl (fun h => by first | (exfalso; simp at h; omega) | (simp at h)) (fun _ => ?_)
  first
    | (refine J.skip rfl rfl rfl rfl rfl ?_)
    | (refine J.skipU rfl rfl rfl rfl ?_)
    | (refine J.unguard rfl rfl rfl ?_; refine J.move rfl rfl ?_)
  first
    | (refine J.skip rfl rfl rfl rfl rfl ?_)
    | (refine J.skipU rfl rfl rfl rfl ?_)
    | (refine J.unguard rfl rfl rfl ?_; refine J.lenS rfl Ty.u28 rfl rfl ?_)
  first
    | (refine J.skip rfl rfl rfl rfl rfl ?_)
    | (refine J.skipU rfl rfl rfl rfl ?_)
    | (refine J.unguard rfl rfl rfl ?_; refine J.bin rfl rfl rfl rfl ?_)
  (first | refine J.pickT rfl rfl rfl ?_ | refine J.pickF rfl rfl rfl ?_)
  refine J.nil ?_
  refine JX.thenN (hK5 _ _ ?_)
  first | refine JC.condF rfl ?_ | refine JC.cond rfl (fun h => by first | (exfalso; simp at h; omega) | (simp at h)) (fun _ => ?_)
  refine JC.skip ?_
  refine JX.thenN (hK4 _ _ ?_)
  refine JC.seq (fun K6 hK6 => ?_)
  refine JC.seq (fun K7 hK7 => ?_)
  refine JC.region ?_
  refine J.move rfl rfl ?_
  refine J.eqNil Ty.u23 rfl rfl rfl ?_
  refine J.move rfl rfl ?_
  first
    | (refine J.skip rfl rfl rfl rfl rfl ?_)
    | (refine J.skipU rfl rfl rfl rfl ?_)
    | (refine J.unguard rfl rfl rfl ?_; refine J.move rfl rfl ?_)
  first
    | (refine J.skip rfl rfl rfl rfl rfl ?_)
    | (refine J.skipU rfl rfl rfl rfl ?_)
    | (refine J.unguard rfl rfl rfl ?_; refine J.bin rfl rfl rfl rfl ?_)
  (first | refine J.pickT rfl rfl rfl ?_ | refine J.pickF rfl rfl rfl ?_)
  refine J.nil ?_
  refine JX.thenN (hK7 _ _ ?_)
  first | refine JC.condF rfl ?_ | refine JC.cond rfl (fun h => by first | (exfalso; simp at h; omega) | (simp at h)) (fun _ => ?_)
  refine JC.skip ?_
  refine JX.thenN (hK6 _ _ ?_)
  refine JC.seq (fun K8 hK8 => ?_)
  refine JC.seq (fun K9 hK9 => ?_)
  refine JC.region ?_
  refine J.perm (lp1 ++ [(d, dkO s n (-1) 0), (s, dkS x.xs)]) (by (refine perm_cnt (fun _ => ?_)); simp only [cntB_append, cntB_cons, cntB_nil, Nat.add_zero, Nat.zero_add]; try ac_rfl) ?_
  refine J.move rfl rfl ?_
  refine J.lenS rfl Ty.u28 rfl rfl ?_
  refine J.move rfl rfl ?_
  refine J.nil ?_
  refine JX.thenN (hK9 _ _ ?_)
  refine JC.block ?_
  refine JC.conseq (JC.cov (f := (fun st => [(3, .string (str x.xs)), (4, .pointer (some ⟨d, 0, none⟩)), (0, .slice a1 x.xs.length c1), (44, .slice a1 x.xs.length c1), (45, .int .i64 ((x.xs.length : Nat) : Int)), (46, .int .i64 ((st.1 : Nat) : Int))]) ((0, x.xs, lp1) : Nat × List UInt8 × List (Nat × Obj))) ⟨rfl, rfl, rfl, rfl, rfl, rfl, trivial⟩ (JC.loop (α := Nat × List UInt8 × List (Nat × Obj)) (fun st => [(3, .string (str x.xs)), (4, .pointer (some ⟨d, 0, none⟩)), (0, .slice a1 x.xs.length c1), (44, .slice a1 x.xs.length c1), (45, .int .i64 ((x.xs.length : Nat) : Int)), (46, .int .i64 ((st.1 : Nat) : Int))]) (fun st w' => (st.1 ≤ x.xs.length ∧ Vec 5 1 (.slice a1 x.xs.length c1) x.xs.length (st.2.1.map u8) st.2.2) ∧ St w [] (st.2.2 ++ ([(d, dkO s n (-1) 0), (s, dkS x.xs)])) w') (fun st => x.xs.length - st.1) ((0, x.xs, lp1) : Nat × List UInt8 × List (Nat × Obj)) (fun st => ?_))) (fun w hw => ⟨⟨Nat.zero_le _, hv1⟩, hw⟩)
  obtain ⟨ji, yi, li⟩ := st
  refine JC.pr (fun hx => ?_)
  obtain ⟨hji, hvi⟩ := hx
  simp only at hji hvi ⊢
  refine JC.seq (fun K10 hK10 => ?_)
  refine JC.region ?_
  refine J.bin rfl rfl rfl rfl ?_
  refine J.nil ?_
  refine JX.thenN (hK10 _ _ ?_)
  refine JC.seq (fun K11 hK11 => ?_)
  refine JC.cond rfl (fun h2 => ?_) (fun h2 => ?_)
  · skip
    have hlti : ji < x.xs.length := by simp at h2; omega
    obtain ⟨qi, si, hqi, rfl, hyi, hfi⟩ := hvi.at hlti
    subst hqi
    refine JC.skip ?_
    refine JX.thenN (hK11 _ _ ?_)
    refine JC.seq (fun K12 hK12 => ?_)
    refine JC.block ?_
    refine JC.seq (fun K13 hK13 => ?_)
    refine JC.region ?_
    refine J.move rfl rfl ?_
    refine J.assign rfl rfl ?_
    refine J.nil ?_
    refine JX.thenN (hK13 _ _ ?_)
    refine JC.region ?_
    refine J.move rfl rfl ?_
    refine J.move rfl rfl ?_
    refine J.indexAddrS Ty.el28 Ty.s5 rfl rfl (by omega) (by omega) rfl ?_
    refine J.loadO (v := u8 (yi[ji]'(by omega))) Ty.a5 rfl (.head _) (at_u8 (by omega)) rfl ?_
    refine J.bin rfl rfl rfl rfl ?_
    refine J.name 53 rfl (u8_succ (yi[ji]'(by omega))) ?_
    refine J.indexAddrS Ty.el28 Ty.s5 rfl rfl (by omega) (by omega) rfl ?_
    refine J.storeO (vs := [u8 (yi[ji]'(by omega) + 1)]) Ty.s5 rfl rfl rfl rfl (by simp [Value.oneCell']) .here (by simp; omega) ?_
    refine J.nil ?_
    refine JX.blockN ?_
    refine JX.thenN (hK12 _ _ ?_)
    refine JC.region ?_
    (first | refine J.addN rfl rfl (by omega) (by omega) rfl ?_ | refine J.bin rfl rfl rfl rfl ?_)
    refine J.move rfl rfl ?_
    refine J.nil ?_
    refine JX.thenN ?_
    refine JX.again (ji + 1, yi.set ji (yi[ji]'(by omega) + 1), [(qi, cb (setMany (yi.map u8 ++ si) (0 + (ji : Int).toNat * 1) [u8 (yi[ji]'(by omega) + 1)]) 5)]) ?_ ?_ ?_
    · simp only; omega
    · exact ⟨rfl, rfl, rfl, rfl, rfl, rfl, trivial⟩
    · exact fun w hw => ⟨⟨hlti, hfi _⟩, hw⟩
  · skip
    have hgei : ji = x.xs.length := by simp at h2; omega
    refine JC.exit ?_
    refine JX.thenE ?_
    refine JX.thenE ?_
    refine JX.blockE ?_
    refine JX.thenN (hK8 _ _ ?_)
    refine JC.seq (fun K14 hK14 => ?_)
    refine JC.region ?_
    refine J.move rfl rfl ?_
    refine J.perm ([(d, dkO s n (-1) 0), (s, dkS x.xs)] ++ li) (by (refine perm_cnt (fun _ => ?_)); simp only [cntB_append, cntB_cons, cntB_nil, Nat.add_zero, Nat.zero_add]; try ac_rfl) ?_
    refine J.callS (l1 := [(d, _), (s, _)]) Ty.bd24 rfl rfl (fun w' hw => bytes_spec d s n x.xs (-1) 0 w' hw.owns hn hn2) (fun y hv2 => ?_)
    obtain ⟨v2, lp2⟩ := y
    simp only at hv2 ⊢
    obtain ⟨a2, c2, rfl, hc2⟩ := hv2.form
    refine J.assign rfl rfl ?_
    refine J.nil ?_
    refine JX.thenN (hK14 _ _ ?_)
    refine JC.seq (fun K15 hK15 => ?_)
    refine JC.region ?_
    refine J.move rfl rfl ?_
    refine J.toStr (m := 64 * n) (bs := x.xs) Ty.el28 Ty.u5 Ty.u9 rfl (fun w' hw => hv2.row (l := [(d, dkO s n (-1) 0), (s, dkS x.xs)] ++ li) (hw.perm (by (refine perm_cnt (fun _ => ?_)); simp only [cntB_append, cntB_cons, cntB_nil, Nat.add_zero, Nat.zero_add]; try ac_rfl))) hn rfl ?_
    refine J.move rfl rfl ?_
    refine J.strEq rfl rfl rfl ?_
    refine J.name 61 rfl (show Value.bool _ = .bool true by simp) ?_
    refine J.assign rfl rfl ?_
    refine J.nil ?_
    refine JX.thenN (hK15 _ _ ?_)
    refine JC.seq (fun K16 hK16 => ?_)
    refine JC.seq (fun K17 hK17 => ?_)
    refine JC.region ?_
    refine J.perm (lp2 ++ (li ++ [(d, dkO s n (-1) 0), (s, dkS x.xs)])) (by (refine perm_cnt (fun _ => ?_)); simp only [cntB_append, cntB_cons, cntB_nil, Nat.add_zero, Nat.zero_add]; try ac_rfl) ?_
    refine J.move rfl rfl ?_
    refine J.lenS rfl Ty.u28 rfl rfl ?_
    refine J.move rfl rfl ?_
    refine J.nil ?_
    refine JX.thenN (hK17 _ _ ?_)
    refine JC.block ?_
    refine JC.conseq (JC.cov (f := (fun st => [(3, .string (str x.xs)), (4, .pointer (some ⟨d, 0, none⟩)), (8, .bool true), (7, .slice a2 (64 * n) c2), (62, .slice a2 (64 * n) c2), (63, .int .i64 (((64 * n) : Nat) : Int)), (64, .int .i64 ((st.1 : Nat) : Int))]) ((0, x.xs, lp2) : Nat × List UInt8 × List (Nat × Obj))) ⟨rfl, rfl, rfl, rfl, rfl, rfl, rfl, trivial⟩ (JC.loop (α := Nat × List UInt8 × List (Nat × Obj)) (fun st => [(3, .string (str x.xs)), (4, .pointer (some ⟨d, 0, none⟩)), (8, .bool true), (7, .slice a2 (64 * n) c2), (62, .slice a2 (64 * n) c2), (63, .int .i64 (((64 * n) : Nat) : Int)), (64, .int .i64 ((st.1 : Nat) : Int))]) (fun st w' => (st.1 ≤ (64 * n) ∧ Vec 5 1 (.slice a2 (64 * n) c2) (64 * n) (st.2.1.map u8) st.2.2) ∧ St w [] (st.2.2 ++ ((li ++ [(d, dkO s n (-1) 0), (s, dkS x.xs)]))) w') (fun st => (64 * n) - st.1) ((0, x.xs, lp2) : Nat × List UInt8 × List (Nat × Obj)) (fun st => ?_))) (fun w hw => ⟨⟨Nat.zero_le _, hv2⟩, hw⟩)
    obtain ⟨jj, yj, lj⟩ := st
    refine JC.pr (fun hx => ?_)
    obtain ⟨hjj, hvj⟩ := hx
    simp only at hjj hvj ⊢
    refine JC.seq (fun K18 hK18 => ?_)
    refine JC.region ?_
    refine J.bin rfl rfl rfl rfl ?_
    refine J.nil ?_
    refine JX.thenN (hK18 _ _ ?_)
    refine JC.seq (fun K19 hK19 => ?_)
    refine JC.cond rfl (fun h3 => ?_) (fun h3 => ?_)
    · skip
      have hltj : jj < (64 * n) := by simp at h3; omega
      obtain ⟨qj, sj, hqj, rfl, hyj, hfj⟩ := hvj.at hltj
      subst hqj
      refine JC.skip ?_
      refine JX.thenN (hK19 _ _ ?_)
      refine JC.seq (fun K20 hK20 => ?_)
      refine JC.block ?_
      refine JC.seq (fun K21 hK21 => ?_)
      refine JC.region ?_
      refine J.move rfl rfl ?_
      refine J.assign rfl rfl ?_
      refine J.nil ?_
      refine JX.thenN (hK21 _ _ ?_)
      refine JC.region ?_
      refine J.move rfl rfl ?_
      refine J.move rfl rfl ?_
      refine J.indexAddrS Ty.el28 Ty.s5 rfl rfl (by omega) (by omega) rfl ?_
      refine J.loadO (v := u8 (yj[jj]'(by omega))) Ty.a5 rfl (.head _) (at_u8 (by omega)) rfl ?_
      refine J.bin rfl rfl rfl rfl ?_
      refine J.name 71 rfl (u8_succ (yj[jj]'(by omega))) ?_
      refine J.indexAddrS Ty.el28 Ty.s5 rfl rfl (by omega) (by omega) rfl ?_
      refine J.storeO (vs := [u8 (yj[jj]'(by omega) + 1)]) Ty.s5 rfl rfl rfl rfl (by simp [Value.oneCell']) .here (by simp; omega) ?_
      refine J.nil ?_
      refine JX.blockN ?_
      refine JX.thenN (hK20 _ _ ?_)
      refine JC.region ?_
      (first | refine J.addN rfl rfl (by omega) (by omega) rfl ?_ | refine J.bin rfl rfl rfl rfl ?_)
      refine J.move rfl rfl ?_
      refine J.nil ?_
      refine JX.thenN ?_
      refine JX.again (jj + 1, yj.set jj (yj[jj]'(by omega) + 1), [(qj, cb (setMany (yj.map u8 ++ sj) (0 + (jj : Int).toNat * 1) [u8 (yj[jj]'(by omega) + 1)]) 5)]) ?_ ?_ ?_
      · simp only; omega
      · exact ⟨rfl, rfl, rfl, rfl, rfl, rfl, rfl, trivial⟩
      · exact fun w hw => ⟨⟨hltj, hfj _⟩, hw⟩
    · skip
      have hgej : jj = (64 * n) := by simp at h3; omega
      refine JC.exit ?_
      refine JX.thenE ?_
      refine JX.thenE ?_
      refine JX.blockE ?_
      refine JX.thenN (hK16 _ _ ?_)
      refine JC.seq (fun K22 hK22 => ?_)
      refine JC.region ?_
      refine J.perm ([(d, dkO s n (-1) 0), (s, dkS x.xs)] ++ (lj ++ li)) (by (refine perm_cnt (fun _ => ?_)); simp only [cntB_append, cntB_cons, cntB_nil, Nat.add_zero, Nat.zero_add]; try ac_rfl) ?_
      refine J.callB (fun w1 w2 hw hb => hw.step hb) Ty.bd16 rfl rfl (fun w' hw => fixed5 w') ?_
      refine J.move rfl rfl ?_
      first
        | (refine J.skip rfl rfl rfl rfl rfl ?_)
        | (refine J.skipU rfl rfl rfl rfl ?_)
        | (refine J.unguard rfl rfl rfl ?_; refine J.move rfl rfl ?_)
      (first | refine J.pickT rfl rfl rfl ?_ | refine J.pickF rfl rfl rfl ?_)
      refine J.move rfl rfl ?_
      first
        | (refine J.skip rfl rfl rfl rfl rfl ?_)
        | (refine J.skipU rfl rfl rfl rfl ?_)
        | (refine J.unguard rfl rfl rfl ?_; refine J.move rfl rfl ?_)
      first
        | (refine J.skip rfl rfl rfl rfl rfl ?_)
        | (refine J.skipU rfl rfl rfl rfl ?_)
        | (refine J.unguard rfl rfl rfl ?_; refine J.callB (fun w1 w2 hw hb => hw.step hb) Ty.bd23 rfl rfl (fun w' hw => size_spec d s n (-1) 0 w' hw.owns') ?_)
      first
        | (refine J.skip rfl rfl rfl rfl rfl ?_)
        | (refine J.skipU rfl rfl rfl rfl ?_)
        | (refine J.unguard rfl rfl rfl ?_; refine J.move rfl rfl ?_)
      refine J.unguard rfl rfl rfl ?_
      refine J.lenStr rfl Ty.u9 rfl rfl ?_
      refine J.name 82 rfl (show Value.int .i64 _ = .int .i64 ((64 * n : Nat) : Int) by rw [str_size, hn]) ?_
      refine J.unguard rfl rfl rfl ?_
      refine J.quoN rfl rfl (by omega) (by omega) (by omega) rfl ?_
      refine J.name 83 rfl (congrArg (Value.int .i64) (show ((64 * n : Nat) : Int) / 64 = (n : Int) by omega)) ?_
      refine J.unguard rfl rfl rfl ?_
      refine J.bin rfl rfl rfl rfl ?_
      refine J.name 84 rfl (show Value.bool _ = .bool true by simp) ?_
      (first | refine J.pickT rfl rfl rfl ?_ | refine J.pickF rfl rfl rfl ?_)
      refine J.move rfl rfl ?_
      first
        | (refine J.skip rfl rfl rfl rfl rfl ?_)
        | (refine J.skipU rfl rfl rfl rfl ?_)
        | (refine J.unguard rfl rfl rfl ?_; refine J.move rfl rfl ?_)
      first
        | (refine J.skip rfl rfl rfl rfl rfl ?_)
        | (refine J.skipU rfl rfl rfl rfl ?_)
        | (refine J.unguard rfl rfl rfl ?_; refine J.callB (fun w1 w2 hw hb => hw.step hb) Ty.bd22 rfl rfl (fun w' hw => done_spec d s n (-1) 0 w' hw.owns') ?_)
      first
        | (refine J.skip rfl rfl rfl rfl rfl ?_)
        | (refine J.skipU rfl rfl rfl rfl ?_)
        | (refine J.unguard rfl rfl rfl ?_; refine J.bin rfl rfl rfl rfl ?_)
      (first | refine J.pickT rfl rfl rfl ?_ | refine J.pickF rfl rfl rfl ?_)
      refine J.move rfl rfl ?_
      first
        | (refine J.skip rfl rfl rfl rfl rfl ?_)
        | (refine J.skipU rfl rfl rfl rfl ?_)
        | (refine J.unguard rfl rfl rfl ?_; refine J.move rfl rfl ?_)
      refine J.unguard rfl rfl rfl ?_
      refine J.callS (l1 := [(d, _), (s, _)]) Ty.bd24 rfl rfl (fun w' hw => bytes_spec d s n x.xs (-1) 0 w' hw.owns hn hn2) (fun y hv3 => ?_)
      obtain ⟨v3, lp3⟩ := y
      simp only at hv3 ⊢
      obtain ⟨a3, c3, rfl, hc3⟩ := hv3.form
      refine J.unguard rfl rfl rfl ?_
      refine J.toStr (m := 64 * n) (bs := x.xs) Ty.el28 Ty.u5 Ty.u9 rfl (fun w' hw => hv3.row (l := [(d, dkO s n (-1) 0), (s, dkS x.xs)] ++ (lj ++ li)) (hw.perm (by (refine perm_cnt (fun _ => ?_)); simp only [cntB_append, cntB_cons, cntB_nil, Nat.add_zero, Nat.zero_add]; try ac_rfl))) hn rfl ?_
      first
        | (refine J.skip rfl rfl rfl rfl rfl ?_)
        | (refine J.skipU rfl rfl rfl rfl ?_)
        | (refine J.unguard rfl rfl rfl ?_; refine J.move rfl rfl ?_)
      refine J.unguard rfl rfl rfl ?_
      refine J.strEq rfl rfl rfl ?_
      refine J.name 96 rfl (show Value.bool _ = .bool true by simp) ?_
      (first | refine J.pickT rfl rfl rfl ?_ | refine J.pickF rfl rfl rfl ?_)
      refine J.assign rfl rfl ?_
      refine J.nil ?_
      refine JX.thenN (hK22 _ _ ?_)
      refine JC.ret ?_
      refine JX.ret1 rfl rfl (fun w hw => ?_)
      exact ⟨rfl, hw.below⟩

theorem diskOf_walk (w : World) (x : Sl UInt8) (hx : RSl 1 1 RU8 w [x.v] x) : Calls Try.prog 6 [x.v].toArray w fun r w' => r = .returned (.bool true) ∧ Below w.heap.size w w' := by
  by_cases h : x.xs.length % 64 ≠ 0 ∨ 262144 < x.xs.length
  · exact diskOf_bad w x hx h
  · exact diskOf_good w x hx (x.xs.length / 64) (by omega) (by omega)

theorem diskApart_walk (w : World) (x : Sl UInt8) (hx : RSl 1 1 RU8 w [x.v] x) (i : Int) (w1 : (Lit.int .i64 i).wf = true) (y : Sl UInt8) (hy : RSl 1 1 RU8 w [y.v] y) :
    Calls Try.prog 7 [x.v, .int .i64 i, y.v].toArray w fun r w' => r = .returned (.bool true) ∧ Below w.heap.size w w' := by
  have hxr := hx.row
  have hxl := reach_len hx
  have hyr := hy.row
  have hyl := reach_len hy
  have hi := bounds_i64 w1
  obtain ⟨N, hN⟩ : ∃ N : Nat, N = min (x.xs.length / 64) 40 := ⟨_, rfl⟩
  have hBl : (x.xs.take (64 * N)).length = 64 * N := by simp; omega
  have hwl : (wB N (-1) i (x.xs.take (64 * N)) y.xs).length = 64 * N := wB_length hBl
  refine calls_of_J (args := [x.v, .int .i64 i, y.v]) (e := [(0, x.v), (1, .int .i64 i), (2, y.v)]) Try.func7 rfl rfl ⟨rfl, rfl, rfl, trivial⟩ (St.start w) ?_
  refine JC.seq (fun K0 hK0 => ?_)
  refine JC.region ?_
  refine J.assign rfl rfl ?_
  refine J.nil ?_
  refine JX.thenN (hK0 _ _ ?_)
  refine JC.seq (fun K1 hK1 => ?_)
  refine JC.region ?_
  refine J.buildSl Ty.el28 Ty.s5 Ty.z5 rfl rfl rfl rfl rfl rfl rfl (fun b13 => ?_)
  refine J.move rfl rfl ?_
  refine J.move rfl rfl ?_
  refine J.lenS rfl Ty.u28 rfl rfl ?_
  refine J.quoN rfl rfl (by omega) (by omega) (by omega) rfl ?_
  refine J.min2 rfl rfl rfl ?_
  refine J.mulN rfl rfl (by omega) (by omega) rfl ?_
  refine J.name 19 rfl (congrArg (Value.int .i64) (show min ((x.xs.length : Int) / 64) 40 * 64 = ((64 * N : Nat) : Int) by omega)) ?_
  refine J.sliceS (i := 0) (j := 64 * N) Ty.el28 Ty.s5 rfl rfl rfl rfl (by simp [bnd]; omega) (by omega) (by have := hxr.cap; omega) hxr.cap rfl ?_
  refine J.append (lp := [(b13, cb [] 5)]) (xs := []) (ys := ((x.xs.map u8).drop (0 * 1)).take ((64 * N - 0) * 1)) (k := 0) (m := 64 * N - 0) Ty.el28 Ty.s5 Ty.b5 Ty.z5 rfl (.inl ⟨5, Ty.u28⟩) rfl rfl ⟨rfl, .inr ⟨b13, 0, [], rfl, rfl, rfl, Nat.le_refl _⟩⟩ (fun w' hw => .inl ((hxr.st (.inr (by simp)) hw).slice (sz := 1) (i := 0) (j := 64 * N) (by simp) (by omega) (by omega))) (by simp; omega) (fun y hy => one_u8 x.xs y (List.mem_of_mem_drop (List.mem_of_mem_take hy))) (by omega) (by omega) rfl (fun v1 lp1 hv1 => ?_)
  rw [Nat.zero_add, List.nil_append, Nat.zero_mul, List.drop_zero, Nat.mul_one, Nat.sub_zero, ← List.map_take] at hv1
  obtain ⟨a1, c1, rfl, hc1⟩ := hv1.form
  refine J.assign rfl rfl ?_
  refine J.nil ?_
  refine JX.thenN (hK1 _ _ ?_)
  refine JC.seq (fun K2 hK2 => ?_)
  refine JC.region ?_
  refine J.move rfl rfl ?_
  refine J.perm ([] ++ lp1) (by (refine perm_cnt (fun _ => ?_)); simp only [cntB_append, cntB_cons, cntB_nil, Nat.add_zero, Nat.zero_add]; try ac_rfl) ?_
  refine J.callS (l1 := []) Ty.bd25 rfl rfl (fun w' hw => of_spec a1 (64 * N) c1 N (x.xs.take (64 * N)) w' (hv1.row (l := []) (hw.perm (by (refine perm_cnt (fun _ => ?_)); simp only [cntB_append, cntB_cons, cntB_nil, Nat.add_zero, Nat.zero_add]; try ac_rfl))) hBl rfl (by omega)) (fun y _ => ?_)
  obtain ⟨d, s⟩ := y
  simp only
  refine J.move rfl rfl ?_
  refine J.extract rfl rfl rfl ?_
  refine J.extract rfl rfl rfl ?_
  refine J.assign rfl rfl ?_
  refine J.assign rfl rfl ?_
  refine J.nil ?_
  refine JX.thenN (hK2 _ _ ?_)
  refine JC.seq (fun K3 hK3 => ?_)
  refine JC.seq (fun K4 hK4 => ?_)
  refine JC.region ?_
  refine J.move rfl rfl ?_
  refine J.eqNil Ty.u23 rfl rfl rfl ?_
  refine J.move rfl rfl ?_
  first
    | (refine J.skip rfl rfl rfl rfl rfl ?_)
    | (refine J.skipU rfl rfl rfl rfl ?_)
    | (refine J.unguard rfl rfl rfl ?_; refine J.move rfl rfl ?_)
  first
    | (refine J.skip rfl rfl rfl rfl rfl ?_)
    | (refine J.skipU rfl rfl rfl rfl ?_)
    | (refine J.unguard rfl rfl rfl ?_; refine J.bin rfl rfl rfl rfl ?_)
  (first | refine J.pickT rfl rfl rfl ?_ | refine J.pickF rfl rfl rfl ?_)
  refine J.move rfl rfl ?_
  first
    | (refine J.skip rfl rfl rfl rfl rfl ?_)
    | (refine J.skipU rfl rfl rfl rfl ?_)
    | (refine J.unguard rfl rfl rfl ?_; refine J.callB (fun w1 w2 hw hb => hw.step hb) Ty.bd16 rfl rfl (fun w' hw => fixed5 w') ?_)
  first
    | (refine J.skip rfl rfl rfl rfl rfl ?_)
    | (refine J.skipU rfl rfl rfl rfl ?_)
    | (refine J.unguard rfl rfl rfl ?_; refine J.not rfl rfl ?_)
  (first | refine J.pickT rfl rfl rfl ?_ | refine J.pickF rfl rfl rfl ?_)
  refine J.nil ?_
  refine JX.thenN (hK4 _ _ ?_)
  first | refine JC.condF rfl ?_ | refine JC.cond rfl (fun h => by first | (exfalso; simp at h; omega) | (simp at h)) (fun _ => ?_)
  refine JC.skip ?_
  refine JX.thenN (hK3 _ _ ?_)
  refine JC.seq (fun K5 hK5 => ?_)
  refine JC.region ?_
  refine J.move rfl rfl ?_
  refine J.move rfl rfl ?_
  refine J.move rfl rfl ?_
  refine J.callT (l1 := [(d, dkO s N (-1) 0), (s, dkS (x.xs.take (64 * N)))]) (L := [(d, dkO s N (wP N (-1) i y.xs.length) (wK N (-1) i y.xs.length 0)), (s, dkS (wB N (-1) i (x.xs.take (64 * N)) y.xs))]) Ty.bd17 rfl rfl (fun w' hw => write_all d s N (x.xs.take (64 * N)) y.xs (-1) 0 i y.a y.xs.length y.c w' hw.owns hBl (by omega) (by omega) rfl (hyr.st (.inr (by simp)) hw) (hyr.offNew hw (fun p hp => List.mem_append_left _ hp)) (by omega)) ?_
  refine J.assign rfl rfl ?_
  refine J.nil ?_
  refine JX.thenN (hK5 _ _ ?_)
  refine JC.seq (fun K6 hK6 => ?_)
  refine JC.region ?_
  refine J.move rfl rfl ?_
  refine J.callS (l1 := [(d, dkO s N (wP N (-1) i y.xs.length) (wK N (-1) i y.xs.length 0)), (s, dkS (wB N (-1) i (x.xs.take (64 * N)) y.xs))]) Ty.bd24 rfl rfl (fun w' hw => bytes_spec d s N _ _ _ w' hw.owns (wB_length hBl) (by omega)) (fun z hv2 => ?_)
  obtain ⟨v2, lp2⟩ := z
  simp only at hv2 ⊢
  obtain ⟨a2, c2, rfl, hc2⟩ := hv2.form
  refine J.perm (lp2 ++ (lp1 ++ [(d, dkO s N (wP N (-1) i y.xs.length) (wK N (-1) i y.xs.length 0)), (s, dkS (wB N (-1) i (x.xs.take (64 * N)) y.xs))])) (by (refine perm_cnt (fun _ => ?_)); simp only [cntB_append, cntB_cons, cntB_nil, Nat.add_zero, Nat.zero_add]; try ac_rfl) ?_
  refine J.assign rfl rfl ?_
  refine J.nil ?_
  refine JX.thenN (hK6 _ _ ?_)
  refine JC.seq (fun K7 hK7 => ?_)
  refine JC.seq (fun K8 hK8 => ?_)
  refine JC.region ?_
  refine J.move rfl rfl ?_
  refine J.lenS rfl Ty.u28 rfl rfl ?_
  refine J.move rfl rfl ?_
  refine J.lenS rfl Ty.u28 rfl rfl ?_
  refine J.bin rfl rfl rfl rfl ?_
  refine J.name 47 rfl (show Value.bool _ = .bool false by simp) ?_
  refine J.nil ?_
  refine JX.thenN (hK8 _ _ ?_)
  first | refine JC.condF rfl ?_ | refine JC.cond rfl (fun h => by first | (exfalso; simp at h; omega) | (simp at h)) (fun _ => ?_)
  refine JC.skip ?_
  refine JX.thenN (hK7 _ _ ?_)
  refine JC.seq (fun K9 hK9 => ?_)
  refine JC.seq (fun K10 hK10 => ?_)
  refine JC.region ?_
  refine J.move rfl rfl ?_
  refine J.lenS rfl Ty.u28 rfl rfl ?_
  refine J.move rfl rfl ?_
  refine J.nil ?_
  refine JX.thenN (hK10 _ _ ?_)
  refine JC.block ?_
  refine JC.conseq (JC.cov (f := (fun k => [(0, .slice a1 (64 * N) c1), (1, .int .i64 i), (2, y.v), (9, .int .i64 (wE N (-1) i y.xs.length)), (10, .slice a2 (64 * N) c2), (48, .slice a2 (64 * N) c2), (49, .int .i64 ((64 * N : Nat) : Int)), (50, .int .i64 ((k : Nat) : Int))]) 0) ⟨rfl, rfl, rfl, rfl, rfl, rfl, rfl, rfl, trivial⟩ (JC.loop (α := Nat) (fun k => [(0, .slice a1 (64 * N) c1), (1, .int .i64 i), (2, y.v), (9, .int .i64 (wE N (-1) i y.xs.length)), (10, .slice a2 (64 * N) c2), (48, .slice a2 (64 * N) c2), (49, .int .i64 ((64 * N : Nat) : Int)), (50, .int .i64 ((k : Nat) : Int))]) (fun k w' => k ≤ 64 * N ∧ St w [] (lp2 ++ (lp1 ++ [(d, dkO s N (wP N (-1) i y.xs.length) (wK N (-1) i y.xs.length 0)), (s, dkS (wB N (-1) i (x.xs.take (64 * N)) y.xs))])) w') (fun k => 64 * N - k) 0 (fun k => ?_))) (fun w hw => ⟨Nat.zero_le _, hw⟩)
  refine JC.pr (fun hk => ?_)
  refine JC.seq (fun K11 hK11 => ?_)
  refine JC.region ?_
  refine J.bin rfl rfl rfl rfl ?_
  refine J.nil ?_
  refine JX.thenN (hK11 _ _ ?_)
  refine JC.seq (fun K12 hK12 => ?_)
  refine JC.cond rfl (fun h2 => ?_) (fun h2 => ?_)
  · skip
    have hlt : k < 64 * N := by simp at h2; omega
    obtain ⟨q1, s1, hq1, rfl, hy1, _⟩ := hv1.at hlt
    obtain ⟨q2, s2, hq2, rfl, hy2, _⟩ := hv2.at hlt
    subst hq1
    subst hq2
    have hwk := want_get (bs := y.xs) (i := i) hBl (k := k) (by rw [hwl]; exact hlt)
    refine JC.skip ?_
    refine JX.thenN (hK12 _ _ ?_)
    refine JC.seq (fun K13 hK13 => ?_)
    refine JC.block ?_
    refine JC.seq (fun K14 hK14 => ?_)
    refine JC.region ?_
    refine J.move rfl rfl ?_
    refine J.assign rfl rfl ?_
    refine J.nil ?_
    refine JX.thenN (hK14 _ _ ?_)
    refine JC.seq (fun K15 hK15 => ?_)
    refine JC.region ?_
    refine J.move rfl rfl ?_
    refine J.move rfl rfl ?_
    refine J.indexAddrS Ty.el28 Ty.s5 rfl rfl (by omega) (by omega) rfl ?_
    refine J.loadO (v := u8 ((x.xs.take (64 * N))[k]'(by omega))) Ty.a5 rfl (.tail _ (.head _)) (at_u8 (by omega)) rfl ?_
    refine J.assign rfl rfl ?_
    refine J.nil ?_
    refine JX.thenN (hK15 _ _ ?_)
    refine JC.seq (fun K16 hK16 => ?_)
    refine JC.seq (fun K17 hK17 => ?_)
    refine JC.region ?_
    refine J.move rfl rfl ?_
    refine J.bin rfl rfl rfl rfl ?_
    refine J.move rfl rfl ?_
    refine J.split 59 rfl (fun hs59 => ?_) (fun hs59 => ?_)
    · skip
      try simp only [decide_eq_true_eq, decide_eq_false_iff_not, beq_iff_eq, bne_iff_ne, bne_eq_false_iff_eq, ne_eq, beq_eq_false_iff_ne, Bool.not_eq_true, Bool.not_eq_false, Int.not_lt, Int.not_le] at hs59
      first
        | (refine J.skip rfl rfl rfl rfl rfl ?_)
        | (refine J.skipU rfl rfl rfl rfl ?_)
        | (refine J.unguard rfl rfl rfl ?_; refine J.move rfl rfl ?_)
      first
        | (refine J.skip rfl rfl rfl rfl rfl ?_)
        | (refine J.skipU rfl rfl rfl rfl ?_)
        | (refine J.unguard rfl rfl rfl ?_; (first | refine J.quoN rfl rfl (by omega) (by omega) (by omega) rfl ?_ | refine J.bin rfl rfl rfl rfl ?_))
      first
        | (refine J.skip rfl rfl rfl rfl rfl ?_)
        | (refine J.skipU rfl rfl rfl rfl ?_)
        | (refine J.unguard rfl rfl rfl ?_; refine J.move rfl rfl ?_)
      first
        | (refine J.skip rfl rfl rfl rfl rfl ?_)
        | (refine J.skipU rfl rfl rfl rfl ?_)
        | (refine J.unguard rfl rfl rfl ?_; refine J.bin rfl rfl rfl rfl ?_)
      (first | refine J.pickT rfl rfl rfl ?_ | refine J.pickF rfl rfl rfl ?_)
      refine J.nil ?_
      refine JX.thenN (hK17 _ _ ?_)
      refine JC.cond rfl (fun h3 => ?_) (fun h3 => ?_)
      · skip
        obtain ⟨he, hki⟩ : wE N (-1) i y.xs.length = 0 ∧ (k : Int) / 64 = i := by first | (simp at h3; done) | (simp at hs59 h3; exact ⟨hs59, h3⟩) | (simp at h3; exact ⟨hs59, h3⟩)
        rw [want, if_pos ⟨he, hki⟩] at hwk
        refine JC.seq (fun K18 hK18 => ?_)
        refine JC.region ?_
        refine J.assign rfl rfl ?_
        refine J.nil ?_
        refine JX.thenN (hK18 _ _ ?_)
        refine JC.seq (fun K19 hK19 => ?_)
        refine JC.region ?_
        refine J.move rfl rfl ?_
        (first | refine J.remN rfl rfl (by omega) (by omega) rfl ?_ | refine J.bin rfl rfl rfl rfl ?_)
        refine J.move rfl rfl ?_
        refine J.lenS rfl Ty.u28 rfl rfl ?_
        refine J.bin rfl rfl rfl rfl ?_
        refine J.nil ?_
        refine JX.thenN (hK19 _ _ ?_)
        refine JC.cond rfl (fun h4 => ?_) (fun h4 => ?_)
        · skip
          have hkm : k % 64 < y.xs.length := by simp at h4; omega
          rw [List.getD_eq_getElem?_getD, List.getElem?_eq_getElem hkm, Option.getD_some] at hwk
          refine JC.region ?_
          refine J.move rfl rfl ?_
          refine J.move rfl rfl ?_
          (first | refine J.remN rfl rfl (by omega) (by omega) rfl ?_ | refine J.bin rfl rfl rfl rfl ?_)
          obtain ⟨yb, yo, ycs, hya, _, hyc, hyu⟩ := hy.at (i := k % 64) hkm
          have hyu' : ycs = [u8 y.xs[k % 64]] := hyu
          subst hyu'
          refine J.name 70 rfl (show y.v = Value.slice (some ⟨yb, yo, none⟩) y.xs.length y.c by simp only [Sl.v, hya]) ?_
          refine J.indexAddrS Ty.el28 Ty.s5 rfl rfl (by omega) (by omega) rfl ?_
          refine J.loadR (v := u8 (y.xs[k % 64])) Ty.a5 rfl (by have := hyc 0 (by simp); simpa using this) (by simp) rfl ?_
          refine J.assign rfl rfl ?_
          refine J.nil ?_
          refine JX.thenN (hK16 _ _ ?_)
          refine JC.seq (fun K20 hK20 => ?_)
          refine JC.region ?_
          refine J.move rfl rfl ?_
          refine J.move rfl rfl ?_
          refine J.indexAddrS Ty.el28 Ty.s5 rfl rfl (by omega) (by omega) rfl ?_
          refine J.loadO (v := u8 ((wB N (-1) i (x.xs.take (64 * N)) y.xs)[k]'(by rw [hwl]; omega))) Ty.a5 rfl (.head _) (at_u8 (by rw [hwl]; omega)) rfl ?_
          refine J.move rfl rfl ?_
          refine J.bin rfl rfl rfl rfl ?_
          refine J.nil ?_
          refine JX.thenN (hK20 _ _ ?_)
          first | refine JC.condF rfl ?_ | refine JC.cond rfl (fun h => by simp [hwk] at h) (fun _ => ?_)
          refine JC.skip ?_
          refine JX.blockN ?_
          refine JX.thenN (hK13 _ _ ?_)
          refine JC.region ?_
          (first | refine J.addN rfl rfl (by omega) (by omega) rfl ?_ | refine J.bin rfl rfl rfl rfl ?_)
          refine J.move rfl rfl ?_
          refine J.nil ?_
          refine JX.thenN ?_
          refine JX.again (k + 1) ?_ ?_ ?_
          · omega
          · exact ⟨rfl, rfl, rfl, rfl, rfl, rfl, rfl, rfl, trivial⟩
          · exact fun w1 hw => ⟨hlt, hw⟩
        · skip
          have hkm : ¬ k % 64 < y.xs.length := by simp at h4; omega
          rw [List.getD_eq_getElem?_getD, List.getElem?_eq_none (by omega), Option.getD_none] at hwk
          refine JC.skip ?_
          refine JX.thenN (hK16 _ _ ?_)
          refine JC.seq (fun K21 hK21 => ?_)
          refine JC.region ?_
          refine J.move rfl rfl ?_
          refine J.move rfl rfl ?_
          refine J.indexAddrS Ty.el28 Ty.s5 rfl rfl (by omega) (by omega) rfl ?_
          refine J.loadO (v := u8 ((wB N (-1) i (x.xs.take (64 * N)) y.xs)[k]'(by rw [hwl]; omega))) Ty.a5 rfl (.head _) (at_u8 (by rw [hwl]; omega)) rfl ?_
          refine J.move rfl rfl ?_
          refine J.bin rfl rfl rfl rfl ?_
          refine J.nil ?_
          refine JX.thenN (hK21 _ _ ?_)
          first | refine JC.condF rfl ?_ | refine JC.cond rfl (fun h => by simp [hwk] at h) (fun _ => ?_)
          refine JC.skip ?_
          refine JX.blockN ?_
          refine JX.thenN (hK13 _ _ ?_)
          refine JC.region ?_
          (first | refine J.addN rfl rfl (by omega) (by omega) rfl ?_ | refine J.bin rfl rfl rfl rfl ?_)
          refine J.move rfl rfl ?_
          refine J.nil ?_
          refine JX.thenN ?_
          refine JX.again (k + 1) ?_ ?_ ?_
          · omega
          · exact ⟨rfl, rfl, rfl, rfl, rfl, rfl, rfl, rfl, trivial⟩
          · exact fun w1 hw => ⟨hlt, hw⟩
      · skip
        rw [want, if_neg (by first | (simp at h3; exact (fun h => h3 h.2)) | exact (fun h => hs59 h.1) | (simp at hs59; exact (fun h => hs59 h.1))), List.getD_eq_getElem?_getD, List.getElem?_eq_getElem (by omega), Option.getD_some] at hwk
        refine JC.skip ?_
        refine JX.thenN (hK16 _ _ ?_)
        refine JC.seq (fun K22 hK22 => ?_)
        refine JC.region ?_
        refine J.move rfl rfl ?_
        refine J.move rfl rfl ?_
        refine J.indexAddrS Ty.el28 Ty.s5 rfl rfl (by omega) (by omega) rfl ?_
        refine J.loadO (v := u8 ((wB N (-1) i (x.xs.take (64 * N)) y.xs)[k]'(by rw [hwl]; omega))) Ty.a5 rfl (.head _) (at_u8 (by rw [hwl]; omega)) rfl ?_
        refine J.move rfl rfl ?_
        refine J.bin rfl rfl rfl rfl ?_
        refine J.nil ?_
        refine JX.thenN (hK22 _ _ ?_)
        first | refine JC.condF rfl ?_ | refine JC.cond rfl (fun h => by simp [hwk] at h) (fun _ => ?_)
        refine JC.skip ?_
        refine JX.blockN ?_
        refine JX.thenN (hK13 _ _ ?_)
        refine JC.region ?_
        (first | refine J.addN rfl rfl (by omega) (by omega) rfl ?_ | refine J.bin rfl rfl rfl rfl ?_)
        refine J.move rfl rfl ?_
        refine J.nil ?_
        refine JX.thenN ?_
        refine JX.again (k + 1) ?_ ?_ ?_
        · omega
        · exact ⟨rfl, rfl, rfl, rfl, rfl, rfl, rfl, rfl, trivial⟩
        · exact fun w1 hw => ⟨hlt, hw⟩
    · skip
      try simp only [decide_eq_true_eq, decide_eq_false_iff_not, beq_iff_eq, bne_iff_ne, bne_eq_false_iff_eq, ne_eq, beq_eq_false_iff_ne, Bool.not_eq_true, Bool.not_eq_false, Int.not_lt, Int.not_le] at hs59
      first
        | (refine J.skip rfl rfl rfl rfl rfl ?_)
        | (refine J.skipU rfl rfl rfl rfl ?_)
        | (refine J.unguard rfl rfl rfl ?_; refine J.move rfl rfl ?_)
      first
        | (refine J.skip rfl rfl rfl rfl rfl ?_)
        | (refine J.skipU rfl rfl rfl rfl ?_)
        | (refine J.unguard rfl rfl rfl ?_; (first | refine J.quoN rfl rfl (by omega) (by omega) (by omega) rfl ?_ | refine J.bin rfl rfl rfl rfl ?_))
      first
        | (refine J.skip rfl rfl rfl rfl rfl ?_)
        | (refine J.skipU rfl rfl rfl rfl ?_)
        | (refine J.unguard rfl rfl rfl ?_; refine J.move rfl rfl ?_)
      first
        | (refine J.skip rfl rfl rfl rfl rfl ?_)
        | (refine J.skipU rfl rfl rfl rfl ?_)
        | (refine J.unguard rfl rfl rfl ?_; refine J.bin rfl rfl rfl rfl ?_)
      (first | refine J.pickT rfl rfl rfl ?_ | refine J.pickF rfl rfl rfl ?_)
      refine J.nil ?_
      refine JX.thenN (hK17 _ _ ?_)
      refine JC.cond rfl (fun h3 => ?_) (fun h3 => ?_)
      · skip
        obtain ⟨he, hki⟩ : wE N (-1) i y.xs.length = 0 ∧ (k : Int) / 64 = i := by first | (simp at h3; done) | (simp at hs59 h3; exact ⟨hs59, h3⟩) | (simp at h3; exact ⟨hs59, h3⟩)
        rw [want, if_pos ⟨he, hki⟩] at hwk
        refine JC.seq (fun K23 hK23 => ?_)
        refine JC.region ?_
        refine J.assign rfl rfl ?_
        refine J.nil ?_
        refine JX.thenN (hK23 _ _ ?_)
        refine JC.seq (fun K24 hK24 => ?_)
        refine JC.region ?_
        refine J.move rfl rfl ?_
        (first | refine J.remN rfl rfl (by omega) (by omega) rfl ?_ | refine J.bin rfl rfl rfl rfl ?_)
        refine J.move rfl rfl ?_
        refine J.lenS rfl Ty.u28 rfl rfl ?_
        refine J.bin rfl rfl rfl rfl ?_
        refine J.nil ?_
        refine JX.thenN (hK24 _ _ ?_)
        refine JC.cond rfl (fun h4 => ?_) (fun h4 => ?_)
        · skip
          have hkm : k % 64 < y.xs.length := by simp at h4; omega
          rw [List.getD_eq_getElem?_getD, List.getElem?_eq_getElem hkm, Option.getD_some] at hwk
          refine JC.region ?_
          refine J.move rfl rfl ?_
          refine J.move rfl rfl ?_
          (first | refine J.remN rfl rfl (by omega) (by omega) rfl ?_ | refine J.bin rfl rfl rfl rfl ?_)
          obtain ⟨yb, yo, ycs, hya, _, hyc, hyu⟩ := hy.at (i := k % 64) hkm
          have hyu' : ycs = [u8 y.xs[k % 64]] := hyu
          subst hyu'
          refine J.name 70 rfl (show y.v = Value.slice (some ⟨yb, yo, none⟩) y.xs.length y.c by simp only [Sl.v, hya]) ?_
          refine J.indexAddrS Ty.el28 Ty.s5 rfl rfl (by omega) (by omega) rfl ?_
          refine J.loadR (v := u8 (y.xs[k % 64])) Ty.a5 rfl (by have := hyc 0 (by simp); simpa using this) (by simp) rfl ?_
          refine J.assign rfl rfl ?_
          refine J.nil ?_
          refine JX.thenN (hK16 _ _ ?_)
          refine JC.seq (fun K25 hK25 => ?_)
          refine JC.region ?_
          refine J.move rfl rfl ?_
          refine J.move rfl rfl ?_
          refine J.indexAddrS Ty.el28 Ty.s5 rfl rfl (by omega) (by omega) rfl ?_
          refine J.loadO (v := u8 ((wB N (-1) i (x.xs.take (64 * N)) y.xs)[k]'(by rw [hwl]; omega))) Ty.a5 rfl (.head _) (at_u8 (by rw [hwl]; omega)) rfl ?_
          refine J.move rfl rfl ?_
          refine J.bin rfl rfl rfl rfl ?_
          refine J.nil ?_
          refine JX.thenN (hK25 _ _ ?_)
          first | refine JC.condF rfl ?_ | refine JC.cond rfl (fun h => by simp [hwk] at h) (fun _ => ?_)
          refine JC.skip ?_
          refine JX.blockN ?_
          refine JX.thenN (hK13 _ _ ?_)
          refine JC.region ?_
          (first | refine J.addN rfl rfl (by omega) (by omega) rfl ?_ | refine J.bin rfl rfl rfl rfl ?_)
          refine J.move rfl rfl ?_
          refine J.nil ?_
          refine JX.thenN ?_
          refine JX.again (k + 1) ?_ ?_ ?_
          · omega
          · exact ⟨rfl, rfl, rfl, rfl, rfl, rfl, rfl, rfl, trivial⟩
          · exact fun w1 hw => ⟨hlt, hw⟩
        · skip
          have hkm : ¬ k % 64 < y.xs.length := by simp at h4; omega
          rw [List.getD_eq_getElem?_getD, List.getElem?_eq_none (by omega), Option.getD_none] at hwk
          refine JC.skip ?_
          refine JX.thenN (hK16 _ _ ?_)
          refine JC.seq (fun K26 hK26 => ?_)
          refine JC.region ?_
          refine J.move rfl rfl ?_
          refine J.move rfl rfl ?_
          refine J.indexAddrS Ty.el28 Ty.s5 rfl rfl (by omega) (by omega) rfl ?_
          refine J.loadO (v := u8 ((wB N (-1) i (x.xs.take (64 * N)) y.xs)[k]'(by rw [hwl]; omega))) Ty.a5 rfl (.head _) (at_u8 (by rw [hwl]; omega)) rfl ?_
          refine J.move rfl rfl ?_
          refine J.bin rfl rfl rfl rfl ?_
          refine J.nil ?_
          refine JX.thenN (hK26 _ _ ?_)
          first | refine JC.condF rfl ?_ | refine JC.cond rfl (fun h => by simp [hwk] at h) (fun _ => ?_)
          refine JC.skip ?_
          refine JX.blockN ?_
          refine JX.thenN (hK13 _ _ ?_)
          refine JC.region ?_
          (first | refine J.addN rfl rfl (by omega) (by omega) rfl ?_ | refine J.bin rfl rfl rfl rfl ?_)
          refine J.move rfl rfl ?_
          refine J.nil ?_
          refine JX.thenN ?_
          refine JX.again (k + 1) ?_ ?_ ?_
          · omega
          · exact ⟨rfl, rfl, rfl, rfl, rfl, rfl, rfl, rfl, trivial⟩
          · exact fun w1 hw => ⟨hlt, hw⟩
      · skip
        rw [want, if_neg (by first | (simp at h3; exact (fun h => h3 h.2)) | exact (fun h => hs59 h.1) | (simp at hs59; exact (fun h => hs59 h.1))), List.getD_eq_getElem?_getD, List.getElem?_eq_getElem (by omega), Option.getD_some] at hwk
        refine JC.skip ?_
        refine JX.thenN (hK16 _ _ ?_)
        refine JC.seq (fun K27 hK27 => ?_)
        refine JC.region ?_
        refine J.move rfl rfl ?_
        refine J.move rfl rfl ?_
        refine J.indexAddrS Ty.el28 Ty.s5 rfl rfl (by omega) (by omega) rfl ?_
        refine J.loadO (v := u8 ((wB N (-1) i (x.xs.take (64 * N)) y.xs)[k]'(by rw [hwl]; omega))) Ty.a5 rfl (.head _) (at_u8 (by rw [hwl]; omega)) rfl ?_
        refine J.move rfl rfl ?_
        refine J.bin rfl rfl rfl rfl ?_
        refine J.nil ?_
        refine JX.thenN (hK27 _ _ ?_)
        first | refine JC.condF rfl ?_ | refine JC.cond rfl (fun h => by simp [hwk] at h) (fun _ => ?_)
        refine JC.skip ?_
        refine JX.blockN ?_
        refine JX.thenN (hK13 _ _ ?_)
        refine JC.region ?_
        (first | refine J.addN rfl rfl (by omega) (by omega) rfl ?_ | refine J.bin rfl rfl rfl rfl ?_)
        refine J.move rfl rfl ?_
        refine J.nil ?_
        refine JX.thenN ?_
        refine JX.again (k + 1) ?_ ?_ ?_
        · omega
        · exact ⟨rfl, rfl, rfl, rfl, rfl, rfl, rfl, rfl, trivial⟩
        · exact fun w1 hw => ⟨hlt, hw⟩
  · skip
    have hge : k = 64 * N := by simp at h2; omega
    refine JC.exit ?_
    refine JX.thenE ?_
    refine JX.thenE ?_
    refine JX.blockE ?_
    refine JX.thenN (hK9 _ _ ?_)
    refine JC.seq (fun K28 hK28 => ?_)
    refine JC.region ?_
    rcases may_cases i N y.xs.length with hm1 | ⟨hm1, hm2⟩ | ⟨hm1, hm2, hm3⟩ | ⟨hm1, hm2, hm3⟩
    · skip
      have he : wE N (-1) i y.xs.length = 1 := by simp [wE, hm1]
      refine J.name 9 rfl (congrArg (Value.int .i64) he) ?_
      refine J.move rfl rfl ?_
      refine J.bin rfl rfl rfl rfl ?_
      refine J.move rfl rfl ?_
      refine J.bin rfl rfl rfl rfl ?_
      refine J.name 85 rfl (show Value.bool _ = .bool false by simp <;> omega) ?_
      refine J.move rfl rfl ?_
      first
        | (refine J.skip rfl rfl rfl rfl rfl ?_)
        | (refine J.skipU rfl rfl rfl rfl ?_)
        | (refine J.unguard rfl rfl rfl ?_; refine J.move rfl rfl ?_)
      first
        | (refine J.skip rfl rfl rfl rfl rfl ?_)
        | (refine J.skipU rfl rfl rfl rfl ?_)
        | (refine J.unguard rfl rfl rfl ?_; refine J.move rfl rfl ?_)
      first
        | (refine J.skip rfl rfl rfl rfl rfl ?_)
        | (refine J.skipU rfl rfl rfl rfl ?_)
        | (refine J.unguard rfl rfl rfl ?_; refine J.lenS rfl Ty.u28 rfl rfl ?_)
      first
        | (refine J.skip rfl rfl rfl rfl rfl ?_)
        | (refine J.skipU rfl rfl rfl rfl ?_)
        | (refine J.unguard rfl rfl rfl ?_; (first | refine J.quoN rfl rfl (by omega) (by omega) (by omega) rfl ?_ | refine J.bin rfl rfl rfl rfl ?_))
      first
        | (refine J.skip rfl rfl rfl rfl rfl ?_)
        | (refine J.skipU rfl rfl rfl rfl ?_)
        | (refine J.unguard rfl rfl rfl ?_; refine J.bin rfl rfl rfl rfl ?_)
      (first | refine J.pickT rfl rfl rfl ?_ | refine J.pickF rfl rfl rfl ?_)
      refine J.move rfl rfl ?_
      first
        | (refine J.skip rfl rfl rfl rfl rfl ?_)
        | (refine J.skipU rfl rfl rfl rfl ?_)
        | (refine J.unguard rfl rfl rfl ?_; refine J.move rfl rfl ?_)
      first
        | (refine J.skip rfl rfl rfl rfl rfl ?_)
        | (refine J.skipU rfl rfl rfl rfl ?_)
        | (refine J.unguard rfl rfl rfl ?_; refine J.lenS rfl Ty.u28 rfl rfl ?_)
      first
        | (refine J.skip rfl rfl rfl rfl rfl ?_)
        | (refine J.skipU rfl rfl rfl rfl ?_)
        | (refine J.unguard rfl rfl rfl ?_; refine J.bin rfl rfl rfl rfl ?_)
      (first | refine J.pickT rfl rfl rfl ?_ | refine J.pickF rfl rfl rfl ?_)
      refine J.eqBool (.inl rfl) Ty.u4 rfl rfl rfl ?_
      refine J.assign rfl rfl ?_
      refine J.nil ?_
      refine JX.thenN (hK28 _ _ ?_)
      refine JC.ret ?_
      refine JX.ret1 rfl rfl (fun w hw => ?_)
      exact ⟨rfl, hw.below⟩
    · skip
      have he : wE N (-1) i y.xs.length = 1 := by simp [wE, hm2]
      refine J.name 9 rfl (congrArg (Value.int .i64) he) ?_
      refine J.move rfl rfl ?_
      refine J.bin rfl rfl rfl rfl ?_
      refine J.move rfl rfl ?_
      refine J.bin rfl rfl rfl rfl ?_
      refine J.name 85 rfl (show Value.bool _ = .bool true by simp <;> omega) ?_
      refine J.move rfl rfl ?_
      first
        | (refine J.skip rfl rfl rfl rfl rfl ?_)
        | (refine J.skipU rfl rfl rfl rfl ?_)
        | (refine J.unguard rfl rfl rfl ?_; refine J.move rfl rfl ?_)
      first
        | (refine J.skip rfl rfl rfl rfl rfl ?_)
        | (refine J.skipU rfl rfl rfl rfl ?_)
        | (refine J.unguard rfl rfl rfl ?_; refine J.move rfl rfl ?_)
      first
        | (refine J.skip rfl rfl rfl rfl rfl ?_)
        | (refine J.skipU rfl rfl rfl rfl ?_)
        | (refine J.unguard rfl rfl rfl ?_; refine J.lenS rfl Ty.u28 rfl rfl ?_)
      refine J.unguard rfl rfl rfl ?_
      refine J.quoN rfl rfl (by omega) (by omega) (by omega) rfl ?_
      refine J.name 90 rfl (congrArg (Value.int .i64) (show ((64 * N : Nat) : Int) / 64 = (N : Int) by omega)) ?_
      refine J.unguard rfl rfl rfl ?_
      refine J.bin rfl rfl rfl rfl ?_
      refine J.name 91 rfl (show Value.bool _ = .bool false by simp <;> omega) ?_
      (first | refine J.pickT rfl rfl rfl ?_ | refine J.pickF rfl rfl rfl ?_)
      refine J.move rfl rfl ?_
      first
        | (refine J.skip rfl rfl rfl rfl rfl ?_)
        | (refine J.skipU rfl rfl rfl rfl ?_)
        | (refine J.unguard rfl rfl rfl ?_; refine J.move rfl rfl ?_)
      first
        | (refine J.skip rfl rfl rfl rfl rfl ?_)
        | (refine J.skipU rfl rfl rfl rfl ?_)
        | (refine J.unguard rfl rfl rfl ?_; refine J.lenS rfl Ty.u28 rfl rfl ?_)
      first
        | (refine J.skip rfl rfl rfl rfl rfl ?_)
        | (refine J.skipU rfl rfl rfl rfl ?_)
        | (refine J.unguard rfl rfl rfl ?_; refine J.bin rfl rfl rfl rfl ?_)
      (first | refine J.pickT rfl rfl rfl ?_ | refine J.pickF rfl rfl rfl ?_)
      refine J.eqBool (.inl rfl) Ty.u4 rfl rfl rfl ?_
      refine J.assign rfl rfl ?_
      refine J.nil ?_
      refine JX.thenN (hK28 _ _ ?_)
      refine JC.ret ?_
      refine JX.ret1 rfl rfl (fun w hw => ?_)
      exact ⟨rfl, hw.below⟩
    · skip
      have he : wE N (-1) i y.xs.length = 4 := by rw [wE, if_neg (by omega), if_pos hm3]
      refine J.name 9 rfl (congrArg (Value.int .i64) he) ?_
      refine J.move rfl rfl ?_
      refine J.bin rfl rfl rfl rfl ?_
      refine J.move rfl rfl ?_
      refine J.bin rfl rfl rfl rfl ?_
      refine J.name 85 rfl (show Value.bool _ = .bool true by simp <;> omega) ?_
      refine J.move rfl rfl ?_
      first
        | (refine J.skip rfl rfl rfl rfl rfl ?_)
        | (refine J.skipU rfl rfl rfl rfl ?_)
        | (refine J.unguard rfl rfl rfl ?_; refine J.move rfl rfl ?_)
      first
        | (refine J.skip rfl rfl rfl rfl rfl ?_)
        | (refine J.skipU rfl rfl rfl rfl ?_)
        | (refine J.unguard rfl rfl rfl ?_; refine J.move rfl rfl ?_)
      first
        | (refine J.skip rfl rfl rfl rfl rfl ?_)
        | (refine J.skipU rfl rfl rfl rfl ?_)
        | (refine J.unguard rfl rfl rfl ?_; refine J.lenS rfl Ty.u28 rfl rfl ?_)
      refine J.unguard rfl rfl rfl ?_
      refine J.quoN rfl rfl (by omega) (by omega) (by omega) rfl ?_
      refine J.name 90 rfl (congrArg (Value.int .i64) (show ((64 * N : Nat) : Int) / 64 = (N : Int) by omega)) ?_
      refine J.unguard rfl rfl rfl ?_
      refine J.bin rfl rfl rfl rfl ?_
      refine J.name 91 rfl (show Value.bool _ = .bool true by simp <;> omega) ?_
      (first | refine J.pickT rfl rfl rfl ?_ | refine J.pickF rfl rfl rfl ?_)
      refine J.move rfl rfl ?_
      first
        | (refine J.skip rfl rfl rfl rfl rfl ?_)
        | (refine J.skipU rfl rfl rfl rfl ?_)
        | (refine J.unguard rfl rfl rfl ?_; refine J.move rfl rfl ?_)
      first
        | (refine J.skip rfl rfl rfl rfl rfl ?_)
        | (refine J.skipU rfl rfl rfl rfl ?_)
        | (refine J.unguard rfl rfl rfl ?_; refine J.lenS rfl Ty.u28 rfl rfl ?_)
      refine J.unguard rfl rfl rfl ?_
      refine J.bin rfl rfl rfl rfl ?_
      refine J.name 96 rfl (show Value.bool _ = .bool false by simp <;> omega) ?_
      (first | refine J.pickT rfl rfl rfl ?_ | refine J.pickF rfl rfl rfl ?_)
      refine J.eqBool (.inl rfl) Ty.u4 rfl rfl rfl ?_
      refine J.assign rfl rfl ?_
      refine J.nil ?_
      refine JX.thenN (hK28 _ _ ?_)
      refine JC.ret ?_
      refine JX.ret1 rfl rfl (fun w hw => ?_)
      exact ⟨rfl, hw.below⟩
    · skip
      have he : wE N (-1) i y.xs.length = 0 := by exact w_ok hm1 hm2 hm3 (by omega)
      refine J.name 9 rfl (congrArg (Value.int .i64) he) ?_
      refine J.move rfl rfl ?_
      refine J.bin rfl rfl rfl rfl ?_
      refine J.move rfl rfl ?_
      refine J.bin rfl rfl rfl rfl ?_
      refine J.name 85 rfl (show Value.bool _ = .bool true by simp <;> omega) ?_
      refine J.move rfl rfl ?_
      first
        | (refine J.skip rfl rfl rfl rfl rfl ?_)
        | (refine J.skipU rfl rfl rfl rfl ?_)
        | (refine J.unguard rfl rfl rfl ?_; refine J.move rfl rfl ?_)
      first
        | (refine J.skip rfl rfl rfl rfl rfl ?_)
        | (refine J.skipU rfl rfl rfl rfl ?_)
        | (refine J.unguard rfl rfl rfl ?_; refine J.move rfl rfl ?_)
      first
        | (refine J.skip rfl rfl rfl rfl rfl ?_)
        | (refine J.skipU rfl rfl rfl rfl ?_)
        | (refine J.unguard rfl rfl rfl ?_; refine J.lenS rfl Ty.u28 rfl rfl ?_)
      refine J.unguard rfl rfl rfl ?_
      refine J.quoN rfl rfl (by omega) (by omega) (by omega) rfl ?_
      refine J.name 90 rfl (congrArg (Value.int .i64) (show ((64 * N : Nat) : Int) / 64 = (N : Int) by omega)) ?_
      refine J.unguard rfl rfl rfl ?_
      refine J.bin rfl rfl rfl rfl ?_
      refine J.name 91 rfl (show Value.bool _ = .bool true by simp <;> omega) ?_
      (first | refine J.pickT rfl rfl rfl ?_ | refine J.pickF rfl rfl rfl ?_)
      refine J.move rfl rfl ?_
      first
        | (refine J.skip rfl rfl rfl rfl rfl ?_)
        | (refine J.skipU rfl rfl rfl rfl ?_)
        | (refine J.unguard rfl rfl rfl ?_; refine J.move rfl rfl ?_)
      first
        | (refine J.skip rfl rfl rfl rfl rfl ?_)
        | (refine J.skipU rfl rfl rfl rfl ?_)
        | (refine J.unguard rfl rfl rfl ?_; refine J.lenS rfl Ty.u28 rfl rfl ?_)
      refine J.unguard rfl rfl rfl ?_
      refine J.bin rfl rfl rfl rfl ?_
      refine J.name 96 rfl (show Value.bool _ = .bool true by simp <;> omega) ?_
      (first | refine J.pickT rfl rfl rfl ?_ | refine J.pickF rfl rfl rfl ?_)
      refine J.eqBool (.inl rfl) Ty.u4 rfl rfl rfl ?_
      refine J.assign rfl rfl ?_
      refine J.nil ?_
      refine JX.thenN (hK28 _ _ ?_)
      refine JC.ret ?_
      refine JX.ret1 rfl rfl (fun w hw => ?_)
      exact ⟨rfl, hw.below⟩

end Go.Proofs.Ytlmbpfgiadbjaaa
