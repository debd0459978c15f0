/-
  The laws of layer 6 (slate): walks.
-/
import Derived.Test.YtlmbpfgiadbjaaaSg
namespace Go.Proofs.Ytlmbpfgiadbjaaa
open Go.J Go.RowKit
set_option linter.unusedVariables false
set_option linter.unusedSimpArgs false
set_option maxRecDepth 8000
theorem umod (x : Int) (m : Nat) (h0 : 0 < m) (h1 : m < 4611686018427387904) : Value.int .i64 (IntKind.i64.wrap ((IntKind.u64.wrap x).tmod (m : Int))) = .int .i64 (((x % 18446744073709551616 % (m : Int)).toNat : Nat) : Int) := by
  rw [wrap_u64m, Int.tmod_eq_emod_of_nonneg (by omega)]
  have h2 : 0 ≤ x % 18446744073709551616 % (m : Int) := Int.emod_nonneg _ (by omega)
  have h3 : x % 18446744073709551616 % (m : Int) < m := Int.emod_lt_of_pos _ (by omega)
  rw [wrap_i64 (by omega) (by omega)]
  congr 1
  omega
theorem umod_lt (x : Int) (m : Nat) (h0 : 0 < m) : (x % 18446744073709551616 % (m : Int)).toNat < m := by
  have h2 : 0 ≤ x % 18446744073709551616 % (m : Int) := Int.emod_nonneg _ (by omega)
  have h3 : x % 18446744073709551616 % (m : Int) < m := Int.emod_lt_of_pos _ (by omega)
  omega
theorem open_small (d s n : Nat) (B : List UInt8) (p k : Int) (w : World) (hw0 : Own w [(d, dkO s n p k), (s, dkS B)]) (hB : B.length = 64 * n) (hn : n < 3) :
    Calls Try.prog 26 [.pointer (some ⟨d, 0, none⟩)].toArray w fun r w' => r = .returned (.tuple #[.pointer none, .slice none 0 0, .int .i64 1]) ∧ Below w.heap.size w w' := by
  have h := open_spec d s n B p k w hw0 hB (by omega)
  rw [openP_small hn] at h
  exact h

theorem slateNil_walk (w : World) (x : Sl UInt8) (hx : RSl 1 1 RU8 w [x.v] x) (i : Int) (w1 : (Lit.int .i64 i).wf = true) :
    Calls Try.prog 9 [x.v, .int .i64 i].toArray w fun r w' => r = .returned (.bool true) ∧ Below w.heap.size w w' := by
  refine calls_of_J (args := [x.v, .int .i64 i]) (e := [(0, x.v), (1, .int .i64 i)]) Try.func9 rfl rfl ⟨rfl, rfl, trivial⟩ (St.start w) ?_
  refine JC.seq (fun K0 hK0 => ?_)
  refine JC.region ?_
  refine J.assign rfl rfl ?_
  refine J.nil ?_
  refine JX.thenN (hK0 _ _ ?_)
  refine JC.seq (fun K1 hK1 => ?_)
  refine JC.region ?_
  refine J.assign rfl rfl ?_
  refine J.nil ?_
  refine JX.thenN (hK1 _ _ ?_)
  refine JC.seq (fun K2 hK2 => ?_)
  refine JC.region ?_
  refine J.callB (fun w1 w2 hw hb => hw.step hb) Ty.bd26 rfl rfl (fun w1 hw => open_nil w1) ?_
  refine J.move rfl rfl ?_
  refine J.extract rfl rfl rfl ?_
  refine J.extract rfl rfl rfl ?_
  refine J.extract rfl rfl rfl ?_
  refine J.assign rfl rfl ?_
  refine J.assign rfl rfl ?_
  refine J.assign rfl rfl ?_
  refine J.nil ?_
  refine JX.thenN (hK2 _ _ ?_)
  refine JC.seq (fun K3 hK3 => ?_)
  refine JC.region ?_
  refine J.move rfl rfl ?_
  refine J.convInt Ty.u3 Ty.u54 rfl rfl ?_
  refine J.bin rfl rfl rfl rfl ?_
  refine J.convInt Ty.u54 Ty.u3 rfl rfl ?_
  refine J.name 21 rfl (umod i 3 (by omega) (by omega)) ?_
  obtain ⟨N, hN⟩ : ∃ N : Nat, (i % 18446744073709551616 % ((3 : Nat) : Int)).toNat = N := ⟨_, rfl⟩
  have hN3 := umod_lt i 3 (by omega)
  rw [hN] at hN3 ⊢
  refine J.callS (l1 := []) Ty.bd14 rfl rfl (fun w1 hw => new_spec _ w1) (fun x _ => ?_)
  obtain ⟨d, s⟩ := x
  simp only [List.append_nil, show (min (max ((N : Nat) : Int) 0) 4096).toNat = N by omega]
  refine J.callB (fun w1 w2 hw hb => hw.step hb) Ty.bd26 rfl rfl (fun w1 hw => open_small d s N _ _ _ w1 hw.owns' (by simp) hN3) ?_
  refine J.move rfl rfl ?_
  refine J.extract rfl rfl rfl ?_
  refine J.extract rfl rfl rfl ?_
  refine J.extract rfl rfl rfl ?_
  refine J.assign rfl rfl ?_
  refine J.assign rfl rfl ?_
  refine J.assign rfl rfl ?_
  refine J.nil ?_
  refine JX.thenN (hK3 _ _ ?_)
  refine JC.seq (fun K4 hK4 => ?_)
  refine JC.region ?_
  refine J.callB (fun w1 w2 hw hb => hw.step hb) Ty.bd27 rfl rfl (fun w1 hw => fixed6 w1) ?_
  refine J.move rfl rfl ?_
  first
    | (refine J.skip rfl rfl rfl rfl rfl ?_)
    | (refine J.skipU rfl rfl rfl rfl ?_)
    | (refine J.unguard rfl rfl rfl ?_; refine J.move rfl rfl ?_)
  first
    | (refine J.skip rfl rfl rfl rfl rfl ?_)
    | (refine J.skipU rfl rfl rfl rfl ?_)
    | (refine J.unguard rfl rfl rfl ?_; refine J.move rfl rfl ?_)
  first
    | (refine J.skip rfl rfl rfl rfl rfl ?_)
    | (refine J.skipU rfl rfl rfl rfl ?_)
    | (refine J.unguard rfl rfl rfl ?_; refine J.callB (fun w1 w2 hw hb => hw.step hb) Ty.bd28 rfl rfl (fun w1 hw => append_nil _ w1) ?_)
  first
    | (refine J.skip rfl rfl rfl rfl rfl ?_)
    | (refine J.skipU rfl rfl rfl rfl ?_)
    | (refine J.unguard rfl rfl rfl ?_; refine J.bin rfl rfl rfl rfl ?_)
  (first | refine J.pickT rfl rfl rfl ?_ | refine J.pickF rfl rfl rfl ?_)
  refine J.move rfl rfl ?_
  first
    | (refine J.skip rfl rfl rfl rfl rfl ?_)
    | (refine J.skipU rfl rfl rfl rfl ?_)
    | (refine J.unguard rfl rfl rfl ?_; refine J.move rfl rfl ?_)
  first
    | (refine J.skip rfl rfl rfl rfl rfl ?_)
    | (refine J.skipU rfl rfl rfl rfl ?_)
    | (refine J.unguard rfl rfl rfl ?_; refine J.callB (fun w1 w2 hw hb => hw.step hb) Ty.bd29 rfl rfl (fun w1 hw => len_nil w1) ?_)
  first
    | (refine J.skip rfl rfl rfl rfl rfl ?_)
    | (refine J.skipU rfl rfl rfl rfl ?_)
    | (refine J.unguard rfl rfl rfl ?_; refine J.bin rfl rfl rfl rfl ?_)
  (first | refine J.pickT rfl rfl rfl ?_ | refine J.pickF rfl rfl rfl ?_)
  refine J.move rfl rfl ?_
  first
    | (refine J.skip rfl rfl rfl rfl rfl ?_)
    | (refine J.skipU rfl rfl rfl rfl ?_)
    | (refine J.unguard rfl rfl rfl ?_; refine J.move rfl rfl ?_)
  first
    | (refine J.skip rfl rfl rfl rfl rfl ?_)
    | (refine J.skipU rfl rfl rfl rfl ?_)
    | (refine J.unguard rfl rfl rfl ?_; refine J.callB (fun w1 w2 hw hb => hw.step hb) Ty.bd31 rfl rfl (fun w1 hw => room_nil w1) ?_)
  first
    | (refine J.skip rfl rfl rfl rfl rfl ?_)
    | (refine J.skipU rfl rfl rfl rfl ?_)
    | (refine J.unguard rfl rfl rfl ?_; refine J.bin rfl rfl rfl rfl ?_)
  (first | refine J.pickT rfl rfl rfl ?_ | refine J.pickF rfl rfl rfl ?_)
  refine J.move rfl rfl ?_
  first
    | (refine J.skip rfl rfl rfl rfl rfl ?_)
    | (refine J.skipU rfl rfl rfl rfl ?_)
    | (refine J.unguard rfl rfl rfl ?_; refine J.move rfl rfl ?_)
  first
    | (refine J.skip rfl rfl rfl rfl rfl ?_)
    | (refine J.skipU rfl rfl rfl rfl ?_)
    | (refine J.unguard rfl rfl rfl ?_; refine J.callB (fun w1 w2 hw hb => hw.step hb) Ty.bd32 rfl rfl (fun w1 hw => down_nil w1) ?_)
  first
    | (refine J.skip rfl rfl rfl rfl rfl ?_)
    | (refine J.skipU rfl rfl rfl rfl ?_)
    | (refine J.unguard rfl rfl rfl ?_; refine J.not rfl rfl ?_)
  (first | refine J.pickT rfl rfl rfl ?_ | refine J.pickF rfl rfl rfl ?_)
  refine J.move rfl rfl ?_
  first
    | (refine J.skip rfl rfl rfl rfl rfl ?_)
    | (refine J.skipU rfl rfl rfl rfl ?_)
    | (refine J.unguard rfl rfl rfl ?_; refine J.move rfl rfl ?_)
  first
    | (refine J.skip rfl rfl rfl rfl rfl ?_)
    | (refine J.skipU rfl rfl rfl rfl ?_)
    | (refine J.unguard rfl rfl rfl ?_; refine J.eqNil Ty.u48 rfl rfl rfl ?_)
  (first | refine J.pickT rfl rfl rfl ?_ | refine J.pickF rfl rfl rfl ?_)
  refine J.move rfl rfl ?_
  first
    | (refine J.skip rfl rfl rfl rfl rfl ?_)
    | (refine J.skipU rfl rfl rfl rfl ?_)
    | (refine J.unguard rfl rfl rfl ?_; refine J.move rfl rfl ?_)
  first
    | (refine J.skip rfl rfl rfl rfl rfl ?_)
    | (refine J.skipU rfl rfl rfl rfl ?_)
    | (refine J.unguard rfl rfl rfl ?_; refine J.lenS rfl Ty.u47 rfl rfl ?_)
  first
    | (refine J.skip rfl rfl rfl rfl rfl ?_)
    | (refine J.skipU rfl rfl rfl rfl ?_)
    | (refine J.unguard rfl rfl rfl ?_; refine J.bin rfl rfl rfl rfl ?_)
  (first | refine J.pickT rfl rfl rfl ?_ | refine J.pickF rfl rfl rfl ?_)
  refine J.move rfl rfl ?_
  first
    | (refine J.skip rfl rfl rfl rfl rfl ?_)
    | (refine J.skipU rfl rfl rfl rfl ?_)
    | (refine J.unguard rfl rfl rfl ?_; refine J.move rfl rfl ?_)
  first
    | (refine J.skip rfl rfl rfl rfl rfl ?_)
    | (refine J.skipU rfl rfl rfl rfl ?_)
    | (refine J.unguard rfl rfl rfl ?_; refine J.bin rfl rfl rfl rfl ?_)
  (first | refine J.pickT rfl rfl rfl ?_ | refine J.pickF rfl rfl rfl ?_)
  refine J.move rfl rfl ?_
  first
    | (refine J.skip rfl rfl rfl rfl rfl ?_)
    | (refine J.skipU rfl rfl rfl rfl ?_)
    | (refine J.unguard rfl rfl rfl ?_; refine J.move rfl rfl ?_)
  first
    | (refine J.skip rfl rfl rfl rfl rfl ?_)
    | (refine J.skipU rfl rfl rfl rfl ?_)
    | (refine J.unguard rfl rfl rfl ?_; refine J.eqNil Ty.u48 rfl rfl rfl ?_)
  (first | refine J.pickT rfl rfl rfl ?_ | refine J.pickF rfl rfl rfl ?_)
  refine J.move rfl rfl ?_
  first
    | (refine J.skip rfl rfl rfl rfl rfl ?_)
    | (refine J.skipU rfl rfl rfl rfl ?_)
    | (refine J.unguard rfl rfl rfl ?_; refine J.move rfl rfl ?_)
  first
    | (refine J.skip rfl rfl rfl rfl rfl ?_)
    | (refine J.skipU rfl rfl rfl rfl ?_)
    | (refine J.unguard rfl rfl rfl ?_; refine J.lenS rfl Ty.u47 rfl rfl ?_)
  first
    | (refine J.skip rfl rfl rfl rfl rfl ?_)
    | (refine J.skipU rfl rfl rfl rfl ?_)
    | (refine J.unguard rfl rfl rfl ?_; refine J.bin rfl rfl rfl rfl ?_)
  (first | refine J.pickT rfl rfl rfl ?_ | refine J.pickF rfl rfl rfl ?_)
  refine J.move rfl rfl ?_
  first
    | (refine J.skip rfl rfl rfl rfl rfl ?_)
    | (refine J.skipU rfl rfl rfl rfl ?_)
    | (refine J.unguard rfl rfl rfl ?_; refine J.move rfl rfl ?_)
  first
    | (refine J.skip rfl rfl rfl rfl rfl ?_)
    | (refine J.skipU rfl rfl rfl rfl ?_)
    | (refine J.unguard rfl rfl rfl ?_; refine J.bin rfl rfl rfl rfl ?_)
  (first | refine J.pickT rfl rfl rfl ?_ | refine J.pickF rfl rfl rfl ?_)
  refine J.assign rfl rfl ?_
  refine J.nil ?_
  refine JX.thenN (hK4 _ _ ?_)
  refine JC.ret ?_
  refine JX.ret1 rfl rfl (fun w hw => ?_)
  exact ⟨rfl, hw.below⟩


theorem openP_cases (B : List UInt8) (n : Nat) : (n < 3 ∧ openP B n = (1, none)) ∨ (¬ n < 3 ∧ badHead n (bestP B 2) ∧ openP B n = (2, none)) ∨ (¬ n < 3 ∧ ¬ badHead n (bestP B 2) ∧ parseS B (2 + (bestP B 2).2.1) (bestP B 2).2.2 2 = none ∧ openP B n = (2, none)) ∨
    (¬ n < 3 ∧ ¬ badHead n (bestP B 2) ∧ ∃ rs, parseS B (2 + (bestP B 2).2.1) (bestP B 2).2.2 2 = some rs ∧ openP B n = (0, some ⟨(bestP B 2).1, (bestP B 2).2.1, (bestP B 2).2.2, rs⟩)) := by
  by_cases h1 : n < 3
  · exact .inl ⟨h1, openP_small h1⟩
  · by_cases h2 : badHead n (bestP B 2)
    · exact .inr (.inl ⟨h1, h2, openP_bad h1 h2⟩)
    · cases h3 : parseS B (2 + (bestP B 2).2.1) (bestP B 2).2.2 2 with
      | none => exact .inr (.inr (.inl ⟨h1, h2, rfl, openP_none h1 rfl h3⟩))
      | some rs => exact .inr (.inr (.inr ⟨h1, h2, rs, rfl, openP_some h1 rfl h2 h3⟩))
theorem openP_ok {B : List UInt8} {n : Nat} {e : Int} {q : LogP} (h : openP B n = (e, some q)) : e = 0 := by
  rcases openP_cases B n with ⟨_, h1⟩ | ⟨_, _, h1⟩ | ⟨_, _, _, h1⟩ | ⟨_, _, rs, _, h1⟩ <;> rw [h1] at h <;> simp at h
  exact h.1.symm
theorem parseS_len {B : List UInt8} {top : Nat} : ∀ (k at_ : Nat) (rs : List (List UInt8)), parseS B top k at_ = some rs → rs.length = k := by
  intro k
  induction k with
  | zero => intro at_ rs h; unfold parseS at h; split at h <;> simp at h; subst h; rfl
  | succ k ih =>
    intro at_ rs h
    unfold parseS at h
    split at h
    · simp at h
    · split at h
      · simp at h
      · rw [Option.map_eq_some_iff] at h
        obtain ⟨rs', h1, rfl⟩ := h
        rw [List.length_cons, ih _ _ h1]
/-- what an opened log is -/
theorem openP_len {B : List UInt8} {n : Nat} {e : Int} {q : LogP} (h : openP B n = (e, some q)) (hn : n ≤ 4096) : 3 ≤ n ∧ q.gen < 9223372036854775808 ∧ q.used ≤ n - 2 ∧ q.cnt ≤ q.used ∧ q.recs.length = q.cnt := by
  rcases openP_cases B n with ⟨_, h1⟩ | ⟨_, _, h1⟩ | ⟨_, _, _, h1⟩ | ⟨h2, h3, rs, h4, h1⟩ <;> rw [h1] at h <;> simp at h
  obtain ⟨_, rfl⟩ := h
  have := parseS_len _ _ _ h4
  unfold badHead at h3
  simp only
  omega

theorem reach_len6 {α : Type} {W : World} {sz by_ : Nat} {R : World → List Value → α → Prop} {s : Sl α} {cs : List Value} (h : RSl sz by_ R W cs s) : s.xs.length * by_ ≤ 140737488351232 := by
  have h1 := h.2.1
  have h2 := h.2.2.1
  have h3 : reachBytes = 140737488351232 := rfl
  have := Nat.mul_le_mul_right by_ h1
  omega
theorem slateOpens_walk (w : World) (x : Sl UInt8) (hx : RSl 1 1 RU8 w [x.v] x) :
    Calls Try.prog 12 [x.v].toArray w fun r w' => r = .returned (.bool true) ∧ Below w.heap.size w w' := by
  have hxr := hx.row
  have hxl := reach_len6 hx
  obtain ⟨N, hN⟩ : ∃ N : Nat, N = min (x.xs.length / 64) 4096 := ⟨_, rfl⟩
  have hN2 : N ≤ 4096 := by omega
  obtain ⟨B, hBd⟩ : ∃ B, x.xs.take (64 * N) = B := ⟨_, rfl⟩
  have hB : B.length = 64 * N := by rw [← hBd]; simp; omega
  refine calls_of_J (args := [x.v]) (e := [(0, x.v)]) Try.func12 rfl rfl ⟨rfl, trivial⟩ (St.start w) ?_
  refine JC.seq (fun K0 hK0 => ?_)
  refine JC.region ?_
  refine J.assign rfl rfl ?_
  refine J.nil ?_
  refine JX.thenN (hK0 _ _ ?_)
  refine JC.seq (fun K1 hK1 => ?_)
  refine JC.region ?_
  refine J.move rfl rfl ?_
  refine J.callS (l1 := []) Ty.bd33 rfl rfl (fun w1 hw => sectors_spec x.a x.xs.length x.c 4096 N x.xs w1 (hxr.st (.inr (by simp)) hw) rfl (by omega) (by omega) hN) (fun y hv12 => ?_)
  obtain ⟨v12, lp12⟩ := y
  simp only at hv12 ⊢
  rw [hBd] at hv12
  obtain ⟨a12, c12, rfl, _⟩ := hv12.form
  refine J.assign rfl rfl ?_
  refine J.nil ?_
  refine JX.thenN (hK1 _ _ ?_)
  refine JC.seq (fun K2 hK2 => ?_)
  refine JC.region ?_
  refine J.move rfl rfl ?_
  refine J.perm ([] ++ lp12) (by (refine perm_cnt (fun _ => ?_)); simp only [cntB_append, cntB_cons, cntB_nil, Nat.add_zero, Nat.zero_add]; try ac_rfl) ?_
  refine J.callS (l1 := []) Ty.bd34 rfl rfl (fun w1 hw => pair_spec a12 (64 * N) c12 N B w1 (hv12.row (l := []) (hw.perm (by (refine perm_cnt (fun _ => ?_)); simp only [cntB_append, cntB_cons, cntB_nil, Nat.add_zero, Nat.zero_add]; try ac_rfl))) hB rfl hN2) (fun y hvR => ?_)
  obtain ⟨d, s, r, vR, lpR⟩ := y
  simp only at hvR ⊢
  obtain ⟨a1, c1, rfl, hc1⟩ := hvR.form
  refine J.perm ((d, dkO s N (-1) 0) :: (s, dkS B) :: (r, rfO (.slice a1 (64 * N) c1) (-1) 0) :: (lpR ++ lp12)) (by (refine perm_cnt (fun _ => ?_)); simp only [cntB_append, cntB_cons, cntB_nil, Nat.add_zero, Nat.zero_add]; try ac_rfl) ?_
  refine J.move rfl rfl ?_
  refine J.extract rfl rfl rfl ?_
  refine J.extract rfl rfl rfl ?_
  refine J.assign rfl rfl ?_
  refine J.assign rfl rfl ?_
  refine J.nil ?_
  refine JX.thenN (hK2 _ _ ?_)
  refine JC.seq (fun K3 hK3 => ?_)
  refine JC.seq (fun K4 hK4 => ?_)
  refine JC.region ?_
  refine J.move rfl rfl ?_
  refine J.eqNil Ty.u23 rfl rfl rfl ?_
  refine J.move rfl rfl ?_
  first
    | (refine J.skip rfl rfl rfl rfl rfl ?_)
    | (refine J.skipU rfl rfl rfl rfl ?_)
    | (refine J.unguard rfl rfl rfl ?_; refine J.callB (fun w1 w2 hw hb => hw.step hb) Ty.bd27 rfl rfl (fun w1 hw => fixed6 w1) ?_)
  first
    | (refine J.skip rfl rfl rfl rfl rfl ?_)
    | (refine J.skipU rfl rfl rfl rfl ?_)
    | (refine J.unguard rfl rfl rfl ?_; refine J.not rfl rfl ?_)
  (first | refine J.pickT rfl rfl rfl ?_ | refine J.pickF rfl rfl rfl ?_)
  refine J.nil ?_
  refine JX.thenN (hK4 _ _ ?_)
  first | refine JC.condF rfl ?_ | refine JC.cond rfl (fun h => by first | (exfalso; simp at h; omega) | (simp at h)) (fun _ => ?_)
  refine JC.skip ?_
  refine JX.thenN (hK3 _ _ ?_)
  refine JC.seq (fun K5 hK5 => ?_)
  refine JC.region ?_
  rcases hO : openP B N with ⟨e, o⟩
  rcases o with _ | q
  · skip
    refine J.move rfl rfl ?_
    refine J.callB (v := .tuple #[.pointer none, .slice none 0 0, .int .i64 e]) (fun w1 w2 hw hb => hw.step hb) Ty.bd26 rfl rfl (fun w1 hw => by
      have h := open_spec d s N B (-1) 0 w1 (St.owns (l1 := [(d, dkO s N (-1) 0), (s, dkS B)]) (l := (r, rfO (.slice a1 (64 * N) c1) (-1) 0) :: (lpR ++ lp12)) hw) hB hN2
      rw [hO] at h
      exact h) ?_
    refine J.move rfl rfl ?_
    refine J.extract rfl rfl rfl ?_
    refine J.extract rfl rfl rfl ?_
    refine J.extract rfl rfl rfl ?_
    refine J.assign rfl rfl ?_
    refine J.assign rfl rfl ?_
    refine J.assign rfl rfl ?_
    refine J.nil ?_
    refine JX.thenN (hK5 _ _ ?_)
    refine JC.seq (fun K6 hK6 => ?_)
    refine JC.region ?_
    refine J.move rfl rfl ?_
    refine J.callB (v := .tuple #[.pointer none, .slice none 0 0, .int .i64 e]) (fun w1 w2 hw hb => hw.step hb) Ty.bd35 rfl rfl (fun w1 hw => by
      have h := ropen_spec r N _ lpR B (-1) 0 w1 (St.owns (l1 := (r, rfO (.slice a1 (64 * N) c1) (-1) 0) :: lpR) (l := (d, dkO s N (-1) 0) :: (s, dkS B) :: lp12) (hw.perm (by (refine perm_cnt (fun _ => ?_)); simp only [cntB_append, cntB_cons, cntB_nil, Nat.add_zero, Nat.zero_add]; try ac_rfl))) hvR hB hN2
      rw [hO] at h
      exact h) ?_
    refine J.move rfl rfl ?_
    refine J.extract rfl rfl rfl ?_
    refine J.extract rfl rfl rfl ?_
    refine J.extract rfl rfl rfl ?_
    refine J.assign rfl rfl ?_
    refine J.assign rfl rfl ?_
    refine J.assign rfl rfl ?_
    refine J.nil ?_
    refine JX.thenN (hK6 _ _ ?_)
    refine JC.seq (fun K7 hK7 => ?_)
    refine JC.seq (fun K8 hK8 => ?_)
    apply JC.drawL 24 [Eqv _, Eqv _, Eqv _, Eqv _, Eqv _, Eqv _, Eqv _, Eqv _, Eqv _, Eqv _, Eqv _, Eqv _, Eqv _, Eqv _, Eqv _, Eqv _, Eqv _, Eqv _, RowP (64 * N) (B.map u8), Eqv _, Eqv _, Eqv _, Eqv _, Eqv _] Ty.mixed rfl rfl rfl (by kernel_rfl) rfl rfl (fun w w' hw hb => hw.step hb) ⟨fun _ _ _ h _ => h, fun _ _ _ h _ => h, fun _ _ _ h _ => h, fun _ _ _ h _ => h, fun _ _ _ h _ => h, fun _ _ _ h _ => h, fun _ _ _ h _ => h, fun _ _ _ h _ => h, fun _ _ _ h _ => h, fun _ _ _ h _ => h, fun _ _ _ h _ => h, fun _ _ _ h _ => h, fun _ _ _ h _ => h, fun _ _ _ h _ => h, fun _ _ _ h _ => h, fun _ _ _ h _ => h, fun _ _ _ h _ => h, fun _ _ _ h _ => h, RowP.st _ _, fun _ _ _ h _ => h, fun _ _ _ h _ => h, fun _ _ _ h _ => h, fun _ _ _ h _ => h, fun _ _ _ h _ => h, trivial⟩ ?hstep ?htail
    case hstep =>
      refine ⟨fun wi => ?_, fun wi => ?_, fun wi => ?_, fun wi => ?_, fun wi => ?_, fun wi => ?_, fun wi => ?_, fun wi => ?_, fun wi => ?_, fun wi => ?_, fun wi => ?_, fun wi => ?_, fun wi => ?_, fun wi => ?_, fun wi => ?_, fun wi => ?_, fun wi => ?_, fun wi => ?_, fun wi => ?_, fun wi => ?_, fun wi => ?_, fun wi => ?_, fun wi => ?_, fun wi => ?_, trivial⟩
      · skip
        refine Fin.nil ?_
        refine J.move rfl rfl ?_
        refine J.nil (JX.fin rfl (fun w hw => ⟨rfl, (by rw [hw.1]; exact Below.refl _ _)⟩))
      · skip
        refine Fin.nil ?_
        refine J.move rfl rfl ?_
        refine J.nil (JX.fin rfl (fun w hw => ⟨rfl, (by rw [hw.1]; exact Below.refl _ _)⟩))
      · skip
        refine Fin.cons (fun v7_0 => ?_)
        refine Fin.cons (fun v7_1 => ?_)
        refine Fin.nil ?_
        refine J.prE (fun h => ?_); subst h
        refine J.prE (fun h => ?_); subst h
        refine J.bin rfl rfl rfl rfl ?_
        refine J.name 38 rfl (show Value.bool _ = .bool false by simp) ?_
        refine J.nil (JX.fin rfl (fun w hw => ⟨rfl, (by rw [hw.1]; exact Below.refl _ _)⟩))
      · skip
        refine Fin.cons (fun v7_2 => ?_)
        refine Fin.nil ?_
        refine J.prE (fun h => ?_); subst h
        refine J.move rfl rfl ?_
        refine J.nil (JX.fin rfl (fun w hw => ⟨rfl, (by rw [hw.1]; exact Below.refl _ _)⟩))
      · skip
        refine Fin.cons (fun v7_3 => ?_)
        refine Fin.nil ?_
        refine J.prE (fun h => ?_); subst h
        first
          | (refine J.skip rfl rfl rfl rfl rfl ?_)
          | (refine J.skipU rfl rfl rfl rfl ?_)
          | (refine J.unguard rfl rfl rfl ?_; refine J.move rfl rfl ?_)
        refine J.nil (JX.fin rfl (fun w hw => ⟨rfl, (by rw [hw.1]; exact Below.refl _ _)⟩))
      · skip
        refine Fin.cons (fun v7_4 => ?_)
        refine Fin.cons (fun v7_3 => ?_)
        refine Fin.nil ?_
        refine J.prE (fun h => ?_); subst h
        refine J.prE (fun h => ?_); subst h
        first
          | (refine J.skip rfl rfl rfl rfl rfl ?_)
          | (refine J.skipU rfl rfl rfl rfl ?_)
          | (refine J.unguard rfl rfl rfl ?_; refine J.eqNil Ty.u48 rfl rfl rfl ?_)
        refine J.nil (JX.fin rfl (fun w hw => ⟨rfl, (by rw [hw.1]; exact Below.refl _ _)⟩))
      · skip
        refine Fin.cons (fun v7_3 => ?_)
        refine Fin.nil ?_
        refine J.prE (fun h => ?_); subst h
        first
          | (refine J.skip rfl rfl rfl rfl rfl ?_)
          | (refine J.skipU rfl rfl rfl rfl ?_)
          | (refine J.unguard rfl rfl rfl ?_; refine J.move rfl rfl ?_)
        refine J.nil (JX.fin rfl (fun w hw => ⟨rfl, (by rw [hw.1]; exact Below.refl _ _)⟩))
      · skip
        refine Fin.cons (fun v7_6 => ?_)
        refine Fin.cons (fun v7_3 => ?_)
        refine Fin.nil ?_
        refine J.prE (fun h => ?_); subst h
        refine J.prE (fun h => ?_); subst h
        first
          | (refine J.skip rfl rfl rfl rfl rfl ?_)
          | (refine J.skipU rfl rfl rfl rfl ?_)
          | (refine J.unguard rfl rfl rfl ?_; refine J.eqNil Ty.u62 rfl rfl rfl ?_)
        refine J.nil (JX.fin rfl (fun w hw => ⟨rfl, (by rw [hw.1]; exact Below.refl _ _)⟩))
      · skip
        refine Fin.cons (fun v7_5 => ?_)
        refine Fin.cons (fun v7_7 => ?_)
        refine Fin.cons (fun v7_3 => ?_)
        refine Fin.nil ?_
        refine J.prE (fun h => ?_); subst h
        refine J.prE (fun h => ?_); subst h
        refine J.prE (fun h => ?_); subst h
        first
          | (refine J.skip rfl rfl rfl rfl rfl ?_)
          | (refine J.skipU rfl rfl rfl rfl ?_)
          | (refine J.unguard rfl rfl rfl ?_; refine J.eqBool (.inr rfl) Ty.u4 rfl rfl rfl ?_)
        refine J.nil (JX.fin rfl (fun w hw => ⟨rfl, (by rw [hw.1]; exact Below.refl _ _)⟩))
      · skip
        refine Fin.cons (fun v7_3 => ?_)
        refine Fin.cons (fun v7_8 => ?_)
        refine Fin.nil ?_
        refine J.prE (fun h => ?_); subst h
        refine J.prE (fun h => ?_); subst h
        (first | refine J.pickT rfl rfl rfl ?_ | refine J.pickF rfl rfl rfl ?_)
        refine J.nil (JX.fin rfl (fun w hw => ⟨rfl, (by rw [hw.1]; exact Below.refl _ _)⟩))
      · skip
        refine Fin.cons (fun v7_9 => ?_)
        refine Fin.cons (fun v7_3 => ?_)
        refine Fin.nil ?_
        refine J.prE (fun h => ?_); subst h
        refine J.prE (fun h => ?_); subst h
        refine J.move rfl rfl ?_
        refine J.nil (JX.fin rfl (fun w hw => ⟨rfl, (by rw [hw.1]; exact Below.refl _ _)⟩))
      · skip
        refine Fin.cons (fun v7_10 => ?_)
        refine Fin.nil ?_
        refine J.prE (fun h => ?_); subst h
        first
          | (refine J.skip rfl rfl rfl rfl rfl ?_)
          | (refine J.skipU rfl rfl rfl rfl ?_)
          | (refine J.unguard rfl rfl rfl ?_; refine J.move rfl rfl ?_)
        refine J.nil (JX.fin rfl (fun w hw => ⟨rfl, (by rw [hw.1]; exact Below.refl _ _)⟩))
      · skip
        refine Fin.cons (fun v7_10 => ?_)
        refine Fin.nil ?_
        refine J.prE (fun h => ?_); subst h
        first
          | (refine J.skip rfl rfl rfl rfl rfl ?_)
          | (refine J.skipU rfl rfl rfl rfl ?_)
          | (refine J.unguard rfl rfl rfl ?_; refine J.move rfl rfl ?_)
        refine J.nil (JX.fin rfl (fun w hw => ⟨rfl, (by rw [hw.1]; exact Below.refl _ _)⟩))
      · skip
        refine Fin.cons (fun v7_11 => ?_)
        refine Fin.cons (fun v7_12 => ?_)
        refine Fin.cons (fun v7_10 => ?_)
        refine Fin.cons (fun v7_10 => ?_)
        refine Fin.nil ?_
        refine J.prE (fun h => ?_); subst h
        refine J.prE (fun h => ?_); subst h
        refine J.prE (fun h => ?_); subst h
        refine J.prE (fun h => ?_); subst h
        refine J.unguard rfl rfl rfl ?_
        refine J.callD (v := .bool true) Ty.bd30 rfl rfl (fun w1 hw => sameAll_spec _ _ [] [] w1 (RowRecs.nil _) (RowRecs.nil _) (by simp)) ?_
        refine J.nil (JX.fin rfl (fun w hw => ⟨rfl, hw⟩))
      · skip
        refine Fin.cons (fun v7_13 => ?_)
        refine Fin.cons (fun v7_10 => ?_)
        refine Fin.nil ?_
        refine J.prE (fun h => ?_); subst h
        refine J.prE (fun h => ?_); subst h
        first
          | (refine J.skip rfl rfl rfl rfl rfl ?_)
          | (refine J.skipU rfl rfl rfl rfl ?_)
          | (refine J.unguard rfl rfl rfl ?_; refine J.not rfl rfl ?_)
        refine J.nil (JX.fin rfl (fun w hw => ⟨rfl, (by rw [hw.1]; exact Below.refl _ _)⟩))
      · skip
        refine Fin.cons (fun v7_10 => ?_)
        refine Fin.cons (fun v7_14 => ?_)
        refine Fin.nil ?_
        refine J.prE (fun h => ?_); subst h
        refine J.prE (fun h => ?_); subst h
        (first | refine J.pickT rfl rfl rfl ?_ | refine J.pickF rfl rfl rfl ?_)
        refine J.nil (JX.fin rfl (fun w hw => ⟨rfl, (by rw [hw.1]; exact Below.refl _ _)⟩))
      · skip
        refine Fin.cons (fun v7_15 => ?_)
        refine Fin.cons (fun v7_13 => ?_)
        refine Fin.nil ?_
        refine J.prE (fun h => ?_); subst h
        refine J.prE (fun h => ?_); subst h
        refine J.move rfl rfl ?_
        refine J.nil (JX.fin rfl (fun w hw => ⟨rfl, (by rw [hw.1]; exact Below.refl _ _)⟩))
      · skip
        refine Fin.cons (fun v7_16 => ?_)
        refine Fin.nil ?_
        refine J.prE (fun h => ?_); subst h
        first
          | (refine J.skip rfl rfl rfl rfl rfl ?_)
          | (refine J.skipU rfl rfl rfl rfl ?_)
          | (refine J.unguard rfl rfl rfl ?_; refine J.move rfl rfl ?_)
        refine J.nil (JX.fin rfl (fun w hw => ⟨rfl, (by rw [hw.1]; exact Below.refl _ _)⟩))
      · skip
        refine Fin.cons (fun v7_17 => ?_)
        refine Fin.cons (fun v7_16 => ?_)
        refine Fin.cons (fun v7_16 => ?_)
        refine Fin.nil ?_
        refine J.prE (fun h => ?_); subst h
        refine J.prE (fun h => ?_); subst h
        refine J.prE (fun h => ?_); subst h
        refine J.unguard rfl rfl rfl ?_
        refine J.callR (k := 64 * N) (ys := B.map u8) Ty.bd24 rfl rfl (fun w1 hw => (bytes_spec d s N B (-1) 0 w1 (St.owns (l1 := [(d, dkO s N (-1) 0), (s, dkS B)]) (l := (r, rfO (.slice a1 (64 * N) c1) (-1) 0) :: (lpR ++ lp12)) (hw.perm (by (refine perm_cnt (fun _ => ?_)); simp only [cntB_append, cntB_cons, cntB_nil, Nat.add_zero, Nat.zero_add]; try ac_rfl))) hB hN2).mono fun _ w2 ⟨x, h1, h2, h3⟩ => ⟨x.1, h1, h2.row (l := [(d, dkO s N (-1) 0), (s, dkS B)]) h3, h3.same (St.owns (l1 := [(d, dkO s N (-1) 0), (s, dkS B)]) (l := (r, rfO (.slice a1 (64 * N) c1) (-1) 0) :: (lpR ++ lp12)) (hw.perm (by (refine perm_cnt (fun _ => ?_)); simp only [cntB_append, cntB_cons, cntB_nil, Nat.add_zero, Nat.zero_add]; try ac_rfl))) (fun p hp => List.mem_append_right _ hp)⟩) (fun v126 => ?_)
        refine J.nil (JX.fin rfl (fun w hw => ⟨hw.1, hw.2⟩))
      · skip
        refine Fin.cons (fun v7_18 => ?_)
        refine Fin.cons (fun v7_16 => ?_)
        refine Fin.nil ?_
        refine J.prE (fun h => ?_); subst h
        refine J.prR ?_
        refine J.unguard rfl rfl rfl ?_
        refine J.toStr (m := 64 * N) (bs := B) Ty.el28 Ty.u5 Ty.u9 rfl (fun w1 hw => hw.2.1) hB rfl ?_
        refine J.nil (JX.fin rfl (fun w hw => ⟨rfl, (by rw [hw.1]; exact Below.refl _ _)⟩))
      · skip
        refine Fin.cons (fun v7_16 => ?_)
        refine Fin.nil ?_
        refine J.prE (fun h => ?_); subst h
        first
          | (refine J.skip rfl rfl rfl rfl rfl ?_)
          | (refine J.skipU rfl rfl rfl rfl ?_)
          | (refine J.unguard rfl rfl rfl ?_; refine J.move rfl rfl ?_)
        refine J.nil (JX.fin rfl (fun w hw => ⟨rfl, (by rw [hw.1]; exact Below.refl _ _)⟩))
      · skip
        refine Fin.cons (fun v7_20 => ?_)
        refine Fin.cons (fun v7_16 => ?_)
        refine Fin.nil ?_
        refine J.prE (fun h => ?_); subst h
        refine J.prE (fun h => ?_); subst h
        refine J.unguard rfl rfl rfl ?_
        refine J.toStr (m := 64 * N) (bs := B) Ty.el28 Ty.u5 Ty.u9 rfl (fun w1 hw => hv12.row (l := (d, dkO s N (-1) 0) :: (s, dkS B) :: (r, rfO (.slice a1 (64 * N) c1) (-1) 0) :: (lpR)) (hw.2.perm (by (refine perm_cnt (fun _ => ?_)); simp only [cntB_append, cntB_cons, cntB_nil, Nat.add_zero, Nat.zero_add]; try ac_rfl))) hB rfl ?_
        refine J.nil (JX.fin rfl (fun w hw => ⟨rfl, (by rw [hw.1]; exact Below.refl _ _)⟩))
      · skip
        refine Fin.cons (fun v7_19 => ?_)
        refine Fin.cons (fun v7_21 => ?_)
        refine Fin.cons (fun v7_16 => ?_)
        refine Fin.nil ?_
        refine J.prE (fun h => ?_); subst h
        refine J.prE (fun h => ?_); subst h
        refine J.prE (fun h => ?_); subst h
        refine J.unguard rfl rfl rfl ?_
        refine J.strNe rfl rfl rfl ?_
        refine J.name 58 rfl (show Value.bool _ = .bool false by simp) ?_
        refine J.nil (JX.fin rfl (fun w hw => ⟨rfl, (by rw [hw.1]; exact Below.refl _ _)⟩))
      · skip
        refine Fin.cons (fun v7_16 => ?_)
        refine Fin.cons (fun v7_22 => ?_)
        refine Fin.nil ?_
        refine J.prE (fun h => ?_); subst h
        refine J.prE (fun h => ?_); subst h
        (first | refine J.pickT rfl rfl rfl ?_ | refine J.pickF rfl rfl rfl ?_)
        refine J.nil (JX.fin rfl (fun w hw => ⟨rfl, (by rw [hw.1]; exact Below.refl _ _)⟩))
    case htail =>
      refine Fin.cons (fun v7_0 => ?_)
      refine Fin.cons (fun v7_1 => ?_)
      refine Fin.cons (fun v7_2 => ?_)
      refine Fin.cons (fun v7_3 => ?_)
      refine Fin.cons (fun v7_4 => ?_)
      refine Fin.cons (fun v7_5 => ?_)
      refine Fin.cons (fun v7_6 => ?_)
      refine Fin.cons (fun v7_7 => ?_)
      refine Fin.cons (fun v7_8 => ?_)
      refine Fin.cons (fun v7_9 => ?_)
      refine Fin.cons (fun v7_10 => ?_)
      refine Fin.cons (fun v7_11 => ?_)
      refine Fin.cons (fun v7_12 => ?_)
      refine Fin.cons (fun v7_13 => ?_)
      refine Fin.cons (fun v7_14 => ?_)
      refine Fin.cons (fun v7_15 => ?_)
      refine Fin.cons (fun v7_16 => ?_)
      refine Fin.cons (fun v7_17 => ?_)
      refine Fin.cons (fun v7_18 => ?_)
      refine Fin.cons (fun v7_19 => ?_)
      refine Fin.cons (fun v7_20 => ?_)
      refine Fin.cons (fun v7_21 => ?_)
      refine Fin.cons (fun v7_22 => ?_)
      refine Fin.cons (fun v7_23 => ?_)
      refine Fin.nil ?_
      refine J.prE (fun h => ?_); subst h
      refine J.prE (fun h => ?_); subst h
      refine J.prE (fun h => ?_); subst h
      refine J.prE (fun h => ?_); subst h
      refine J.prE (fun h => ?_); subst h
      refine J.drop ?_
      refine J.prE (fun h => ?_); subst h
      refine J.prE (fun h => ?_); subst h
      refine J.prE (fun h => ?_); subst h
      refine J.prE (fun h => ?_); subst h
      refine J.prE (fun h => ?_); subst h
      refine J.prE (fun h => ?_); subst h
      refine J.prE (fun h => ?_); subst h
      refine J.prE (fun h => ?_); subst h
      refine J.prE (fun h => ?_); subst h
      refine J.prE (fun h => ?_); subst h
      refine J.prE (fun h => ?_); subst h
      refine J.prE (fun h => ?_); subst h
      refine J.prE (fun h => ?_); subst h
      refine J.prE (fun h => ?_); subst h
      refine J.prE (fun h => ?_); subst h
      refine J.prE (fun h => ?_); subst h
      refine J.prE (fun h => ?_); subst h
      refine J.prE (fun h => ?_); subst h
      refine J.nil ?_
      refine JX.thenN (hK8 _ _ ?_)
      first | refine JC.condF rfl ?_ | refine JC.cond rfl (fun h => by first | (exfalso; simp at h; omega) | (simp at h)) (fun _ => ?_)
      refine JC.skip ?_
      refine JX.thenN (hK7 _ _ ?_)
      refine JC.seq (fun K9 hK9 => ?_)
      apply JC.drawL 23 [Eqv _, Eqv _, Eqv _, Eqv _, Eqv _, Eqv _, Eqv _, Eqv _, Eqv _, Eqv _, Eqv _, Eqv _, Eqv _, Eqv _, Eqv _, Eqv _, Eqv _, Eqv _, Eqv _, Eqv _, Eqv _, Eqv _, Eqv _] Ty.mixed rfl rfl rfl (by kernel_rfl) rfl rfl (fun w w' hw hb => hw.step hb) ⟨fun _ _ _ h _ => h, fun _ _ _ h _ => h, fun _ _ _ h _ => h, fun _ _ _ h _ => h, fun _ _ _ h _ => h, fun _ _ _ h _ => h, fun _ _ _ h _ => h, fun _ _ _ h _ => h, fun _ _ _ h _ => h, fun _ _ _ h _ => h, fun _ _ _ h _ => h, fun _ _ _ h _ => h, fun _ _ _ h _ => h, fun _ _ _ h _ => h, fun _ _ _ h _ => h, fun _ _ _ h _ => h, fun _ _ _ h _ => h, fun _ _ _ h _ => h, fun _ _ _ h _ => h, fun _ _ _ h _ => h, fun _ _ _ h _ => h, fun _ _ _ h _ => h, fun _ _ _ h _ => h, trivial⟩ ?hstep ?htail
      case hstep =>
        refine ⟨fun wi => ?_, fun wi => ?_, fun wi => ?_, fun wi => ?_, fun wi => ?_, fun wi => ?_, fun wi => ?_, fun wi => ?_, fun wi => ?_, fun wi => ?_, fun wi => ?_, fun wi => ?_, fun wi => ?_, fun wi => ?_, fun wi => ?_, fun wi => ?_, fun wi => ?_, fun wi => ?_, fun wi => ?_, fun wi => ?_, fun wi => ?_, fun wi => ?_, fun wi => ?_, trivial⟩
        · skip
          refine Fin.nil ?_
          refine J.move rfl rfl ?_
          refine J.nil (JX.fin rfl (fun w hw => ⟨rfl, (by rw [hw.1]; exact Below.refl _ _)⟩))
        · skip
          refine Fin.cons (fun v9_0 => ?_)
          refine Fin.nil ?_
          refine J.prE (fun h => ?_); subst h
          refine J.eqNil Ty.u48 rfl rfl rfl ?_
          refine J.nil (JX.fin rfl (fun w hw => ⟨rfl, (by rw [hw.1]; exact Below.refl _ _)⟩))
        · skip
          refine Fin.cons (fun v9_1 => ?_)
          refine Fin.nil ?_
          refine J.prE (fun h => ?_); subst h
          refine J.move rfl rfl ?_
          refine J.nil (JX.fin rfl (fun w hw => ⟨rfl, (by rw [hw.1]; exact Below.refl _ _)⟩))
        · skip
          refine Fin.cons (fun v9_2 => ?_)
          refine Fin.nil ?_
          refine J.prE (fun h => ?_); subst h
          first
            | (refine J.skip rfl rfl rfl rfl rfl ?_)
            | (refine J.skipU rfl rfl rfl rfl ?_)
            | (refine J.unguard rfl rfl rfl ?_; refine J.move rfl rfl ?_)
          refine J.nil (JX.fin rfl (fun w hw => ⟨rfl, (by rw [hw.1]; exact Below.refl _ _)⟩))
        · skip
          refine Fin.cons (fun v9_3 => ?_)
          refine Fin.cons (fun v9_2 => ?_)
          refine Fin.cons (fun v9_2 => ?_)
          refine Fin.nil ?_
          refine J.prE (fun h => ?_); subst h
          refine J.prE (fun h => ?_); subst h
          refine J.prE (fun h => ?_); subst h
          first
            | (refine J.skip rfl rfl rfl rfl rfl ?_)
            | (refine J.skipU rfl rfl rfl rfl ?_)
            | (refine J.unguard rfl rfl rfl ?_; fail)
          refine J.nil (JX.fin rfl (fun w hw => ⟨rfl, (by rw [hw.1]; exact Below.refl _ _)⟩))
        · skip
          refine Fin.cons (fun v9_2 => ?_)
          refine Fin.nil ?_
          refine J.prE (fun h => ?_); subst h
          first
            | (refine J.skip rfl rfl rfl rfl rfl ?_)
            | (refine J.skipU rfl rfl rfl rfl ?_)
            | (refine J.unguard rfl rfl rfl ?_; refine J.move rfl rfl ?_)
          refine J.nil (JX.fin rfl (fun w hw => ⟨rfl, (by rw [hw.1]; exact Below.refl _ _)⟩))
        · skip
          refine Fin.cons (fun v9_5 => ?_)
          refine Fin.cons (fun v9_2 => ?_)
          refine Fin.nil ?_
          refine J.prE (fun h => ?_); subst h
          refine J.prE (fun h => ?_); subst h
          first
            | (refine J.skip rfl rfl rfl rfl rfl ?_)
            | (refine J.skipU rfl rfl rfl rfl ?_)
            | (refine J.unguard rfl rfl rfl ?_; refine J.nilCheck rfl rfl ?_)
          refine J.nil (JX.fin rfl (fun w hw => ⟨rfl, (by rw [hw.1]; exact Below.refl _ _)⟩))
        · skip
          refine Fin.cons (fun v9_6 => ?_)
          refine Fin.cons (fun v9_2 => ?_)
          refine Fin.nil ?_
          refine J.prE (fun h => ?_); subst h
          refine J.prE (fun h => ?_); subst h
          first
            | (refine J.skip rfl rfl rfl rfl rfl ?_)
            | (refine J.skipU rfl rfl rfl rfl ?_)
            | (refine J.unguard rfl rfl rfl ?_; refine J.fieldAddr Ty.fd67_3 rfl rfl ?_)
          refine J.nil (JX.fin rfl (fun w hw => ⟨rfl, (by rw [hw.1]; exact Below.refl _ _)⟩))
        · skip
          refine Fin.cons (fun v9_7 => ?_)
          refine Fin.cons (fun v9_2 => ?_)
          refine Fin.nil ?_
          refine J.prE (fun h => ?_); subst h
          refine J.prE (fun h => ?_); subst h
          first
            | (refine J.skip rfl rfl rfl rfl rfl ?_)
            | (refine J.skipU rfl rfl rfl rfl ?_)
            | (refine J.unguard rfl rfl rfl ?_; (first | refine J.load1 Ty.a3 rfl (fun w hw => (cell_of (hw.2.own _ (.head _))).trans rfl) rfl ?_ | refine J.load1 Ty.a3 rfl (fun w hw => (cell_of (hw.2.own _ (.tail _ (.head _)))).trans rfl) rfl ?_ | refine J.load1 Ty.a3 rfl (fun w hw => (cell_of (hw.2.own _ (.tail _ (.tail _ (.head _))))).trans rfl) rfl ?_ | refine J.load1 Ty.a3 rfl (fun w hw => (cell_of (hw.2.own _ (.tail _ (.tail _ (.tail _ (.head _)))))).trans rfl) rfl ?_ | refine J.load1 Ty.a3 rfl (fun w hw => (cell_of (hw.2.own _ (.tail _ (.tail _ (.tail _ (.tail _ (.head _))))))).trans rfl) rfl ?_ | refine J.load1 Ty.a3 rfl (fun w hw => (cell_of (hw.2.own _ (List.mem_append_right _ (.head _)))).trans rfl) rfl ?_ | refine J.load1 Ty.a3 rfl (fun w hw => (cell_of (hw.2.own _ (List.mem_append_right _ (.tail _ (.head _))))).trans rfl) rfl ?_ | refine J.load1 Ty.a3 rfl (fun w hw => (cell_of (hw.2.own _ (List.mem_append_right _ (.tail _ (.tail _ (.head _)))))).trans rfl) rfl ?_ | refine J.load1 Ty.a3 rfl (fun w hw => (cell_of (hw.2.own _ (List.mem_append_right _ (.tail _ (.tail _ (.tail _ (.head _))))))).trans rfl) rfl ?_ | refine J.load1 Ty.a3 rfl (fun w hw => (cell_of (hw.2.own _ (List.mem_append_right _ (.tail _ (.tail _ (.tail _ (.tail _ (.head _)))))))).trans rfl) rfl ?_))
          refine J.nil (JX.fin rfl (fun w hw => ⟨rfl, (by rw [hw.1]; exact Below.refl _ _)⟩))
        · skip
          refine Fin.cons (fun v9_4 => ?_)
          refine Fin.cons (fun v9_8 => ?_)
          refine Fin.cons (fun v9_2 => ?_)
          refine Fin.nil ?_
          refine J.prE (fun h => ?_); subst h
          refine J.prE (fun h => ?_); subst h
          refine J.prE (fun h => ?_); subst h
          first
            | (refine J.skip rfl rfl rfl rfl rfl ?_)
            | (refine J.skipU rfl rfl rfl rfl ?_)
            | (refine J.unguard rfl rfl rfl ?_; refine J.bin rfl rfl rfl rfl ?_)
          refine J.nil (JX.fin rfl (fun w hw => ⟨rfl, (by rw [hw.1]; exact Below.refl _ _)⟩))
        · skip
          refine Fin.cons (fun v9_9 => ?_)
          refine Fin.cons (fun v9_4 => ?_)
          refine Fin.cons (fun v9_2 => ?_)
          refine Fin.nil ?_
          refine J.prE (fun h => ?_); subst h
          refine J.prE (fun h => ?_); subst h
          refine J.prE (fun h => ?_); subst h
          first
            | (refine J.skip rfl rfl rfl rfl rfl ?_)
            | (refine J.skipU rfl rfl rfl rfl ?_)
            | (refine J.unguard rfl rfl rfl ?_; refine J.move rfl rfl ?_)
          refine J.nil (JX.fin rfl (fun w hw => ⟨rfl, (by rw [hw.1]; exact Below.refl _ _)⟩))
        · skip
          refine Fin.cons (fun v9_10 => ?_)
          refine Fin.nil ?_
          refine J.prE (fun h => ?_); subst h
          first
            | (refine J.skip rfl rfl rfl rfl rfl ?_)
            | (refine J.skipU rfl rfl rfl rfl ?_)
            | (refine J.unguard rfl rfl rfl ?_; refine J.move rfl rfl ?_)
          refine J.nil (JX.fin rfl (fun w hw => ⟨rfl, (by rw [hw.1]; exact Below.refl _ _)⟩))
        · skip
          refine Fin.cons (fun v9_11 => ?_)
          refine Fin.cons (fun v9_10 => ?_)
          refine Fin.cons (fun v9_10 => ?_)
          refine Fin.nil ?_
          refine J.prE (fun h => ?_); subst h
          refine J.prE (fun h => ?_); subst h
          refine J.prE (fun h => ?_); subst h
          first
            | (refine J.skip rfl rfl rfl rfl rfl ?_)
            | (refine J.skipU rfl rfl rfl rfl ?_)
            | (refine J.unguard rfl rfl rfl ?_; fail)
          refine J.nil (JX.fin rfl (fun w hw => ⟨rfl, (by rw [hw.1]; exact Below.refl _ _)⟩))
        · skip
          refine Fin.cons (fun v9_10 => ?_)
          refine Fin.nil ?_
          refine J.prE (fun h => ?_); subst h
          first
            | (refine J.skip rfl rfl rfl rfl rfl ?_)
            | (refine J.skipU rfl rfl rfl rfl ?_)
            | (refine J.unguard rfl rfl rfl ?_; refine J.move rfl rfl ?_)
          refine J.nil (JX.fin rfl (fun w hw => ⟨rfl, (by rw [hw.1]; exact Below.refl _ _)⟩))
        · skip
          refine Fin.cons (fun v9_13 => ?_)
          refine Fin.cons (fun v9_12 => ?_)
          refine Fin.cons (fun v9_10 => ?_)
          refine Fin.nil ?_
          refine J.prE (fun h => ?_); subst h
          refine J.prE (fun h => ?_); subst h
          refine J.prE (fun h => ?_); subst h
          first
            | (refine J.skip rfl rfl rfl rfl rfl ?_)
            | (refine J.skipU rfl rfl rfl rfl ?_)
            | (refine J.unguard rfl rfl rfl ?_; fail)
          refine J.nil (JX.fin rfl (fun w hw => ⟨rfl, (by rw [hw.1]; exact Below.refl _ _)⟩))
        · skip
          refine Fin.cons (fun v9_12 => ?_)
          refine Fin.cons (fun v9_14 => ?_)
          refine Fin.cons (fun v9_10 => ?_)
          refine Fin.nil ?_
          refine J.prE (fun h => ?_); subst h
          refine J.prE (fun h => ?_); subst h
          refine J.prE (fun h => ?_); subst h
          first
            | (refine J.skip rfl rfl rfl rfl rfl ?_)
            | (refine J.skipU rfl rfl rfl rfl ?_)
            | (refine J.unguard rfl rfl rfl ?_; refine J.bin rfl rfl rfl rfl ?_)
          refine J.nil (JX.fin rfl (fun w hw => ⟨rfl, (by rw [hw.1]; exact Below.refl _ _)⟩))
        · skip
          refine Fin.cons (fun v9_10 => ?_)
          refine Fin.cons (fun v9_15 => ?_)
          refine Fin.cons (fun v9_2 => ?_)
          refine Fin.nil ?_
          refine J.prE (fun h => ?_); subst h
          refine J.prE (fun h => ?_); subst h
          refine J.prE (fun h => ?_); subst h
          first
            | (refine J.skip rfl rfl rfl rfl rfl ?_)
            | (refine J.skipU rfl rfl rfl rfl ?_)
            | (refine J.unguard rfl rfl rfl ?_; (first | refine J.pickT rfl rfl rfl ?_ | refine J.pickF rfl rfl rfl ?_))
          refine J.nil (JX.fin rfl (fun w hw => ⟨rfl, (by rw [hw.1]; exact Below.refl _ _)⟩))
        · skip
          refine Fin.cons (fun v9_16 => ?_)
          refine Fin.cons (fun v9_14 => ?_)
          refine Fin.cons (fun v9_2 => ?_)
          refine Fin.nil ?_
          refine J.prE (fun h => ?_); subst h
          refine J.prE (fun h => ?_); subst h
          refine J.prE (fun h => ?_); subst h
          first
            | (refine J.skip rfl rfl rfl rfl rfl ?_)
            | (refine J.skipU rfl rfl rfl rfl ?_)
            | (refine J.unguard rfl rfl rfl ?_; refine J.move rfl rfl ?_)
          refine J.nil (JX.fin rfl (fun w hw => ⟨rfl, (by rw [hw.1]; exact Below.refl _ _)⟩))
        · skip
          refine Fin.cons (fun v9_17 => ?_)
          refine Fin.nil ?_
          refine J.prE (fun h => ?_); subst h
          first
            | (refine J.skip rfl rfl rfl rfl rfl ?_)
            | (refine J.skipU rfl rfl rfl rfl ?_)
            | (refine J.unguard rfl rfl rfl ?_; refine J.move rfl rfl ?_)
          refine J.nil (JX.fin rfl (fun w hw => ⟨rfl, (by rw [hw.1]; exact Below.refl _ _)⟩))
        · skip
          refine Fin.cons (fun v9_18 => ?_)
          refine Fin.cons (fun v9_17 => ?_)
          refine Fin.cons (fun v9_17 => ?_)
          refine Fin.nil ?_
          refine J.prE (fun h => ?_); subst h
          refine J.prE (fun h => ?_); subst h
          refine J.prE (fun h => ?_); subst h
          first
            | (refine J.skip rfl rfl rfl rfl rfl ?_)
            | (refine J.skipU rfl rfl rfl rfl ?_)
            | (refine J.unguard rfl rfl rfl ?_; fail)
          refine J.nil (JX.fin rfl (fun w hw => ⟨rfl, (by rw [hw.1]; exact Below.refl _ _)⟩))
        · skip
          refine Fin.cons (fun v9_19 => ?_)
          refine Fin.cons (fun v9_17 => ?_)
          refine Fin.nil ?_
          refine J.prE (fun h => ?_); subst h
          refine J.prE (fun h => ?_); subst h
          first
            | (refine J.skip rfl rfl rfl rfl rfl ?_)
            | (refine J.skipU rfl rfl rfl rfl ?_)
            | (refine J.unguard rfl rfl rfl ?_; refine J.not rfl rfl ?_)
          refine J.nil (JX.fin rfl (fun w hw => ⟨rfl, (by rw [hw.1]; exact Below.refl _ _)⟩))
        · skip
          refine Fin.cons (fun v9_17 => ?_)
          refine Fin.cons (fun v9_20 => ?_)
          refine Fin.cons (fun v9_2 => ?_)
          refine Fin.nil ?_
          refine J.prE (fun h => ?_); subst h
          refine J.prE (fun h => ?_); subst h
          refine J.prE (fun h => ?_); subst h
          first
            | (refine J.skip rfl rfl rfl rfl rfl ?_)
            | (refine J.skipU rfl rfl rfl rfl ?_)
            | (refine J.unguard rfl rfl rfl ?_; (first | refine J.pickT rfl rfl rfl ?_ | refine J.pickF rfl rfl rfl ?_))
          refine J.nil (JX.fin rfl (fun w hw => ⟨rfl, (by rw [hw.1]; exact Below.refl _ _)⟩))
        · skip
          refine Fin.cons (fun v9_2 => ?_)
          refine Fin.cons (fun v9_21 => ?_)
          refine Fin.nil ?_
          refine J.prE (fun h => ?_); subst h
          refine J.prE (fun h => ?_); subst h
          (first | refine J.pickT rfl rfl rfl ?_ | refine J.pickF rfl rfl rfl ?_)
          refine J.nil (JX.fin rfl (fun w hw => ⟨rfl, (by rw [hw.1]; exact Below.refl _ _)⟩))
      case htail =>
        refine Fin.cons (fun v9_0 => ?_)
        refine Fin.cons (fun v9_1 => ?_)
        refine Fin.cons (fun v9_2 => ?_)
        refine Fin.cons (fun v9_3 => ?_)
        refine Fin.cons (fun v9_4 => ?_)
        refine Fin.cons (fun v9_5 => ?_)
        refine Fin.cons (fun v9_6 => ?_)
        refine Fin.cons (fun v9_7 => ?_)
        refine Fin.cons (fun v9_8 => ?_)
        refine Fin.cons (fun v9_9 => ?_)
        refine Fin.cons (fun v9_10 => ?_)
        refine Fin.cons (fun v9_11 => ?_)
        refine Fin.cons (fun v9_12 => ?_)
        refine Fin.cons (fun v9_13 => ?_)
        refine Fin.cons (fun v9_14 => ?_)
        refine Fin.cons (fun v9_15 => ?_)
        refine Fin.cons (fun v9_16 => ?_)
        refine Fin.cons (fun v9_17 => ?_)
        refine Fin.cons (fun v9_18 => ?_)
        refine Fin.cons (fun v9_19 => ?_)
        refine Fin.cons (fun v9_20 => ?_)
        refine Fin.cons (fun v9_21 => ?_)
        refine Fin.cons (fun v9_22 => ?_)
        refine Fin.nil ?_
        refine J.prE (fun h => ?_); subst h
        refine J.prE (fun h => ?_); subst h
        refine J.prE (fun h => ?_); subst h
        refine J.prE (fun h => ?_); subst h
        refine J.prE (fun h => ?_); subst h
        refine J.prE (fun h => ?_); subst h
        refine J.prE (fun h => ?_); subst h
        refine J.prE (fun h => ?_); subst h
        refine J.prE (fun h => ?_); subst h
        refine J.prE (fun h => ?_); subst h
        refine J.prE (fun h => ?_); subst h
        refine J.prE (fun h => ?_); subst h
        refine J.prE (fun h => ?_); subst h
        refine J.prE (fun h => ?_); subst h
        refine J.prE (fun h => ?_); subst h
        refine J.prE (fun h => ?_); subst h
        refine J.prE (fun h => ?_); subst h
        refine J.prE (fun h => ?_); subst h
        refine J.prE (fun h => ?_); subst h
        refine J.prE (fun h => ?_); subst h
        refine J.prE (fun h => ?_); subst h
        refine J.prE (fun h => ?_); subst h
        refine J.prE (fun h => ?_); subst h
        refine J.assign rfl rfl ?_
        refine J.nil ?_
        refine JX.thenN (hK9 _ _ ?_)
        refine JC.ret ?_
        refine JX.ret1 rfl rfl (fun w hw => ?_)
        exact ⟨rfl, hw.below⟩
  · skip
    have he0 : e = 0 := openP_ok hO
    subst he0
    have hrl := openP_len hO hN2
    refine J.move rfl rfl ?_
    refine J.perm ([] ++ ((d, dkO s N (-1) 0) :: (s, dkS B) :: (r, rfO (.slice a1 (64 * N) c1) (-1) 0) :: (lpR ++ lp12))) (by (refine perm_cnt (fun _ => ?_)); simp only [cntB_append, cntB_cons, cntB_nil, Nat.add_zero, Nat.zero_add]; try ac_rfl) ?_
    refine J.callS (α := Nat × Value × List Value × List (Nat × Obj) × List (Nat × Obj)) (V := fun x => .tuple #[.pointer (some ⟨x.1, 0, none⟩), x.2.1, .int .i64 0]) (Pr := fun x => Vec 28 1 x.2.1 q.recs.length x.2.2.1 x.2.2.2.1 ∧ Recs 5 x.2.2.1 q.recs x.2.2.2.2) (L := fun x => (x.1, lgO d q false) :: (x.2.2.2.1 ++ x.2.2.2.2)) (l1 := []) Ty.bd26 rfl rfl (fun w1 hw => by
      have h := open_spec d s N B (-1) 0 w1 (St.owns (l1 := [(d, dkO s N (-1) 0), (s, dkS B)]) (l := (r, rfO (.slice a1 (64 * N) c1) (-1) 0) :: (lpR ++ lp12)) hw) hB hN2
      rw [hO] at h
      exact h.mono fun _ _ ⟨b, v, vs, lv, lps, h1, h2, h3, h4⟩ => ⟨(b, v, vs, lv, lps), h1, ⟨h2, h3⟩, h4⟩) (fun x hx1 => ?_)
    obtain ⟨lb, vo, vs, lv, lps⟩ := x
    obtain ⟨hvo, hro⟩ := hx1
    simp only at hvo hro ⊢
    refine J.perm ((lb, lgO d q false) :: (d, dkO s N (-1) 0) :: (s, dkS B) :: (r, rfO (.slice a1 (64 * N) c1) (-1) 0) :: (lpR ++ (lp12 ++ (lv ++ lps)))) (by (refine perm_cnt (fun _ => ?_)); simp only [cntB_append, cntB_cons, cntB_nil, Nat.add_zero, Nat.zero_add]; try ac_rfl) ?_
    refine J.move rfl rfl ?_
    refine J.extract rfl rfl rfl ?_
    refine J.extract rfl rfl rfl ?_
    refine J.extract rfl rfl rfl ?_
    refine J.assign rfl rfl ?_
    refine J.assign rfl rfl ?_
    refine J.assign rfl rfl ?_
    refine J.nil ?_
    refine JX.thenN (hK5 _ _ ?_)
    refine JC.seq (fun K10 hK10 => ?_)
    refine JC.region ?_
    refine J.move rfl rfl ?_
    refine J.perm ([] ++ ((lb, lgO d q false) :: (d, dkO s N (-1) 0) :: (s, dkS B) :: (r, rfO (.slice a1 (64 * N) c1) (-1) 0) :: (lpR ++ (lp12 ++ (lv ++ lps))))) (by (refine perm_cnt (fun _ => ?_)); simp only [cntB_append, cntB_cons, cntB_nil, Nat.add_zero, Nat.zero_add]; try ac_rfl) ?_
    refine J.callS (α := Nat × Value × List Value × List (Nat × Obj) × List (Nat × Obj)) (V := fun x => .tuple #[.pointer (some ⟨x.1, 0, none⟩), x.2.1, .int .i64 0]) (Pr := fun x => Vec 28 1 x.2.1 q.recs.length x.2.2.1 x.2.2.2.1 ∧ Recs 5 x.2.2.1 q.recs x.2.2.2.2) (L := fun x => (x.1, rlO r q false) :: (x.2.2.2.1 ++ x.2.2.2.2)) (l1 := []) Ty.bd35 rfl rfl (fun w1 hw => by
      have h := ropen_spec r N _ lpR B (-1) 0 w1 (St.owns (l1 := (r, rfO (.slice a1 (64 * N) c1) (-1) 0) :: lpR) (l := (lb, lgO d q false) :: (d, dkO s N (-1) 0) :: (s, dkS B) :: (lp12 ++ (lv ++ lps))) (hw.perm (by (refine perm_cnt (fun _ => ?_)); simp only [cntB_append, cntB_cons, cntB_nil, Nat.add_zero, Nat.zero_add]; try ac_rfl))) hvR hB hN2
      rw [hO] at h
      exact h.mono fun _ _ ⟨b, v, vs, lv, lps, h1, h2, h3, h4⟩ => ⟨(b, v, vs, lv, lps), h1, ⟨h2, h3⟩, h4⟩) (fun x hx1 => ?_)
    obtain ⟨rb, vo2, vs2, lv2, lps2⟩ := x
    obtain ⟨hvo2, hro2⟩ := hx1
    simp only at hvo2 hro2 ⊢
    refine J.perm ((lb, lgO d q false) :: (d, dkO s N (-1) 0) :: (s, dkS B) :: (rb, rlO r q false) :: (r, rfO (.slice a1 (64 * N) c1) (-1) 0) :: (lpR ++ (lp12 ++ (lv ++ (lps ++ (lv2 ++ lps2)))))) (by (refine perm_cnt (fun _ => ?_)); simp only [cntB_append, cntB_cons, cntB_nil, Nat.add_zero, Nat.zero_add]; try ac_rfl) ?_
    refine J.move rfl rfl ?_
    refine J.extract rfl rfl rfl ?_
    refine J.extract rfl rfl rfl ?_
    refine J.extract rfl rfl rfl ?_
    refine J.assign rfl rfl ?_
    refine J.assign rfl rfl ?_
    refine J.assign rfl rfl ?_
    refine J.nil ?_
    refine JX.thenN (hK10 _ _ ?_)
    refine JC.seq (fun K11 hK11 => ?_)
    refine JC.seq (fun K12 hK12 => ?_)
    apply JC.drawL 24 [Eqv _, Eqv _, Eqv _, Eqv _, Eqv _, Eqv _, Eqv _, Eqv _, Eqv _, Eqv _, Eqv _, Eqv _, Eqv _, Eqv _, Eqv _, Eqv _, Eqv _, Eqv _, RowP (64 * N) (B.map u8), Eqv _, Eqv _, Eqv _, Eqv _, Eqv _] Ty.mixed rfl rfl rfl (by kernel_rfl) rfl rfl (fun w w' hw hb => hw.step hb) ⟨fun _ _ _ h _ => h, fun _ _ _ h _ => h, fun _ _ _ h _ => h, fun _ _ _ h _ => h, fun _ _ _ h _ => h, fun _ _ _ h _ => h, fun _ _ _ h _ => h, fun _ _ _ h _ => h, fun _ _ _ h _ => h, fun _ _ _ h _ => h, fun _ _ _ h _ => h, fun _ _ _ h _ => h, fun _ _ _ h _ => h, fun _ _ _ h _ => h, fun _ _ _ h _ => h, fun _ _ _ h _ => h, fun _ _ _ h _ => h, fun _ _ _ h _ => h, RowP.st _ _, fun _ _ _ h _ => h, fun _ _ _ h _ => h, fun _ _ _ h _ => h, fun _ _ _ h _ => h, fun _ _ _ h _ => h, trivial⟩ ?hstep ?htail
    case hstep =>
      refine ⟨fun wi => ?_, fun wi => ?_, fun wi => ?_, fun wi => ?_, fun wi => ?_, fun wi => ?_, fun wi => ?_, fun wi => ?_, fun wi => ?_, fun wi => ?_, fun wi => ?_, fun wi => ?_, fun wi => ?_, fun wi => ?_, fun wi => ?_, fun wi => ?_, fun wi => ?_, fun wi => ?_, fun wi => ?_, fun wi => ?_, fun wi => ?_, fun wi => ?_, fun wi => ?_, fun wi => ?_, trivial⟩
      · skip
        refine Fin.nil ?_
        refine J.move rfl rfl ?_
        refine J.nil (JX.fin rfl (fun w hw => ⟨rfl, (by rw [hw.1]; exact Below.refl _ _)⟩))
      · skip
        refine Fin.nil ?_
        refine J.move rfl rfl ?_
        refine J.nil (JX.fin rfl (fun w hw => ⟨rfl, (by rw [hw.1]; exact Below.refl _ _)⟩))
      · skip
        refine Fin.cons (fun v7_0 => ?_)
        refine Fin.cons (fun v7_1 => ?_)
        refine Fin.nil ?_
        refine J.prE (fun h => ?_); subst h
        refine J.prE (fun h => ?_); subst h
        refine J.bin rfl rfl rfl rfl ?_
        refine J.name 38 rfl (show Value.bool _ = .bool false by simp) ?_
        refine J.nil (JX.fin rfl (fun w hw => ⟨rfl, (by rw [hw.1]; exact Below.refl _ _)⟩))
      · skip
        refine Fin.cons (fun v7_2 => ?_)
        refine Fin.nil ?_
        refine J.prE (fun h => ?_); subst h
        refine J.move rfl rfl ?_
        refine J.nil (JX.fin rfl (fun w hw => ⟨rfl, (by rw [hw.1]; exact Below.refl _ _)⟩))
      · skip
        refine Fin.cons (fun v7_3 => ?_)
        refine Fin.nil ?_
        refine J.prE (fun h => ?_); subst h
        first
          | (refine J.skip rfl rfl rfl rfl rfl ?_)
          | (refine J.skipU rfl rfl rfl rfl ?_)
          | (refine J.unguard rfl rfl rfl ?_; refine J.move rfl rfl ?_)
        refine J.nil (JX.fin rfl (fun w hw => ⟨rfl, (by rw [hw.1]; exact Below.refl _ _)⟩))
      · skip
        refine Fin.cons (fun v7_4 => ?_)
        refine Fin.cons (fun v7_3 => ?_)
        refine Fin.nil ?_
        refine J.prE (fun h => ?_); subst h
        refine J.prE (fun h => ?_); subst h
        first
          | (refine J.skip rfl rfl rfl rfl rfl ?_)
          | (refine J.skipU rfl rfl rfl rfl ?_)
          | (refine J.unguard rfl rfl rfl ?_; refine J.eqNil Ty.u48 rfl rfl rfl ?_)
        refine J.nil (JX.fin rfl (fun w hw => ⟨rfl, (by rw [hw.1]; exact Below.refl _ _)⟩))
      · skip
        refine Fin.cons (fun v7_3 => ?_)
        refine Fin.nil ?_
        refine J.prE (fun h => ?_); subst h
        first
          | (refine J.skip rfl rfl rfl rfl rfl ?_)
          | (refine J.skipU rfl rfl rfl rfl ?_)
          | (refine J.unguard rfl rfl rfl ?_; refine J.move rfl rfl ?_)
        refine J.nil (JX.fin rfl (fun w hw => ⟨rfl, (by rw [hw.1]; exact Below.refl _ _)⟩))
      · skip
        refine Fin.cons (fun v7_6 => ?_)
        refine Fin.cons (fun v7_3 => ?_)
        refine Fin.nil ?_
        refine J.prE (fun h => ?_); subst h
        refine J.prE (fun h => ?_); subst h
        first
          | (refine J.skip rfl rfl rfl rfl rfl ?_)
          | (refine J.skipU rfl rfl rfl rfl ?_)
          | (refine J.unguard rfl rfl rfl ?_; refine J.eqNil Ty.u62 rfl rfl rfl ?_)
        refine J.nil (JX.fin rfl (fun w hw => ⟨rfl, (by rw [hw.1]; exact Below.refl _ _)⟩))
      · skip
        refine Fin.cons (fun v7_5 => ?_)
        refine Fin.cons (fun v7_7 => ?_)
        refine Fin.cons (fun v7_3 => ?_)
        refine Fin.nil ?_
        refine J.prE (fun h => ?_); subst h
        refine J.prE (fun h => ?_); subst h
        refine J.prE (fun h => ?_); subst h
        first
          | (refine J.skip rfl rfl rfl rfl rfl ?_)
          | (refine J.skipU rfl rfl rfl rfl ?_)
          | (refine J.unguard rfl rfl rfl ?_; refine J.eqBool (.inr rfl) Ty.u4 rfl rfl rfl ?_)
        refine J.nil (JX.fin rfl (fun w hw => ⟨rfl, (by rw [hw.1]; exact Below.refl _ _)⟩))
      · skip
        refine Fin.cons (fun v7_3 => ?_)
        refine Fin.cons (fun v7_8 => ?_)
        refine Fin.nil ?_
        refine J.prE (fun h => ?_); subst h
        refine J.prE (fun h => ?_); subst h
        (first | refine J.pickT rfl rfl rfl ?_ | refine J.pickF rfl rfl rfl ?_)
        refine J.nil (JX.fin rfl (fun w hw => ⟨rfl, (by rw [hw.1]; exact Below.refl _ _)⟩))
      · skip
        refine Fin.cons (fun v7_9 => ?_)
        refine Fin.cons (fun v7_3 => ?_)
        refine Fin.nil ?_
        refine J.prE (fun h => ?_); subst h
        refine J.prE (fun h => ?_); subst h
        refine J.move rfl rfl ?_
        refine J.nil (JX.fin rfl (fun w hw => ⟨rfl, (by rw [hw.1]; exact Below.refl _ _)⟩))
      · skip
        refine Fin.cons (fun v7_10 => ?_)
        refine Fin.nil ?_
        refine J.prE (fun h => ?_); subst h
        first
          | (refine J.skip rfl rfl rfl rfl rfl ?_)
          | (refine J.skipU rfl rfl rfl rfl ?_)
          | (refine J.unguard rfl rfl rfl ?_; refine J.move rfl rfl ?_)
        refine J.nil (JX.fin rfl (fun w hw => ⟨rfl, (by rw [hw.1]; exact Below.refl _ _)⟩))
      · skip
        refine Fin.cons (fun v7_10 => ?_)
        refine Fin.nil ?_
        refine J.prE (fun h => ?_); subst h
        first
          | (refine J.skip rfl rfl rfl rfl rfl ?_)
          | (refine J.skipU rfl rfl rfl rfl ?_)
          | (refine J.unguard rfl rfl rfl ?_; refine J.move rfl rfl ?_)
        refine J.nil (JX.fin rfl (fun w hw => ⟨rfl, (by rw [hw.1]; exact Below.refl _ _)⟩))
      · skip
        refine Fin.cons (fun v7_11 => ?_)
        refine Fin.cons (fun v7_12 => ?_)
        refine Fin.cons (fun v7_10 => ?_)
        refine Fin.cons (fun v7_10 => ?_)
        refine Fin.nil ?_
        refine J.prE (fun h => ?_); subst h
        refine J.prE (fun h => ?_); subst h
        refine J.prE (fun h => ?_); subst h
        refine J.prE (fun h => ?_); subst h
        refine J.unguard rfl rfl rfl ?_
        refine J.callD (v := .bool true) Ty.bd30 rfl rfl (fun w1 hw => by
          have h := sameAll_spec _ _ q.recs q.recs w1 (RowRecs.of (l := (lb, lgO d q false) :: (d, dkO s N (-1) 0) :: (s, dkS B) :: (rb, rlO r q false) :: (r, rfO (.slice a1 (64 * N) c1) (-1) 0) :: (lpR ++ (lp12 ++ (lv2 ++ lps2)))) hvo hro (hw.perm (by (refine perm_cnt (fun _ => ?_)); simp only [cntB_append, cntB_cons, cntB_nil, Nat.add_zero, Nat.zero_add]; try ac_rfl))) (RowRecs.of (l := (lb, lgO d q false) :: (d, dkO s N (-1) 0) :: (s, dkS B) :: (rb, rlO r q false) :: (r, rfO (.slice a1 (64 * N) c1) (-1) 0) :: (lpR ++ (lp12 ++ (lv ++ lps)))) hvo2 hro2 (hw.perm (by (refine perm_cnt (fun _ => ?_)); simp only [cntB_append, cntB_cons, cntB_nil, Nat.add_zero, Nat.zero_add]; try ac_rfl))) (by omega)
          rw [decide_eq_true rfl] at h
          exact h) ?_
        refine J.nil (JX.fin rfl (fun w hw => ⟨rfl, hw⟩))
      · skip
        refine Fin.cons (fun v7_13 => ?_)
        refine Fin.cons (fun v7_10 => ?_)
        refine Fin.nil ?_
        refine J.prE (fun h => ?_); subst h
        refine J.prE (fun h => ?_); subst h
        first
          | (refine J.skip rfl rfl rfl rfl rfl ?_)
          | (refine J.skipU rfl rfl rfl rfl ?_)
          | (refine J.unguard rfl rfl rfl ?_; refine J.not rfl rfl ?_)
        refine J.nil (JX.fin rfl (fun w hw => ⟨rfl, (by rw [hw.1]; exact Below.refl _ _)⟩))
      · skip
        refine Fin.cons (fun v7_10 => ?_)
        refine Fin.cons (fun v7_14 => ?_)
        refine Fin.nil ?_
        refine J.prE (fun h => ?_); subst h
        refine J.prE (fun h => ?_); subst h
        (first | refine J.pickT rfl rfl rfl ?_ | refine J.pickF rfl rfl rfl ?_)
        refine J.nil (JX.fin rfl (fun w hw => ⟨rfl, (by rw [hw.1]; exact Below.refl _ _)⟩))
      · skip
        refine Fin.cons (fun v7_15 => ?_)
        refine Fin.cons (fun v7_13 => ?_)
        refine Fin.nil ?_
        refine J.prE (fun h => ?_); subst h
        refine J.prE (fun h => ?_); subst h
        refine J.move rfl rfl ?_
        refine J.nil (JX.fin rfl (fun w hw => ⟨rfl, (by rw [hw.1]; exact Below.refl _ _)⟩))
      · skip
        refine Fin.cons (fun v7_16 => ?_)
        refine Fin.nil ?_
        refine J.prE (fun h => ?_); subst h
        first
          | (refine J.skip rfl rfl rfl rfl rfl ?_)
          | (refine J.skipU rfl rfl rfl rfl ?_)
          | (refine J.unguard rfl rfl rfl ?_; refine J.move rfl rfl ?_)
        refine J.nil (JX.fin rfl (fun w hw => ⟨rfl, (by rw [hw.1]; exact Below.refl _ _)⟩))
      · skip
        refine Fin.cons (fun v7_17 => ?_)
        refine Fin.cons (fun v7_16 => ?_)
        refine Fin.cons (fun v7_16 => ?_)
        refine Fin.nil ?_
        refine J.prE (fun h => ?_); subst h
        refine J.prE (fun h => ?_); subst h
        refine J.prE (fun h => ?_); subst h
        refine J.unguard rfl rfl rfl ?_
        refine J.callR (k := 64 * N) (ys := B.map u8) Ty.bd24 rfl rfl (fun w1 hw => (bytes_spec d s N B (-1) 0 w1 (St.owns (l1 := [(d, dkO s N (-1) 0), (s, dkS B)]) (l := (lb, lgO d q false) :: (rb, rlO r q false) :: (r, rfO (.slice a1 (64 * N) c1) (-1) 0) :: (lpR ++ (lp12 ++ (lv ++ (lps ++ (lv2 ++ lps2)))))) (hw.perm (by (refine perm_cnt (fun _ => ?_)); simp only [cntB_append, cntB_cons, cntB_nil, Nat.add_zero, Nat.zero_add]; try ac_rfl))) hB hN2).mono fun _ w2 ⟨x, h1, h2, h3⟩ => ⟨x.1, h1, h2.row (l := [(d, dkO s N (-1) 0), (s, dkS B)]) h3, h3.same (St.owns (l1 := [(d, dkO s N (-1) 0), (s, dkS B)]) (l := (lb, lgO d q false) :: (rb, rlO r q false) :: (r, rfO (.slice a1 (64 * N) c1) (-1) 0) :: (lpR ++ (lp12 ++ (lv ++ (lps ++ (lv2 ++ lps2)))))) (hw.perm (by (refine perm_cnt (fun _ => ?_)); simp only [cntB_append, cntB_cons, cntB_nil, Nat.add_zero, Nat.zero_add]; try ac_rfl))) (fun p hp => List.mem_append_right _ hp)⟩) (fun v126 => ?_)
        refine J.nil (JX.fin rfl (fun w hw => ⟨hw.1, hw.2⟩))
      · skip
        refine Fin.cons (fun v7_18 => ?_)
        refine Fin.cons (fun v7_16 => ?_)
        refine Fin.nil ?_
        refine J.prE (fun h => ?_); subst h
        refine J.prR ?_
        refine J.unguard rfl rfl rfl ?_
        refine J.toStr (m := 64 * N) (bs := B) Ty.el28 Ty.u5 Ty.u9 rfl (fun w1 hw => hw.2.1) hB rfl ?_
        refine J.nil (JX.fin rfl (fun w hw => ⟨rfl, (by rw [hw.1]; exact Below.refl _ _)⟩))
      · skip
        refine Fin.cons (fun v7_16 => ?_)
        refine Fin.nil ?_
        refine J.prE (fun h => ?_); subst h
        first
          | (refine J.skip rfl rfl rfl rfl rfl ?_)
          | (refine J.skipU rfl rfl rfl rfl ?_)
          | (refine J.unguard rfl rfl rfl ?_; refine J.move rfl rfl ?_)
        refine J.nil (JX.fin rfl (fun w hw => ⟨rfl, (by rw [hw.1]; exact Below.refl _ _)⟩))
      · skip
        refine Fin.cons (fun v7_20 => ?_)
        refine Fin.cons (fun v7_16 => ?_)
        refine Fin.nil ?_
        refine J.prE (fun h => ?_); subst h
        refine J.prE (fun h => ?_); subst h
        refine J.unguard rfl rfl rfl ?_
        refine J.toStr (m := 64 * N) (bs := B) Ty.el28 Ty.u5 Ty.u9 rfl (fun w1 hw => hv12.row (l := (lb, lgO d q false) :: (d, dkO s N (-1) 0) :: (s, dkS B) :: (rb, rlO r q false) :: (r, rfO (.slice a1 (64 * N) c1) (-1) 0) :: (lpR ++ ((lv ++ (lps ++ (lv2 ++ lps2)))))) (hw.2.perm (by (refine perm_cnt (fun _ => ?_)); simp only [cntB_append, cntB_cons, cntB_nil, Nat.add_zero, Nat.zero_add]; try ac_rfl))) hB rfl ?_
        refine J.nil (JX.fin rfl (fun w hw => ⟨rfl, (by rw [hw.1]; exact Below.refl _ _)⟩))
      · skip
        refine Fin.cons (fun v7_19 => ?_)
        refine Fin.cons (fun v7_21 => ?_)
        refine Fin.cons (fun v7_16 => ?_)
        refine Fin.nil ?_
        refine J.prE (fun h => ?_); subst h
        refine J.prE (fun h => ?_); subst h
        refine J.prE (fun h => ?_); subst h
        refine J.unguard rfl rfl rfl ?_
        refine J.strNe rfl rfl rfl ?_
        refine J.name 58 rfl (show Value.bool _ = .bool false by simp) ?_
        refine J.nil (JX.fin rfl (fun w hw => ⟨rfl, (by rw [hw.1]; exact Below.refl _ _)⟩))
      · skip
        refine Fin.cons (fun v7_16 => ?_)
        refine Fin.cons (fun v7_22 => ?_)
        refine Fin.nil ?_
        refine J.prE (fun h => ?_); subst h
        refine J.prE (fun h => ?_); subst h
        (first | refine J.pickT rfl rfl rfl ?_ | refine J.pickF rfl rfl rfl ?_)
        refine J.nil (JX.fin rfl (fun w hw => ⟨rfl, (by rw [hw.1]; exact Below.refl _ _)⟩))
    case htail =>
      refine Fin.cons (fun v7_0 => ?_)
      refine Fin.cons (fun v7_1 => ?_)
      refine Fin.cons (fun v7_2 => ?_)
      refine Fin.cons (fun v7_3 => ?_)
      refine Fin.cons (fun v7_4 => ?_)
      refine Fin.cons (fun v7_5 => ?_)
      refine Fin.cons (fun v7_6 => ?_)
      refine Fin.cons (fun v7_7 => ?_)
      refine Fin.cons (fun v7_8 => ?_)
      refine Fin.cons (fun v7_9 => ?_)
      refine Fin.cons (fun v7_10 => ?_)
      refine Fin.cons (fun v7_11 => ?_)
      refine Fin.cons (fun v7_12 => ?_)
      refine Fin.cons (fun v7_13 => ?_)
      refine Fin.cons (fun v7_14 => ?_)
      refine Fin.cons (fun v7_15 => ?_)
      refine Fin.cons (fun v7_16 => ?_)
      refine Fin.cons (fun v7_17 => ?_)
      refine Fin.cons (fun v7_18 => ?_)
      refine Fin.cons (fun v7_19 => ?_)
      refine Fin.cons (fun v7_20 => ?_)
      refine Fin.cons (fun v7_21 => ?_)
      refine Fin.cons (fun v7_22 => ?_)
      refine Fin.cons (fun v7_23 => ?_)
      refine Fin.nil ?_
      refine J.prE (fun h => ?_); subst h
      refine J.prE (fun h => ?_); subst h
      refine J.prE (fun h => ?_); subst h
      refine J.prE (fun h => ?_); subst h
      refine J.prE (fun h => ?_); subst h
      refine J.drop ?_
      refine J.prE (fun h => ?_); subst h
      refine J.prE (fun h => ?_); subst h
      refine J.prE (fun h => ?_); subst h
      refine J.prE (fun h => ?_); subst h
      refine J.prE (fun h => ?_); subst h
      refine J.prE (fun h => ?_); subst h
      refine J.prE (fun h => ?_); subst h
      refine J.prE (fun h => ?_); subst h
      refine J.prE (fun h => ?_); subst h
      refine J.prE (fun h => ?_); subst h
      refine J.prE (fun h => ?_); subst h
      refine J.prE (fun h => ?_); subst h
      refine J.prE (fun h => ?_); subst h
      refine J.prE (fun h => ?_); subst h
      refine J.prE (fun h => ?_); subst h
      refine J.prE (fun h => ?_); subst h
      refine J.prE (fun h => ?_); subst h
      refine J.prE (fun h => ?_); subst h
      refine J.nil ?_
      refine JX.thenN (hK12 _ _ ?_)
      first | refine JC.condF rfl ?_ | refine JC.cond rfl (fun h => by first | (exfalso; simp at h; omega) | (simp at h)) (fun _ => ?_)
      refine JC.skip ?_
      refine JX.thenN (hK11 _ _ ?_)
      refine JC.seq (fun K13 hK13 => ?_)
      apply JC.drawL 23 [Eqv _, Eqv _, Eqv _, Eqv _, Eqv _, Eqv _, Eqv _, Eqv _, Eqv _, Eqv _, Eqv _, Eqv _, Eqv _, Eqv _, Eqv _, Eqv _, Eqv _, Eqv _, Eqv _, Eqv _, Eqv _, Eqv _, Eqv _] Ty.mixed rfl rfl rfl (by kernel_rfl) rfl rfl (fun w w' hw hb => hw.step hb) ⟨fun _ _ _ h _ => h, fun _ _ _ h _ => h, fun _ _ _ h _ => h, fun _ _ _ h _ => h, fun _ _ _ h _ => h, fun _ _ _ h _ => h, fun _ _ _ h _ => h, fun _ _ _ h _ => h, fun _ _ _ h _ => h, fun _ _ _ h _ => h, fun _ _ _ h _ => h, fun _ _ _ h _ => h, fun _ _ _ h _ => h, fun _ _ _ h _ => h, fun _ _ _ h _ => h, fun _ _ _ h _ => h, fun _ _ _ h _ => h, fun _ _ _ h _ => h, fun _ _ _ h _ => h, fun _ _ _ h _ => h, fun _ _ _ h _ => h, fun _ _ _ h _ => h, fun _ _ _ h _ => h, trivial⟩ ?hstep ?htail
      case hstep =>
        refine ⟨fun wi => ?_, fun wi => ?_, fun wi => ?_, fun wi => ?_, fun wi => ?_, fun wi => ?_, fun wi => ?_, fun wi => ?_, fun wi => ?_, fun wi => ?_, fun wi => ?_, fun wi => ?_, fun wi => ?_, fun wi => ?_, fun wi => ?_, fun wi => ?_, fun wi => ?_, fun wi => ?_, fun wi => ?_, fun wi => ?_, fun wi => ?_, fun wi => ?_, fun wi => ?_, trivial⟩
        · skip
          refine Fin.nil ?_
          refine J.move rfl rfl ?_
          refine J.nil (JX.fin rfl (fun w hw => ⟨rfl, (by rw [hw.1]; exact Below.refl _ _)⟩))
        · skip
          refine Fin.cons (fun v9_0 => ?_)
          refine Fin.nil ?_
          refine J.prE (fun h => ?_); subst h
          refine J.eqNil Ty.u48 rfl rfl rfl ?_
          refine J.nil (JX.fin rfl (fun w hw => ⟨rfl, (by rw [hw.1]; exact Below.refl _ _)⟩))
        · skip
          refine Fin.cons (fun v9_1 => ?_)
          refine Fin.nil ?_
          refine J.prE (fun h => ?_); subst h
          refine J.move rfl rfl ?_
          refine J.nil (JX.fin rfl (fun w hw => ⟨rfl, (by rw [hw.1]; exact Below.refl _ _)⟩))
        · skip
          refine Fin.cons (fun v9_2 => ?_)
          refine Fin.nil ?_
          refine J.prE (fun h => ?_); subst h
          first
            | (refine J.skip rfl rfl rfl rfl rfl ?_)
            | (refine J.skipU rfl rfl rfl rfl ?_)
            | (refine J.unguard rfl rfl rfl ?_; refine J.move rfl rfl ?_)
          refine J.nil (JX.fin rfl (fun w hw => ⟨rfl, (by rw [hw.1]; exact Below.refl _ _)⟩))
        · skip
          refine Fin.cons (fun v9_3 => ?_)
          refine Fin.cons (fun v9_2 => ?_)
          refine Fin.cons (fun v9_2 => ?_)
          refine Fin.nil ?_
          refine J.prE (fun h => ?_); subst h
          refine J.prE (fun h => ?_); subst h
          refine J.prE (fun h => ?_); subst h
          refine J.unguard rfl rfl rfl ?_
          refine J.callD Ty.bd29 rfl rfl (fun w1 hw => len_spec lb d q false w1 hw.owns') ?_
          refine J.nil (JX.fin rfl (fun w hw => ⟨rfl, hw⟩))
        · skip
          refine Fin.cons (fun v9_2 => ?_)
          refine Fin.nil ?_
          refine J.prE (fun h => ?_); subst h
          first
            | (refine J.skip rfl rfl rfl rfl rfl ?_)
            | (refine J.skipU rfl rfl rfl rfl ?_)
            | (refine J.unguard rfl rfl rfl ?_; refine J.move rfl rfl ?_)
          refine J.nil (JX.fin rfl (fun w hw => ⟨rfl, (by rw [hw.1]; exact Below.refl _ _)⟩))
        · skip
          refine Fin.cons (fun v9_5 => ?_)
          refine Fin.cons (fun v9_2 => ?_)
          refine Fin.nil ?_
          refine J.prE (fun h => ?_); subst h
          refine J.prE (fun h => ?_); subst h
          first
            | (refine J.skip rfl rfl rfl rfl rfl ?_)
            | (refine J.skipU rfl rfl rfl rfl ?_)
            | (refine J.unguard rfl rfl rfl ?_; refine J.nilCheck rfl rfl ?_)
          refine J.nil (JX.fin rfl (fun w hw => ⟨rfl, (by rw [hw.1]; exact Below.refl _ _)⟩))
        · skip
          refine Fin.cons (fun v9_6 => ?_)
          refine Fin.cons (fun v9_2 => ?_)
          refine Fin.nil ?_
          refine J.prE (fun h => ?_); subst h
          refine J.prE (fun h => ?_); subst h
          first
            | (refine J.skip rfl rfl rfl rfl rfl ?_)
            | (refine J.skipU rfl rfl rfl rfl ?_)
            | (refine J.unguard rfl rfl rfl ?_; refine J.fieldAddr Ty.fd67_3 rfl rfl ?_)
          refine J.nil (JX.fin rfl (fun w hw => ⟨rfl, (by rw [hw.1]; exact Below.refl _ _)⟩))
        · skip
          refine Fin.cons (fun v9_7 => ?_)
          refine Fin.cons (fun v9_2 => ?_)
          refine Fin.nil ?_
          refine J.prE (fun h => ?_); subst h
          refine J.prE (fun h => ?_); subst h
          first
            | (refine J.skip rfl rfl rfl rfl rfl ?_)
            | (refine J.skipU rfl rfl rfl rfl ?_)
            | (refine J.unguard rfl rfl rfl ?_; (first | refine J.load1 Ty.a3 rfl (fun w hw => (cell_of (hw.2.own _ (.head _))).trans rfl) rfl ?_ | refine J.load1 Ty.a3 rfl (fun w hw => (cell_of (hw.2.own _ (.tail _ (.head _)))).trans rfl) rfl ?_ | refine J.load1 Ty.a3 rfl (fun w hw => (cell_of (hw.2.own _ (.tail _ (.tail _ (.head _))))).trans rfl) rfl ?_ | refine J.load1 Ty.a3 rfl (fun w hw => (cell_of (hw.2.own _ (.tail _ (.tail _ (.tail _ (.head _)))))).trans rfl) rfl ?_ | refine J.load1 Ty.a3 rfl (fun w hw => (cell_of (hw.2.own _ (.tail _ (.tail _ (.tail _ (.tail _ (.head _))))))).trans rfl) rfl ?_ | refine J.load1 Ty.a3 rfl (fun w hw => (cell_of (hw.2.own _ (List.mem_append_right _ (.head _)))).trans rfl) rfl ?_ | refine J.load1 Ty.a3 rfl (fun w hw => (cell_of (hw.2.own _ (List.mem_append_right _ (.tail _ (.head _))))).trans rfl) rfl ?_ | refine J.load1 Ty.a3 rfl (fun w hw => (cell_of (hw.2.own _ (List.mem_append_right _ (.tail _ (.tail _ (.head _)))))).trans rfl) rfl ?_ | refine J.load1 Ty.a3 rfl (fun w hw => (cell_of (hw.2.own _ (List.mem_append_right _ (.tail _ (.tail _ (.tail _ (.head _))))))).trans rfl) rfl ?_ | refine J.load1 Ty.a3 rfl (fun w hw => (cell_of (hw.2.own _ (List.mem_append_right _ (.tail _ (.tail _ (.tail _ (.tail _ (.head _)))))))).trans rfl) rfl ?_))
          refine J.nil (JX.fin rfl (fun w hw => ⟨rfl, (by rw [hw.1]; exact Below.refl _ _)⟩))
        · skip
          refine Fin.cons (fun v9_4 => ?_)
          refine Fin.cons (fun v9_8 => ?_)
          refine Fin.cons (fun v9_2 => ?_)
          refine Fin.nil ?_
          refine J.prE (fun h => ?_); subst h
          refine J.prE (fun h => ?_); subst h
          refine J.prE (fun h => ?_); subst h
          refine J.unguard rfl rfl rfl ?_
          refine J.bin rfl rfl rfl rfl ?_
          refine J.name 69 rfl (show Value.bool _ = .bool true by simp) ?_
          refine J.nil (JX.fin rfl (fun w hw => ⟨rfl, (by rw [hw.1]; exact Below.refl _ _)⟩))
        · skip
          refine Fin.cons (fun v9_9 => ?_)
          refine Fin.cons (fun v9_4 => ?_)
          refine Fin.cons (fun v9_2 => ?_)
          refine Fin.nil ?_
          refine J.prE (fun h => ?_); subst h
          refine J.prE (fun h => ?_); subst h
          refine J.prE (fun h => ?_); subst h
          first
            | (refine J.skip rfl rfl rfl rfl rfl ?_)
            | (refine J.skipU rfl rfl rfl rfl ?_)
            | (refine J.unguard rfl rfl rfl ?_; refine J.move rfl rfl ?_)
          refine J.nil (JX.fin rfl (fun w hw => ⟨rfl, (by rw [hw.1]; exact Below.refl _ _)⟩))
        · skip
          refine Fin.cons (fun v9_10 => ?_)
          refine Fin.nil ?_
          refine J.prE (fun h => ?_); subst h
          first
            | (refine J.skip rfl rfl rfl rfl rfl ?_)
            | (refine J.skipU rfl rfl rfl rfl ?_)
            | (refine J.unguard rfl rfl rfl ?_; refine J.move rfl rfl ?_)
          refine J.nil (JX.fin rfl (fun w hw => ⟨rfl, (by rw [hw.1]; exact Below.refl _ _)⟩))
        · skip
          refine Fin.cons (fun v9_11 => ?_)
          refine Fin.cons (fun v9_10 => ?_)
          refine Fin.cons (fun v9_10 => ?_)
          refine Fin.nil ?_
          refine J.prE (fun h => ?_); subst h
          refine J.prE (fun h => ?_); subst h
          refine J.prE (fun h => ?_); subst h
          refine J.unguard rfl rfl rfl ?_
          refine J.callD Ty.bd31 rfl rfl (fun w1 hw => room_spec lb d s N q false (-1) 0 w1 hw.owns' hN2 (by omega)) ?_
          refine J.nil (JX.fin rfl (fun w hw => ⟨rfl, hw⟩))
        · skip
          refine Fin.cons (fun v9_10 => ?_)
          refine Fin.nil ?_
          refine J.prE (fun h => ?_); subst h
          first
            | (refine J.skip rfl rfl rfl rfl rfl ?_)
            | (refine J.skipU rfl rfl rfl rfl ?_)
            | (refine J.unguard rfl rfl rfl ?_; refine J.move rfl rfl ?_)
          refine J.nil (JX.fin rfl (fun w hw => ⟨rfl, (by rw [hw.1]; exact Below.refl _ _)⟩))
        · skip
          refine Fin.cons (fun v9_13 => ?_)
          refine Fin.cons (fun v9_12 => ?_)
          refine Fin.cons (fun v9_10 => ?_)
          refine Fin.nil ?_
          refine J.prE (fun h => ?_); subst h
          refine J.prE (fun h => ?_); subst h
          refine J.prE (fun h => ?_); subst h
          refine J.unguard rfl rfl rfl ?_
          refine J.callD Ty.bd36 rfl rfl (fun w1 hw => rroom_spec rb r N q false a1 c1 (-1) 0 w1 (St.owns' (l := (rb, rlO r q false) :: (r, rfO (.slice a1 (64 * N) c1) (-1) 0) :: (lb, lgO d q false) :: (d, dkO s N (-1) 0) :: (s, dkS B) :: (lpR ++ (lp12 ++ (lv ++ (lps ++ (lv2 ++ lps2)))))) (hw.perm (by (refine perm_cnt (fun _ => ?_)); simp only [cntB_append, cntB_cons, cntB_nil, Nat.add_zero, Nat.zero_add]; try ac_rfl))) hN2 (by omega)) ?_
          refine J.nil (JX.fin rfl (fun w hw => ⟨rfl, hw⟩))
        · skip
          refine Fin.cons (fun v9_12 => ?_)
          refine Fin.cons (fun v9_14 => ?_)
          refine Fin.cons (fun v9_10 => ?_)
          refine Fin.nil ?_
          refine J.prE (fun h => ?_); subst h
          refine J.prE (fun h => ?_); subst h
          refine J.prE (fun h => ?_); subst h
          refine J.unguard rfl rfl rfl ?_
          refine J.bin rfl rfl rfl rfl ?_
          refine J.name 75 rfl (show Value.bool _ = .bool true by simp) ?_
          refine J.nil (JX.fin rfl (fun w hw => ⟨rfl, (by rw [hw.1]; exact Below.refl _ _)⟩))
        · skip
          refine Fin.cons (fun v9_10 => ?_)
          refine Fin.cons (fun v9_15 => ?_)
          refine Fin.cons (fun v9_2 => ?_)
          refine Fin.nil ?_
          refine J.prE (fun h => ?_); subst h
          refine J.prE (fun h => ?_); subst h
          refine J.prE (fun h => ?_); subst h
          first
            | (refine J.skip rfl rfl rfl rfl rfl ?_)
            | (refine J.skipU rfl rfl rfl rfl ?_)
            | (refine J.unguard rfl rfl rfl ?_; (first | refine J.pickT rfl rfl rfl ?_ | refine J.pickF rfl rfl rfl ?_))
          refine J.nil (JX.fin rfl (fun w hw => ⟨rfl, (by rw [hw.1]; exact Below.refl _ _)⟩))
        · skip
          refine Fin.cons (fun v9_16 => ?_)
          refine Fin.cons (fun v9_14 => ?_)
          refine Fin.cons (fun v9_2 => ?_)
          refine Fin.nil ?_
          refine J.prE (fun h => ?_); subst h
          refine J.prE (fun h => ?_); subst h
          refine J.prE (fun h => ?_); subst h
          first
            | (refine J.skip rfl rfl rfl rfl rfl ?_)
            | (refine J.skipU rfl rfl rfl rfl ?_)
            | (refine J.unguard rfl rfl rfl ?_; refine J.move rfl rfl ?_)
          refine J.nil (JX.fin rfl (fun w hw => ⟨rfl, (by rw [hw.1]; exact Below.refl _ _)⟩))
        · skip
          refine Fin.cons (fun v9_17 => ?_)
          refine Fin.nil ?_
          refine J.prE (fun h => ?_); subst h
          first
            | (refine J.skip rfl rfl rfl rfl rfl ?_)
            | (refine J.skipU rfl rfl rfl rfl ?_)
            | (refine J.unguard rfl rfl rfl ?_; refine J.move rfl rfl ?_)
          refine J.nil (JX.fin rfl (fun w hw => ⟨rfl, (by rw [hw.1]; exact Below.refl _ _)⟩))
        · skip
          refine Fin.cons (fun v9_18 => ?_)
          refine Fin.cons (fun v9_17 => ?_)
          refine Fin.cons (fun v9_17 => ?_)
          refine Fin.nil ?_
          refine J.prE (fun h => ?_); subst h
          refine J.prE (fun h => ?_); subst h
          refine J.prE (fun h => ?_); subst h
          refine J.unguard rfl rfl rfl ?_
          refine J.callD Ty.bd32 rfl rfl (fun w1 hw => down_spec lb d q false w1 hw.owns') ?_
          refine J.nil (JX.fin rfl (fun w hw => ⟨rfl, hw⟩))
        · skip
          refine Fin.cons (fun v9_19 => ?_)
          refine Fin.cons (fun v9_17 => ?_)
          refine Fin.nil ?_
          refine J.prE (fun h => ?_); subst h
          refine J.prE (fun h => ?_); subst h
          first
            | (refine J.skip rfl rfl rfl rfl rfl ?_)
            | (refine J.skipU rfl rfl rfl rfl ?_)
            | (refine J.unguard rfl rfl rfl ?_; refine J.not rfl rfl ?_)
          refine J.nil (JX.fin rfl (fun w hw => ⟨rfl, (by rw [hw.1]; exact Below.refl _ _)⟩))
        · skip
          refine Fin.cons (fun v9_17 => ?_)
          refine Fin.cons (fun v9_20 => ?_)
          refine Fin.cons (fun v9_2 => ?_)
          refine Fin.nil ?_
          refine J.prE (fun h => ?_); subst h
          refine J.prE (fun h => ?_); subst h
          refine J.prE (fun h => ?_); subst h
          first
            | (refine J.skip rfl rfl rfl rfl rfl ?_)
            | (refine J.skipU rfl rfl rfl rfl ?_)
            | (refine J.unguard rfl rfl rfl ?_; (first | refine J.pickT rfl rfl rfl ?_ | refine J.pickF rfl rfl rfl ?_))
          refine J.nil (JX.fin rfl (fun w hw => ⟨rfl, (by rw [hw.1]; exact Below.refl _ _)⟩))
        · skip
          refine Fin.cons (fun v9_2 => ?_)
          refine Fin.cons (fun v9_21 => ?_)
          refine Fin.nil ?_
          refine J.prE (fun h => ?_); subst h
          refine J.prE (fun h => ?_); subst h
          (first | refine J.pickT rfl rfl rfl ?_ | refine J.pickF rfl rfl rfl ?_)
          refine J.nil (JX.fin rfl (fun w hw => ⟨rfl, (by rw [hw.1]; exact Below.refl _ _)⟩))
      case htail =>
        refine Fin.cons (fun v9_0 => ?_)
        refine Fin.cons (fun v9_1 => ?_)
        refine Fin.cons (fun v9_2 => ?_)
        refine Fin.cons (fun v9_3 => ?_)
        refine Fin.cons (fun v9_4 => ?_)
        refine Fin.cons (fun v9_5 => ?_)
        refine Fin.cons (fun v9_6 => ?_)
        refine Fin.cons (fun v9_7 => ?_)
        refine Fin.cons (fun v9_8 => ?_)
        refine Fin.cons (fun v9_9 => ?_)
        refine Fin.cons (fun v9_10 => ?_)
        refine Fin.cons (fun v9_11 => ?_)
        refine Fin.cons (fun v9_12 => ?_)
        refine Fin.cons (fun v9_13 => ?_)
        refine Fin.cons (fun v9_14 => ?_)
        refine Fin.cons (fun v9_15 => ?_)
        refine Fin.cons (fun v9_16 => ?_)
        refine Fin.cons (fun v9_17 => ?_)
        refine Fin.cons (fun v9_18 => ?_)
        refine Fin.cons (fun v9_19 => ?_)
        refine Fin.cons (fun v9_20 => ?_)
        refine Fin.cons (fun v9_21 => ?_)
        refine Fin.cons (fun v9_22 => ?_)
        refine Fin.nil ?_
        refine J.prE (fun h => ?_); subst h
        refine J.prE (fun h => ?_); subst h
        refine J.prE (fun h => ?_); subst h
        refine J.prE (fun h => ?_); subst h
        refine J.prE (fun h => ?_); subst h
        refine J.prE (fun h => ?_); subst h
        refine J.prE (fun h => ?_); subst h
        refine J.prE (fun h => ?_); subst h
        refine J.prE (fun h => ?_); subst h
        refine J.prE (fun h => ?_); subst h
        refine J.prE (fun h => ?_); subst h
        refine J.prE (fun h => ?_); subst h
        refine J.prE (fun h => ?_); subst h
        refine J.prE (fun h => ?_); subst h
        refine J.prE (fun h => ?_); subst h
        refine J.prE (fun h => ?_); subst h
        refine J.prE (fun h => ?_); subst h
        refine J.prE (fun h => ?_); subst h
        refine J.prE (fun h => ?_); subst h
        refine J.prE (fun h => ?_); subst h
        refine J.prE (fun h => ?_); subst h
        refine J.prE (fun h => ?_); subst h
        refine J.prE (fun h => ?_); subst h
        refine J.assign rfl rfl ?_
        refine J.nil ?_
        refine JX.thenN (hK13 _ _ ?_)
        refine JC.ret ?_
        refine JX.ret1 rfl rfl (fun w hw => ?_)
        exact ⟨rfl, hw.below⟩

end Go.Proofs.Ytlmbpfgiadbjaaa
