/-
  slices.Index, Contains, and ring.Has at identities: contracts.
-/
import Derived.Test.YtbafhclandendaaKd
namespace Go.Proofs.Ytbafhclandendaa
open Go.J Go.RowKit
set_option linter.unusedVariables false
set_option linter.unusedSimpArgs false
set_option maxRecDepth 4000
/-- where an identity stands first -/
def placeI : List IDV → IDV → Int
  | [], _ => -1
  | x :: xs, n => if x = n then 0 else if placeI xs n < 0 then -1 else placeI xs n + 1
theorem placeI_ge : ∀ (xs : List IDV) (n : IDV), -1 ≤ placeI xs n
  | [], _ => by simp [placeI]
  | x :: xs, n => by
    have := placeI_ge xs n
    simp only [placeI]
    split
    · omega
    · split <;> omega
theorem placeI_at : ∀ {xs : List IDV} {n : IDV} {i : Nat} (h : i < xs.length), (∀ j, j < i → xs[j]? ≠ some n) → xs[i] = n → placeI xs n = (i : Int)
  | x :: xs, n, 0, _, _, he => by
    have : x = n := he
    simp [placeI, this]
  | x :: xs, n, i + 1, h, hb, he => by
    have h0 : x ≠ n := fun e => hb 0 (by omega) (by simp [e])
    have ih := placeI_at (xs := xs) (n := n) (i := i) (by simpa using h) (fun j hj => by simpa using hb (j + 1) (by omega)) (by simpa using he)
    simp only [placeI]
    rw [if_neg h0, ih, if_neg (by omega)]
    omega
theorem placeI_no : ∀ {xs : List IDV} {n : IDV}, (∀ j, j < xs.length → xs[j]? ≠ some n) → placeI xs n = -1
  | [], _, _ => rfl
  | x :: xs, n, hb => by
    have h0 : x ≠ n := fun e => hb 0 (by simp) (by simp [e])
    have ih := placeI_no (xs := xs) (n := n) (fun j hj => by simpa using hb (j + 1) (by simpa using hj))
    simp only [placeI]
    rw [if_neg h0, ih, if_pos (by omega)]
theorem placeI_mem : ∀ {xs : List IDV} {n : IDV}, 0 ≤ placeI xs n ↔ n ∈ xs
  | [], _ => by simp [placeI]
  | x :: xs, n => by
    have ih := placeI_mem (xs := xs) (n := n)
    have := placeI_ge xs n
    simp only [placeI, List.mem_cons]
    by_cases h : x = n
    · simp [h]
    · rw [if_neg h]
      have h' : ¬ n = x := fun e => h e.symm
      simp only [h', false_or]
      by_cases h2 : placeI xs n < 0
      · rw [if_pos h2]
        constructor
        · intro h; omega
        · intro h; have := ih.2 h; omega
      · rw [if_neg h2]
        constructor
        · intro _; exact ih.1 (by omega)
        · intro _; omega

theorem index_spec (v : Value) (xs : List IDV) (n : IDV) (w : World) (hr : Row w v xs.length (fI xs)) (hl : xs.length < 4611686018427387904) :
    Calls Try.prog 68 [v, .agg (cI n).toArray].toArray w fun r w' => r = .returned (.int .i64 (placeI xs n)) ∧ Bel w w' := by
  obtain ⟨a, c, rfl, hc, _⟩ := id hr
  refine calls_of_J (args := [.slice a xs.length c, .agg (cI n).toArray]) (e := [(0, .slice a xs.length c), (1, .agg (cI n).toArray)]) Try.func68 rfl rfl ⟨rfl, rfl, trivial⟩ (St.start w) ?_
  refine JC.seq (fun K0 hK0 => ?_)
  refine JC.region ?_
  refine J.box rfl rfl rfl (fun b3 => ?_)
  refine J.assign rfl rfl ?_
  refine J.nil ?_
  refine JX.thenN (hK0 _ _ ?_)
  refine JC.seq (fun K1 hK1 => ?_)
  refine JC.seq (fun K2 hK2 => ?_)
  refine JC.region ?_
  refine J.move rfl rfl ?_
  refine J.lenS rfl Ty.u24 rfl rfl ?_
  refine J.move rfl rfl ?_
  refine J.nil ?_
  refine JX.thenN (hK2 _ _ ?_)
  refine JC.block ?_
  refine JC.conseq (JC.cov (f := (fun i => [(0, .slice a xs.length c), (3, .pointer (some ⟨b3, 0, none⟩)), (6, .slice a xs.length c), (7, .int .i64 ((xs.length : Nat) : Int)), (8, .int .i64 ((i : Nat) : Int))]) 0) ⟨rfl, rfl, rfl, rfl, rfl, trivial⟩ (JC.loop (α := Nat) (fun i => [(0, .slice a xs.length c), (3, .pointer (some ⟨b3, 0, none⟩)), (6, .slice a xs.length c), (7, .int .i64 ((xs.length : Nat) : Int)), (8, .int .i64 ((i : Nat) : Int))]) (fun i w' => (i ≤ xs.length ∧ ∀ j, j < i → xs[j]? ≠ some n) ∧ St w [] [(b3, cb (cI n) 23)] w') (fun i => xs.length - i) 0 (fun i => ?_))) (fun w hw => ⟨⟨Nat.zero_le _, by omega⟩, hw⟩)
  refine JC.pr (fun hx => ?_)
  obtain ⟨hi, hpre⟩ := hx
  refine JC.seq (fun K3 hK3 => ?_)
  refine JC.region ?_
  refine J.bin rfl rfl rfl rfl ?_
  refine J.nil ?_
  refine JX.thenN (hK3 _ _ ?_)
  refine JC.seq (fun K4 hK4 => ?_)
  refine JC.cond rfl (fun h0 => ?_) (fun h0 => ?_)
  · skip
    have hlt : i < xs.length := by simp at h0; omega
    have hfl := fI_length xs
    have hcl := (Row.some hr (by omega))
    obtain ⟨b, o, c', hqe, _, _⟩ := hcl
    simp only [Value.slice.injEq] at hqe
    obtain ⟨rfl, _, rfl⟩ := hqe
    refine JC.skip ?_
    refine JX.thenN (hK4 _ _ ?_)
    refine JC.seq (fun K5 hK5 => ?_)
    refine JC.block ?_
    refine JC.seq (fun K6 hK6 => ?_)
    refine JC.region ?_
    refine J.move rfl rfl ?_
    refine J.assign rfl rfl ?_
    refine J.nil ?_
    refine JX.thenN (hK6 _ _ ?_)
    refine JC.seq (fun K7 hK7 => ?_)
    apply JC.drawL 6 [Eqv (.agg (cI n).toArray), Eqv (.slice (some ⟨b, o, none⟩) xs.length c), Eqv (.int .i64 ((i : Nat) : Int)), Eqv (.pointer (some ⟨b, o + (i : Int).toNat * 16, none⟩)), Eqv (.agg (cI xs[i]).toArray), Eqv (.bool (decide (n = xs[i])))] Ty.mixed rfl rfl rfl (by kernel_rfl) rfl rfl (fun w w' hw hb => hw.step hb) ⟨fun _ _ _ h _ => h, fun _ _ _ h _ => h, fun _ _ _ h _ => h, fun _ _ _ h _ => h, fun _ _ _ h _ => h, fun _ _ _ h _ => h, trivial⟩ ?hstep ?htail
    case hstep =>
      refine ⟨fun wi => ?_, fun wi => ?_, fun wi => ?_, fun wi => ?_, fun wi => ?_, fun wi => ?_, trivial⟩
      · skip
        refine Fin.nil ?_
        refine J.loadA (vs := cI n) Ty.a23 Ty.s23 rfl rfl (fun w hw => Cells.of_block (hw.2.own (_, _) (by repeat first | exact .head _ | apply List.Mem.tail | apply List.mem_append_right)) (by exact rfl)) rfl ?_
        exact J.finP rfl
      · skip
        refine Fin.nil ?_
        refine J.move rfl rfl ?_
        exact J.finP rfl
      · skip
        refine Fin.nil ?_
        refine J.move rfl rfl ?_
        exact J.finP rfl
      · skip
        refine Fin.consE rfl (Fin.consE rfl (Fin.nil ?_))
        refine J.indexAddrS Ty.el24 Ty.s23 rfl rfl (by omega) (by omega) rfl ?_
        exact J.finP rfl
      · skip
        refine Fin.consE rfl (Fin.nil ?_)
        refine J.loadA (vs := cI xs[i]) Ty.a23 Ty.s23 rfl rfl (fun w1 hw => rowF_at (hr.below hw.2.below) (List.getElem?_eq_getElem hlt) (by omega)) rfl ?_
        exact J.finP rfl
      · skip
        refine Fin.consE rfl (Fin.consE rfl (Fin.nil ?_))
        refine J.eqI Ty.QI Ty.keyI rfl rfl rfl ?_
        exact J.finP rfl
    case htail =>
      refine Fin.consE rfl (Fin.consE rfl (Fin.consE rfl (Fin.consE rfl (Fin.consE rfl (Fin.consE rfl (Fin.nil ?_))))))
      refine J.nil ?_
      refine JX.thenN (hK7 _ _ ?_)
      refine JC.cond rfl (fun h1 => ?_) (fun h1 => ?_)
      · skip
        have he : xs[i] = n := by simp at h1; exact h1.symm
        refine JC.seq (fun K8 hK8 => ?_)
        refine JC.region ?_
        refine J.move rfl rfl ?_
        refine J.assign rfl rfl ?_
        refine J.nil ?_
        refine JX.thenN (hK8 _ _ ?_)
        refine JC.ret ?_
        refine JX.blockR ?_
        refine JX.thenR ?_
        refine JX.thenR ?_
        refine JX.blockR ?_
        refine JX.thenR ?_
        refine JX.ret1 rfl rfl (fun w hw => ?_)
        first | exact ⟨by rw [placeI_at hlt hpre he], hw.below⟩ | exact ⟨by rw [placeI_no (by rw [← hge]; exact hpre)], hw.below⟩
      · skip
        have hne : ¬ xs[i] = n := fun e => by simp [e] at h1
        refine JC.skip ?_
        refine JX.blockN ?_
        refine JX.thenN (hK5 _ _ ?_)
        refine JC.region ?_
        (first | refine J.addN rfl rfl (by omega) (by omega) rfl ?_ | refine J.bin rfl rfl rfl rfl ?_)
        refine J.move rfl rfl ?_
        refine J.nil ?_
        refine JX.thenN ?_
        refine JX.again (i + 1) ?_ ?_ ?_
        · omega
        · exact ⟨rfl, rfl, rfl, rfl, rfl, trivial⟩
        · exact fun w1 hw => ⟨⟨hlt, fun j hj => by
          rcases Nat.lt_or_ge j i with h | h
          · exact hpre j h
          · have : j = i := by omega
            subst this
            rw [List.getElem?_eq_getElem hlt]; simp; exact hne⟩, hw⟩
  · skip
    have hge : i = xs.length := by simp at h0; omega
    refine JC.exit ?_
    refine JX.thenE ?_
    refine JX.thenE ?_
    refine JX.blockE ?_
    refine JX.thenN (hK1 _ _ ?_)
    refine JC.seq (fun K9 hK9 => ?_)
    refine JC.region ?_
    refine J.assign rfl rfl ?_
    refine J.nil ?_
    refine JX.thenN (hK9 _ _ ?_)
    refine JC.ret ?_
    refine JX.ret1 rfl rfl (fun w hw => ?_)
    first | exact ⟨by rw [placeI_at hlt hpre he], hw.below⟩ | exact ⟨by rw [placeI_no (by rw [← hge]; exact hpre)], hw.below⟩

theorem contains_spec (v : Value) (xs : List IDV) (n : IDV) (w : World) (hr : Row w v xs.length (fI xs)) (hl : xs.length < 4611686018427387904) :
    Calls Try.prog 47 [v, .agg (cI n).toArray].toArray w fun r w' => r = .returned (.bool (decide (n ∈ xs))) ∧ Bel w w' := by
  refine calls_of_J (args := [v, .agg (cI n).toArray]) (e := [(0, v), (1, .agg (cI n).toArray)]) Try.func47 rfl rfl ⟨rfl, rfl, trivial⟩ (St.start w) ?_
  refine JC.seq (fun K0 hK0 => ?_)
  refine JC.region ?_
  refine J.box rfl rfl rfl (fun b3 => ?_)
  refine J.assign rfl rfl ?_
  refine J.nil ?_
  refine JX.thenN (hK0 _ _ ?_)
  refine JC.seq (fun K1 hK1 => ?_)
  refine JC.region ?_
  refine J.move rfl rfl ?_
  refine J.loadOA (vs := cI n) Ty.a23 Ty.s23 rfl (by repeat first | exact .head _ | apply List.Mem.tail | apply List.mem_append_right) (by exact rfl) rfl rfl ?_
  refine J.callB (v := .int .i64 (placeI xs n)) (fun w1 w2 hw hb => hw.step hb) Ty.bd68 rfl rfl (fun w1 hw => index_spec v xs n w1 (hr.below hw.below) hl) ?_
  refine J.bin rfl rfl rfl rfl ?_
  refine J.assign rfl rfl ?_
  refine J.nil ?_
  refine JX.thenN (hK1 _ _ ?_)
  refine JC.ret ?_
  refine JX.ret1 rfl rfl (fun w hw => ?_)
  refine ⟨?_, hw.below⟩
  rw [show decide (placeI xs n ≥ 0) = decide (n ∈ xs) from decide_eq_decide.2 placeI_mem]

theorem has_spec (v : Value) (xs : List IDV) (n : IDV) (w : World) (hr : Row w v xs.length (fI xs)) (hl : xs.length < 4611686018427387904) :
    Calls Try.prog 53 [v, .agg (cI n).toArray].toArray w fun r w' => r = .returned (.bool (decide (n ∈ xs))) ∧ Bel w w' := by
  refine calls_of_J (args := [v, .agg (cI n).toArray]) (e := [(0, v), (1, .agg (cI n).toArray)]) Try.func53 rfl rfl ⟨rfl, rfl, trivial⟩ (St.start w) ?_
  refine JC.seq (fun K0 hK0 => ?_)
  refine JC.region ?_
  refine J.box rfl rfl rfl (fun b3 => ?_)
  refine J.assign rfl rfl ?_
  refine J.nil ?_
  refine JX.thenN (hK0 _ _ ?_)
  refine JC.seq (fun K1 hK1 => ?_)
  refine JC.region ?_
  refine J.move rfl rfl ?_
  refine J.loadOA (vs := cI n) Ty.a23 Ty.s23 rfl (by repeat first | exact .head _ | apply List.Mem.tail | apply List.mem_append_right) (by exact rfl) rfl rfl ?_
  refine J.callB (v := .bool (decide (n ∈ xs))) (fun w1 w2 hw hb => hw.step hb) Ty.bd47 rfl rfl (fun w1 hw => contains_spec v xs n w1 (hr.below hw.below) hl) ?_
  refine J.assign rfl rfl ?_
  refine J.nil ?_
  refine JX.thenN (hK1 _ _ ?_)
  refine JC.ret ?_
  refine JX.ret1 rfl rfl (fun w hw => ?_)
  exact ⟨rfl, hw.below⟩

end Go.Proofs.Ytbafhclandendaa
