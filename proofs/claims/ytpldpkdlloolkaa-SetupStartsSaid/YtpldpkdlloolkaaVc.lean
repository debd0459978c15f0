/-
  The document's Place, Simple, Open: contracts.
-/
import Derived.Test.YtpldpkdlloolkaaTt
import Derived.Test.YtpldpkdlloolkaaVb
namespace Go.Proofs.Ytpldpkdlloolkaa
open Go.J Go.RowKit
set_option linter.unusedVariables false
set_option linter.unusedSimpArgs false
set_option maxRecDepth 4000
theorem place_min : ∀ {xs : List Int} {n : Int} {j : Nat}, xs[j]? = some n → placeP xs n ≤ j ∧ 0 ≤ placeP xs n
  | [], _, _, h => by simp at h
  | x :: xs, n, 0, h => by
    have : x = n := by simpa using h
    simp [placeP, this]
  | x :: xs, n, j + 1, h => by
    have ih := place_min (xs := xs) (n := n) (j := j) (by simpa using h)
    simp only [placeP]
    split
    · omega
    · split <;> omega
theorem place_self {xs : List Int} {i : Nat} (h : i < xs.length) (hm : xs[i] ∉ xs.take i) : placeP xs xs[i] = i := by
  refine place_at h (fun j hj e => hm ?_) rfl
  obtain ⟨hjl, hje⟩ := List.getElem?_eq_some_iff.1 e
  rw [← hje]
  exact List.mem_take_iff_getElem.2 ⟨j, by omega, rfl⟩
theorem place_self' {xs : List Int} {i : Nat} (h : i < xs.length) (hm : xs[i] ∈ xs.take i) : placeP xs xs[i] ≠ i := by
  obtain ⟨j, hj, hje⟩ := List.mem_take_iff_getElem.1 hm
  have := place_min (xs := xs) (n := xs[i]) (j := j) (by rw [List.getElem?_eq_getElem (by omega), hje])
  omega

theorem place11_spec (v : Value) (xs : List Int) (n : Int) (w : World) (hr : Row w v xs.length (xs.map iV)) (hl : xs.length < 4611686018427387904) :
    Calls Try.prog 21 [v, .int .i64 n].toArray w fun r w' => r = .returned (.int .i64 (placeP xs n)) ∧ Bel w w' := by
  obtain ⟨a, c, rfl, hc, _⟩ := id hr
  refine calls_of_J (args := [.slice a xs.length c, .int .i64 n]) (e := [(0, .slice a xs.length c), (1, .int .i64 n)]) Try.func21 rfl rfl ⟨rfl, rfl, trivial⟩ (St.start w) ?_
  refine JC.seq (fun K0 hK0 => ?_)
  refine JC.region ?_
  refine J.assign rfl rfl ?_
  refine J.nil ?_
  refine JX.thenN (hK0 _ _ ?_)
  refine JC.seq (fun K1 hK1 => ?_)
  refine JC.seq (fun K2 hK2 => ?_)
  refine JC.region ?_
  refine J.assign rfl rfl ?_
  refine J.nil ?_
  refine JX.thenN (hK2 _ _ ?_)
  refine JC.block ?_
  refine JC.conseq (JC.cov (f := (fun i => [(0, .slice a xs.length c), (1, iV n), (5, iV ((i : Nat) : Int))]) 0) ⟨rfl, rfl, rfl, trivial⟩ (JC.loop (α := Nat) (fun i => [(0, .slice a xs.length c), (1, iV n), (5, iV ((i : Nat) : Int))]) (fun i w' => (i ≤ xs.length ∧ ∀ j, j < i → xs[j]? ≠ some n) ∧ St w [] [] w') (fun i => xs.length - i) 0 (fun i => ?_))) (fun w hw => ⟨⟨Nat.zero_le _, by omega⟩, hw⟩)
  refine JC.pr (fun hx => ?_)
  obtain ⟨hi, hpre⟩ := hx
  refine JC.seq (fun K3 hK3 => ?_)
  refine JC.seq (fun K4 hK4 => ?_)
  refine JC.region ?_
  refine J.move rfl rfl ?_
  refine J.move rfl rfl ?_
  refine J.lenS rfl Ty.u26 rfl rfl ?_
  refine J.bin rfl rfl rfl rfl ?_
  refine J.nil ?_
  refine JX.thenN (hK4 _ _ ?_)
  refine JC.cond rfl (fun h0 => ?_) (fun h0 => ?_)
  · skip
    have hlt : i < xs.length := by simp at h0; omega
    have hcl := (Row.some hr (by simp; omega))
    obtain ⟨b, o, c', hqe, _, hcl⟩ := hcl
    simp only [Value.slice.injEq] at hqe
    obtain ⟨rfl, _, rfl⟩ := hqe
    have hcell : w.cell? ⟨b, o + i * 1, none⟩ = some (iV xs[i]) := hcl.get (i := i) (by rw [List.getElem?_map, List.getElem?_eq_getElem hlt]; rfl) (by omega)
    refine JC.skip ?_
    refine JX.thenN (hK3 _ _ ?_)
    refine JC.seq (fun K5 hK5 => ?_)
    refine JC.block ?_
    refine JC.seq (fun K6 hK6 => ?_)
    refine JC.region ?_
    refine J.move rfl rfl ?_
    refine J.move rfl rfl ?_
    refine J.indexAddrS Ty.el26 Ty.s3 rfl rfl (by omega) (by omega) rfl ?_
    refine J.loadR (v := iV xs[i]) Ty.a3 rfl hcell (by simp) rfl ?_
    refine J.move rfl rfl ?_
    refine J.bin rfl rfl rfl rfl ?_
    refine J.nil ?_
    refine JX.thenN (hK6 _ _ ?_)
    refine JC.cond rfl (fun h1 => ?_) (fun h1 => ?_)
    · skip
      have he : xs[i] = n := by simp at h1; exact h1
      refine JC.seq (fun K7 hK7 => ?_)
      refine JC.region ?_
      refine J.move rfl rfl ?_
      refine J.assign rfl rfl ?_
      refine J.nil ?_
      refine JX.thenN (hK7 _ _ ?_)
      refine JC.ret ?_
      refine JX.blockR ?_
      refine JX.thenR ?_
      refine JX.thenR ?_
      refine JX.blockR ?_
      refine JX.thenR ?_
      refine JX.ret1 rfl rfl (fun w hw => ?_)
      first | exact ⟨by rw [place_at hlt hpre he], hw.below⟩ | exact ⟨by rw [place_no (by rw [← hge]; exact hpre)], hw.below⟩
    · skip
      have hne : ¬ xs[i] = n := fun e => by simp [e] at h1
      refine JC.skip ?_
      refine JX.blockN ?_
      refine JX.thenN (hK5 _ _ ?_)
      refine JC.region ?_
      refine J.move rfl rfl ?_
      (first | refine J.addN rfl rfl (by omega) (by omega) rfl ?_ | refine J.bin rfl rfl rfl rfl ?_)
      refine J.assign rfl rfl ?_
      refine J.nil ?_
      refine JX.thenN ?_
      refine JX.again (i + 1) ?_ ?_ ?_
      · omega
      · exact ⟨rfl, rfl, rfl, trivial⟩
      · exact fun w1 hw => ⟨⟨hlt, fun j hj => by
        rcases Nat.lt_or_ge j i with h | h
        · exact hpre j h
        · have : j = i := by omega
          subst this
          rw [List.getElem?_eq_getElem hlt]; simp; exact hne⟩, hw⟩
  · skip
    have hge : i = xs.length := by simp at h0; omega
    refine JC.exit ?_
    refine JX.thenE ?_
    refine JX.thenE ?_
    refine JX.blockE ?_
    refine JX.thenN (hK1 _ _ ?_)
    refine JC.seq (fun K8 hK8 => ?_)
    refine JC.region ?_
    refine J.assign rfl rfl ?_
    refine J.nil ?_
    refine JX.thenN (hK8 _ _ ?_)
    refine JC.ret ?_
    refine JX.ret1 rfl rfl (fun w hw => ?_)
    first | exact ⟨by rw [place_at hlt hpre he], hw.below⟩ | exact ⟨by rw [place_no (by rw [← hge]; exact hpre)], hw.below⟩

theorem simple11_spec (v : Value) (xs : List Int) (w : World) (hr : Row w v xs.length (xs.map iV)) (hl : xs.length < 4611686018427387904) :
    Calls Try.prog 65 [v].toArray w fun r w' => r = .returned (.bool (decide xs.Nodup)) ∧ Bel w w' := by
  obtain ⟨a, c, rfl, hc, _⟩ := id hr
  refine calls_of_J (args := [.slice a xs.length c]) (e := [(0, .slice a xs.length c)]) Try.func65 rfl rfl ⟨rfl, trivial⟩ (St.start w) ?_
  refine JC.seq (fun K0 hK0 => ?_)
  refine JC.region ?_
  refine J.assign rfl rfl ?_
  refine J.nil ?_
  refine JX.thenN (hK0 _ _ ?_)
  refine JC.seq (fun K1 hK1 => ?_)
  refine JC.seq (fun K2 hK2 => ?_)
  refine JC.region ?_
  refine J.assign rfl rfl ?_
  refine J.nil ?_
  refine JX.thenN (hK2 _ _ ?_)
  refine JC.block ?_
  refine JC.conseq (JC.cov (f := (fun i => [(0, .slice a xs.length c), (3, iV ((i : Nat) : Int))]) 0) ⟨rfl, rfl, trivial⟩ (JC.loop (α := Nat) (fun i => [(0, .slice a xs.length c), (3, iV ((i : Nat) : Int))]) (fun i w' => (i ≤ xs.length ∧ (xs.take i).Nodup) ∧ St w [] [] w') (fun i => xs.length - i) 0 (fun i => ?_))) (fun w hw => ⟨⟨Nat.zero_le _, by simp⟩, hw⟩)
  refine JC.pr (fun hx => ?_)
  obtain ⟨hi, hpre⟩ := hx
  refine JC.seq (fun K3 hK3 => ?_)
  refine JC.seq (fun K4 hK4 => ?_)
  refine JC.region ?_
  refine J.move rfl rfl ?_
  refine J.move rfl rfl ?_
  refine J.lenS rfl Ty.u26 rfl rfl ?_
  refine J.bin rfl rfl rfl rfl ?_
  refine J.nil ?_
  refine JX.thenN (hK4 _ _ ?_)
  refine JC.cond rfl (fun h0 => ?_) (fun h0 => ?_)
  · skip
    have hlt : i < xs.length := by simp at h0; omega
    have hcl := (Row.some hr (by simp; omega))
    obtain ⟨b, o, c', hqe, _, hcl⟩ := hcl
    simp only [Value.slice.injEq] at hqe
    obtain ⟨rfl, _, rfl⟩ := hqe
    have hcell : w.cell? ⟨b, o + i * 1, none⟩ = some (iV xs[i]) := hcl.get (i := i) (by rw [List.getElem?_map, List.getElem?_eq_getElem hlt]; rfl) (by omega)
    refine JC.skip ?_
    refine JX.thenN (hK3 _ _ ?_)
    refine JC.seq (fun K5 hK5 => ?_)
    refine JC.block ?_
    refine JC.seq (fun K6 hK6 => ?_)
    refine JC.region ?_
    refine J.move rfl rfl ?_
    refine J.move rfl rfl ?_
    refine J.move rfl rfl ?_
    refine J.indexAddrS Ty.el26 Ty.s3 rfl rfl (by omega) (by omega) rfl ?_
    refine J.loadR (v := iV xs[i]) Ty.a3 rfl hcell (by simp) rfl ?_
    refine J.callB (v := .int .i64 (placeP xs xs[i])) (fun w1 w2 hw hb => hw.step hb) Ty.bd21 rfl rfl (fun w1 hw => place11_spec _ xs xs[i] w1 (hr.below hw.below) hl) ?_
    refine J.move rfl rfl ?_
    refine J.bin rfl rfl rfl rfl ?_
    refine J.nil ?_
    refine JX.thenN (hK6 _ _ ?_)
    refine JC.cond rfl (fun h1 => ?_) (fun h1 => ?_)
    · skip
      have hm : xs[i] ∈ xs.take i := Classical.byContradiction fun hm => by simp [place_self hlt hm] at h1
      refine JC.seq (fun K7 hK7 => ?_)
      refine JC.region ?_
      refine J.assign rfl rfl ?_
      refine J.nil ?_
      refine JX.thenN (hK7 _ _ ?_)
      refine JC.ret ?_
      refine JX.blockR ?_
      refine JX.thenR ?_
      refine JX.thenR ?_
      refine JX.blockR ?_
      refine JX.thenR ?_
      refine JX.ret1 rfl rfl (fun w hw => ?_)
      first | exact ⟨by rw [decide_eq_false (nodup_no hlt hm)], hw.below⟩ | exact ⟨by rw [decide_eq_true (show xs.Nodup by rw [hge, List.take_of_length_le (Nat.le_refl _)] at hpre; exact hpre)], hw.below⟩
    · skip
      have hm : xs[i] ∉ xs.take i := fun hm => by simp [place_self' hlt hm] at h1
      refine JC.skip ?_
      refine JX.blockN ?_
      refine JX.thenN (hK5 _ _ ?_)
      refine JC.region ?_
      refine J.move rfl rfl ?_
      (first | refine J.addN rfl rfl (by omega) (by omega) rfl ?_ | refine J.bin rfl rfl rfl rfl ?_)
      refine J.assign rfl rfl ?_
      refine J.nil ?_
      refine JX.thenN ?_
      refine JX.again (i + 1) ?_ ?_ ?_
      · omega
      · exact ⟨rfl, rfl, trivial⟩
      · exact fun w1 hw => ⟨⟨hlt, nodup_succ hlt hpre hm⟩, hw⟩
  · skip
    have hge : i = xs.length := by simp at h0; omega
    refine JC.exit ?_
    refine JX.thenE ?_
    refine JX.thenE ?_
    refine JX.blockE ?_
    refine JX.thenN (hK1 _ _ ?_)
    refine JC.seq (fun K8 hK8 => ?_)
    refine JC.region ?_
    refine J.assign rfl rfl ?_
    refine J.nil ?_
    refine JX.thenN (hK8 _ _ ?_)
    refine JC.ret ?_
    refine JX.ret1 rfl rfl (fun w hw => ?_)
    first | exact ⟨by rw [decide_eq_false (nodup_no hlt hm)], hw.below⟩ | exact ⟨by rw [decide_eq_true (show xs.Nodup by rw [hge, List.take_of_length_le (Nat.le_refl _)] at hpre; exact hpre)], hw.below⟩

theorem open14_spec (v : Value) (os : List Bool) (n : Int) (w : World) (hr : Row w v os.length (os.map bV)) (hl : os.length < 4611686018427387904) :
    Calls Try.prog 66 [v, .int .i64 n].toArray w fun r w' => r = .returned (.bool (openQ os n)) ∧ Bel w w' := by
  obtain ⟨a, c, rfl, hc, _⟩ := id hr
  refine calls_of_J (args := [.slice a os.length c, .int .i64 n]) (e := [(0, .slice a os.length c), (1, .int .i64 n)]) Try.func66 rfl rfl ⟨rfl, rfl, trivial⟩ (St.start w) ?_
  refine JC.seq (fun K0 hK0 => ?_)
  refine JC.region ?_
  refine J.assign rfl rfl ?_
  refine J.nil ?_
  refine JX.thenN (hK0 _ _ ?_)
  refine JC.seq (fun K1 hK1 => ?_)
  refine JC.region ?_
  refine J.move rfl rfl ?_
  refine J.bin rfl rfl rfl rfl ?_
  refine J.move rfl rfl ?_
  refine J.split 7 rfl (fun hs7 => ?_) (fun hs7 => ?_)
  · skip
    try simp only [decide_eq_true_eq, decide_eq_false_iff_not, beq_iff_eq, bne_iff_ne, bne_eq_false_iff_eq, ne_eq, beq_eq_false_iff_ne, Bool.not_eq_true, Bool.not_eq_false, Int.not_lt, Int.not_le] at hs7
    first
    | exact absurd hs7 (by decide)
    | skip
      first | refine J.skip rfl rfl rfl rfl rfl ?_ | refine J.skipU rfl rfl rfl rfl ?_ | (refine J.unguard rfl rfl rfl ?_; refine J.move rfl rfl ?_)
      first | refine J.skip rfl rfl rfl rfl rfl ?_ | refine J.skipU rfl rfl rfl rfl ?_ | (refine J.unguard rfl rfl rfl ?_; refine J.move rfl rfl ?_)
      first | refine J.skip rfl rfl rfl rfl rfl ?_ | refine J.skipU rfl rfl rfl rfl ?_ | (refine J.unguard rfl rfl rfl ?_; refine J.lenS rfl Ty.u28 rfl rfl ?_)
      first | refine J.skip rfl rfl rfl rfl rfl ?_ | refine J.skipU rfl rfl rfl rfl ?_ | (refine J.unguard rfl rfl rfl ?_; refine J.bin rfl rfl rfl rfl ?_)
      (first | refine J.pickT rfl rfl rfl ?_ | refine J.pickF rfl rfl rfl ?_)
      refine J.move rfl rfl ?_
      refine J.split 13 rfl (fun hs13 => ?_) (fun hs13 => ?_)
      · skip
        try simp only [decide_eq_true_eq, decide_eq_false_iff_not, beq_iff_eq, bne_iff_ne, bne_eq_false_iff_eq, ne_eq, beq_eq_false_iff_ne, Bool.not_eq_true, Bool.not_eq_false, Int.not_lt, Int.not_le] at hs13
        first
        | exact absurd hs13 (by decide)
        | skip
          first | refine J.skip rfl rfl rfl rfl rfl ?_ | refine J.skipU rfl rfl rfl rfl ?_ | (refine J.unguard rfl rfl rfl ?_; refine J.move rfl rfl ?_)
          first | refine J.skip rfl rfl rfl rfl rfl ?_ | refine J.skipU rfl rfl rfl rfl ?_ | (refine J.unguard rfl rfl rfl ?_; refine J.move rfl rfl ?_)
          first | refine J.skip rfl rfl rfl rfl rfl ?_ | refine J.skipU rfl rfl rfl rfl ?_ | (refine J.unguard rfl rfl rfl ?_; have hlt : n.toNat < os.length := (by omega); have hcl := (Row.some hr (by simp; omega)); obtain ⟨b, o, c', hqe, _, hcl⟩ := hcl; simp only [Value.slice.injEq] at hqe; obtain ⟨rfl, _, rfl⟩ := hqe; have hcell : w.cell? ⟨b, o + n.toNat * 1, none⟩ = some (bV os[n.toNat]) := hcl.get (i := n.toNat) (by rw [List.getElem?_map, List.getElem?_eq_getElem hlt]; rfl) (by omega); refine J.indexAddrS Ty.el28 Ty.s4 rfl rfl (by omega) (by omega) rfl ?_)
          first | refine J.skip rfl rfl rfl rfl rfl ?_ | refine J.skipU rfl rfl rfl rfl ?_ | (refine J.unguard rfl rfl rfl ?_; refine J.loadR (v := bV os[n.toNat]) Ty.a4 rfl hcell (by simp) rfl ?_)
          (first | refine J.pickT rfl rfl rfl ?_ | refine J.pickF rfl rfl rfl ?_)
          refine J.assign rfl rfl ?_
          refine J.nil ?_
          refine JX.thenN (hK1 _ _ ?_)
          refine JC.ret ?_
          refine JX.ret1 rfl rfl (fun w hw => ?_)
          refine ⟨?_, hw.below⟩
          first | (simp [openQ]; omega) | (simp_all [openQ]; done)
      · skip
        try simp only [decide_eq_true_eq, decide_eq_false_iff_not, beq_iff_eq, bne_iff_ne, bne_eq_false_iff_eq, ne_eq, beq_eq_false_iff_ne, Bool.not_eq_true, Bool.not_eq_false, Int.not_lt, Int.not_le] at hs13
        first
        | exact absurd hs13 (by decide)
        | skip
          first | refine J.skip rfl rfl rfl rfl rfl ?_ | refine J.skipU rfl rfl rfl rfl ?_ | (refine J.unguard rfl rfl rfl ?_; refine J.move rfl rfl ?_)
          first | refine J.skip rfl rfl rfl rfl rfl ?_ | refine J.skipU rfl rfl rfl rfl ?_ | (refine J.unguard rfl rfl rfl ?_; refine J.move rfl rfl ?_)
          first | refine J.skip rfl rfl rfl rfl rfl ?_ | refine J.skipU rfl rfl rfl rfl ?_ | (refine J.unguard rfl rfl rfl ?_; have hlt : n.toNat < os.length := (by omega); have hcl := (Row.some hr (by simp; omega)); obtain ⟨b, o, c', hqe, _, hcl⟩ := hcl; simp only [Value.slice.injEq] at hqe; obtain ⟨rfl, _, rfl⟩ := hqe; have hcell : w.cell? ⟨b, o + n.toNat * 1, none⟩ = some (bV os[n.toNat]) := hcl.get (i := n.toNat) (by rw [List.getElem?_map, List.getElem?_eq_getElem hlt]; rfl) (by omega); refine J.indexAddrS Ty.el28 Ty.s4 rfl rfl (by omega) (by omega) rfl ?_)
          first | refine J.skip rfl rfl rfl rfl rfl ?_ | refine J.skipU rfl rfl rfl rfl ?_ | (refine J.unguard rfl rfl rfl ?_; refine J.loadR (v := bV os[n.toNat]) Ty.a4 rfl hcell (by simp) rfl ?_)
          (first | refine J.pickT rfl rfl rfl ?_ | refine J.pickF rfl rfl rfl ?_)
          refine J.assign rfl rfl ?_
          refine J.nil ?_
          refine JX.thenN (hK1 _ _ ?_)
          refine JC.ret ?_
          refine JX.ret1 rfl rfl (fun w hw => ?_)
          refine ⟨?_, hw.below⟩
          first | (simp [openQ]; omega) | (simp_all [openQ]; done)
  · skip
    try simp only [decide_eq_true_eq, decide_eq_false_iff_not, beq_iff_eq, bne_iff_ne, bne_eq_false_iff_eq, ne_eq, beq_eq_false_iff_ne, Bool.not_eq_true, Bool.not_eq_false, Int.not_lt, Int.not_le] at hs7
    first
    | exact absurd hs7 (by decide)
    | skip
      first | refine J.skip rfl rfl rfl rfl rfl ?_ | refine J.skipU rfl rfl rfl rfl ?_ | (refine J.unguard rfl rfl rfl ?_; refine J.move rfl rfl ?_)
      first | refine J.skip rfl rfl rfl rfl rfl ?_ | refine J.skipU rfl rfl rfl rfl ?_ | (refine J.unguard rfl rfl rfl ?_; refine J.move rfl rfl ?_)
      first | refine J.skip rfl rfl rfl rfl rfl ?_ | refine J.skipU rfl rfl rfl rfl ?_ | (refine J.unguard rfl rfl rfl ?_; refine J.lenS rfl Ty.u28 rfl rfl ?_)
      first | refine J.skip rfl rfl rfl rfl rfl ?_ | refine J.skipU rfl rfl rfl rfl ?_ | (refine J.unguard rfl rfl rfl ?_; refine J.bin rfl rfl rfl rfl ?_)
      (first | refine J.pickT rfl rfl rfl ?_ | refine J.pickF rfl rfl rfl ?_)
      refine J.move rfl rfl ?_
      refine J.split 13 rfl (fun hs13 => ?_) (fun hs13 => ?_)
      · skip
        try simp only [decide_eq_true_eq, decide_eq_false_iff_not, beq_iff_eq, bne_iff_ne, bne_eq_false_iff_eq, ne_eq, beq_eq_false_iff_ne, Bool.not_eq_true, Bool.not_eq_false, Int.not_lt, Int.not_le] at hs13
        first
        | exact absurd hs13 (by decide)
        | skip
          first | refine J.skip rfl rfl rfl rfl rfl ?_ | refine J.skipU rfl rfl rfl rfl ?_ | (refine J.unguard rfl rfl rfl ?_; refine J.move rfl rfl ?_)
          first | refine J.skip rfl rfl rfl rfl rfl ?_ | refine J.skipU rfl rfl rfl rfl ?_ | (refine J.unguard rfl rfl rfl ?_; refine J.move rfl rfl ?_)
          first | refine J.skip rfl rfl rfl rfl rfl ?_ | refine J.skipU rfl rfl rfl rfl ?_ | (refine J.unguard rfl rfl rfl ?_; have hlt : n.toNat < os.length := (by omega); have hcl := (Row.some hr (by simp; omega)); obtain ⟨b, o, c', hqe, _, hcl⟩ := hcl; simp only [Value.slice.injEq] at hqe; obtain ⟨rfl, _, rfl⟩ := hqe; have hcell : w.cell? ⟨b, o + n.toNat * 1, none⟩ = some (bV os[n.toNat]) := hcl.get (i := n.toNat) (by rw [List.getElem?_map, List.getElem?_eq_getElem hlt]; rfl) (by omega); refine J.indexAddrS Ty.el28 Ty.s4 rfl rfl (by omega) (by omega) rfl ?_)
          first | refine J.skip rfl rfl rfl rfl rfl ?_ | refine J.skipU rfl rfl rfl rfl ?_ | (refine J.unguard rfl rfl rfl ?_; refine J.loadR (v := bV os[n.toNat]) Ty.a4 rfl hcell (by simp) rfl ?_)
          (first | refine J.pickT rfl rfl rfl ?_ | refine J.pickF rfl rfl rfl ?_)
          refine J.assign rfl rfl ?_
          refine J.nil ?_
          refine JX.thenN (hK1 _ _ ?_)
          refine JC.ret ?_
          refine JX.ret1 rfl rfl (fun w hw => ?_)
          refine ⟨?_, hw.below⟩
          first | (simp [openQ]; omega) | (simp_all [openQ]; done)
      · skip
        try simp only [decide_eq_true_eq, decide_eq_false_iff_not, beq_iff_eq, bne_iff_ne, bne_eq_false_iff_eq, ne_eq, beq_eq_false_iff_ne, Bool.not_eq_true, Bool.not_eq_false, Int.not_lt, Int.not_le] at hs13
        first
        | exact absurd hs13 (by decide)
        | skip
          first | refine J.skip rfl rfl rfl rfl rfl ?_ | refine J.skipU rfl rfl rfl rfl ?_ | (refine J.unguard rfl rfl rfl ?_; refine J.move rfl rfl ?_)
          first | refine J.skip rfl rfl rfl rfl rfl ?_ | refine J.skipU rfl rfl rfl rfl ?_ | (refine J.unguard rfl rfl rfl ?_; refine J.move rfl rfl ?_)
          first | refine J.skip rfl rfl rfl rfl rfl ?_ | refine J.skipU rfl rfl rfl rfl ?_ | (refine J.unguard rfl rfl rfl ?_; have hlt : n.toNat < os.length := (by omega); have hcl := (Row.some hr (by simp; omega)); obtain ⟨b, o, c', hqe, _, hcl⟩ := hcl; simp only [Value.slice.injEq] at hqe; obtain ⟨rfl, _, rfl⟩ := hqe; have hcell : w.cell? ⟨b, o + n.toNat * 1, none⟩ = some (bV os[n.toNat]) := hcl.get (i := n.toNat) (by rw [List.getElem?_map, List.getElem?_eq_getElem hlt]; rfl) (by omega); refine J.indexAddrS Ty.el28 Ty.s4 rfl rfl (by omega) (by omega) rfl ?_)
          first | refine J.skip rfl rfl rfl rfl rfl ?_ | refine J.skipU rfl rfl rfl rfl ?_ | (refine J.unguard rfl rfl rfl ?_; refine J.loadR (v := bV os[n.toNat]) Ty.a4 rfl hcell (by simp) rfl ?_)
          (first | refine J.pickT rfl rfl rfl ?_ | refine J.pickF rfl rfl rfl ?_)
          refine J.assign rfl rfl ?_
          refine J.nil ?_
          refine JX.thenN (hK1 _ _ ?_)
          refine JC.ret ?_
          refine JX.ret1 rfl rfl (fun w hw => ?_)
          refine ⟨?_, hw.below⟩
          first | (simp [openQ]; omega) | (simp_all [openQ]; done)

end Go.Proofs.Ytpldpkdlloolkaa
