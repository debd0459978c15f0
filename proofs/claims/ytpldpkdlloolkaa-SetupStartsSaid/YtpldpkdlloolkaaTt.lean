/-
  What the functions of package trail do, and whether a place is open: contracts.
-/
import Derived.Test.YtpldpkdlloolkaaTk
import Derived.Test.YtpldpkdlloolkaaMb
namespace Go.Proofs.Ytpldpkdlloolkaa
open Go.J Go.RowKit
set_option linter.unusedVariables false
set_option linter.unusedSimpArgs false
set_option maxRecDepth 4000
abbrev iV (n : Int) : Value := .int .i64 n
abbrev bV (b : Bool) : Value := .bool b
/-- where a place stands first -/
def placeP : List Int → Int → Int
  | [], _ => -1
  | x :: xs, n => if x = n then 0 else if placeP xs n < 0 then -1 else placeP xs n + 1
theorem place_ge : ∀ (xs : List Int) (n : Int), -1 ≤ placeP xs n
  | [], _ => by simp [placeP]
  | x :: xs, n => by
    have := place_ge xs n
    simp only [placeP]
    split
    · omega
    · split <;> omega
theorem place_at : ∀ {xs : List Int} {n : Int} {i : Nat} (h : i < xs.length), (∀ j, j < i → xs[j]? ≠ some n) → xs[i] = n → placeP xs n = (i : Int)
  | x :: xs, n, 0, _, _, he => by
    have : x = n := he
    simp [placeP, this]
  | x :: xs, n, i + 1, h, hb, he => by
    have h0 : x ≠ n := fun e => hb 0 (by omega) (by simp [e])
    have ih := place_at (xs := xs) (n := n) (i := i) (by simpa using h) (fun j hj => by simpa using hb (j + 1) (by omega)) (by simpa using he)
    simp only [placeP]
    rw [if_neg h0, ih, if_neg (by omega)]
    omega
theorem place_no : ∀ {xs : List Int} {n : Int}, (∀ j, j < xs.length → xs[j]? ≠ some n) → placeP xs n = -1
  | [], _, _ => rfl
  | x :: xs, n, hb => by
    have h0 : x ≠ n := fun e => hb 0 (by simp) (by simp [e])
    have ih := place_no (xs := xs) (n := n) (fun j hj => by simpa using hb (j + 1) (by simpa using hj))
    simp only [placeP]
    rw [if_neg h0, ih, if_pos (by omega)]
theorem place_mem : ∀ {xs : List Int} {n : Int}, 0 ≤ placeP xs n ↔ n ∈ xs
  | [], _ => by simp [placeP]
  | x :: xs, n => by
    have ih := place_mem (xs := xs) (n := n)
    have := place_ge xs n
    simp only [placeP, List.mem_cons]
    by_cases h : x = n
    · simp [h]
    · rw [if_neg h]
      have h' : ¬ n = x := fun e => h e.symm
      simp only [h', false_or]
      by_cases h2 : placeP xs n < 0
      · rw [if_pos h2]
        constructor
        · intro h; omega
        · intro h; have := ih.2 h; omega
      · rw [if_neg h2]
        constructor
        · intro _; exact ih.1 (by omega)
        · intro _; omega
theorem place_get : ∀ {xs : List Int} {n : Int}, 0 ≤ placeP xs n → xs[(placeP xs n).toNat]? = some n
  | [], _, h => by simp [placeP] at h
  | x :: xs, n, h => by
    simp only [placeP] at h ⊢
    by_cases h0 : x = n
    · simp [h0]
    · rw [if_neg h0] at h ⊢
      by_cases h2 : placeP xs n < 0
      · rw [if_pos h2] at h; omega
      · rw [if_neg h2]
        have ih := place_get (xs := xs) (n := n) (by omega)
        rw [show (placeP xs n + 1).toNat = (placeP xs n).toNat + 1 by omega]
        simpa using ih
theorem place_lt {xs : List Int} {n : Int} (h : 0 ≤ placeP xs n) : (placeP xs n).toNat < xs.length := (List.getElem?_eq_some_iff.1 (place_get h)).1
theorem nodup_succ {xs : List Int} {i : Nat} (h : i < xs.length) (hn : (xs.take i).Nodup) (hm : xs[i] ∉ xs.take i) : (xs.take (i + 1)).Nodup := by
  rw [take_add_one h, List.nodup_append]
  refine ⟨hn, by simp, ?_⟩
  intro a ha b hb
  simp at hb
  subst hb
  exact fun e => hm (e ▸ ha)
theorem nodup_no {xs : List Int} {i : Nat} (h : i < xs.length) (hm : xs[i] ∈ xs.take i) : ¬ xs.Nodup := by
  intro hn
  have h1 : (xs.take (i + 1)).Nodup := hn.sublist (List.take_sublist _ _)
  rw [take_add_one h, List.nodup_append] at h1
  exact h1.2.2 _ hm _ (by simp) rfl
/-- is a place open? -/
def openQ (os : List Bool) (n : Int) : Bool := decide (0 ≤ n) && (os[n.toNat]?).getD false

theorem index_spec (v : Value) (xs : List Int) (n : Int) (w : World) (hr : Row w v xs.length (xs.map iV)) (hl : xs.length < 4611686018427387904) :
    Calls Try.prog 70 [v, .int .i64 n].toArray w fun r w' => r = .returned (.int .i64 (placeP xs n)) ∧ Bel w w' := by
  obtain ⟨a, c, rfl, hc, _⟩ := id hr
  refine calls_of_J (args := [.slice a xs.length c, .int .i64 n]) (e := [(0, .slice a xs.length c), (1, .int .i64 n)]) Try.func70 rfl rfl ⟨rfl, rfl, trivial⟩ (St.start w) ?_
  refine JC.seq (fun K0 hK0 => ?_)
  refine JC.region ?_
  refine J.assign rfl rfl ?_
  refine J.nil ?_
  refine JX.thenN (hK0 _ _ ?_)
  refine JC.seq (fun K1 hK1 => ?_)
  refine JC.seq (fun K2 hK2 => ?_)
  refine JC.region ?_
  refine J.move rfl rfl ?_
  refine J.lenS rfl Ty.u26 rfl rfl ?_
  refine J.move rfl rfl ?_
  refine J.nil ?_
  refine JX.thenN (hK2 _ _ ?_)
  refine JC.block ?_
  refine JC.conseq (JC.cov (f := (fun i => [(0, .slice a xs.length c), (1, iV n), (6, .slice a xs.length c), (7, iV ((xs.length : Nat) : Int)), (8, iV ((i : Nat) : Int))]) 0) ⟨rfl, rfl, rfl, rfl, rfl, trivial⟩ (JC.loop (α := Nat) (fun i => [(0, .slice a xs.length c), (1, iV n), (6, .slice a xs.length c), (7, iV ((xs.length : Nat) : Int)), (8, iV ((i : Nat) : Int))]) (fun i w' => (i ≤ xs.length ∧ ∀ j, j < i → xs[j]? ≠ some n) ∧ St w [] [] w') (fun i => xs.length - i) 0 (fun i => ?_))) (fun w hw => ⟨⟨Nat.zero_le _, by omega⟩, hw⟩)
  refine JC.pr (fun hx => ?_)
  obtain ⟨hi, hpre⟩ := hx
  refine JC.seq (fun K3 hK3 => ?_)
  refine JC.region ?_
  refine J.bin rfl rfl rfl rfl ?_
  refine J.nil ?_
  refine JX.thenN (hK3 _ _ ?_)
  refine JC.seq (fun K4 hK4 => ?_)
  refine JC.cond rfl (fun h0 => ?_) (fun h0 => ?_)
  · skip
    have hlt : i < xs.length := by simp at h0; omega
    have hcl := (Row.some hr (by simp; omega))
    obtain ⟨b, o, c', hqe, _, hcl⟩ := hcl
    simp only [Value.slice.injEq] at hqe
    obtain ⟨rfl, _, rfl⟩ := hqe
    have hcell : w.cell? ⟨b, o + i * 1, none⟩ = some (iV xs[i]) := hcl.get (i := i) (by rw [List.getElem?_map, List.getElem?_eq_getElem hlt]; rfl) (by omega)
    refine JC.skip ?_
    refine JX.thenN (hK4 _ _ ?_)
    refine JC.seq (fun K5 hK5 => ?_)
    refine JC.block ?_
    refine JC.seq (fun K6 hK6 => ?_)
    refine JC.region ?_
    refine J.move rfl rfl ?_
    refine J.assign rfl rfl ?_
    refine J.nil ?_
    refine JX.thenN (hK6 _ _ ?_)
    refine JC.seq (fun K7 hK7 => ?_)
    refine JC.region ?_
    refine J.move rfl rfl ?_
    refine J.move rfl rfl ?_
    refine J.move rfl rfl ?_
    refine J.indexAddrS Ty.el26 Ty.s3 rfl rfl (by omega) (by omega) rfl ?_
    refine J.loadR (v := iV xs[i]) Ty.a3 rfl hcell (by simp) rfl ?_
    refine J.bin rfl rfl rfl rfl ?_
    refine J.nil ?_
    refine JX.thenN (hK7 _ _ ?_)
    refine JC.cond rfl (fun h1 => ?_) (fun h1 => ?_)
    · skip
      have he : xs[i] = n := by simp at h1; exact h1.symm
      refine JC.seq (fun K8 hK8 => ?_)
      refine JC.region ?_
      refine J.move rfl rfl ?_
      refine J.assign rfl rfl ?_
      refine J.nil ?_
      refine JX.thenN (hK8 _ _ ?_)
      refine JC.ret ?_
      refine JX.blockR ?_
      refine JX.thenR ?_
      refine JX.thenR ?_
      refine JX.blockR ?_
      refine JX.thenR ?_
      refine JX.ret1 rfl rfl (fun w hw => ?_)
      first | exact ⟨by rw [place_at hlt hpre he], hw.below⟩ | exact ⟨by rw [place_no (by rw [← hge]; exact hpre)], hw.below⟩
    · skip
      have hne : ¬ xs[i] = n := fun e => by simp [e] at h1
      refine JC.skip ?_
      refine JX.blockN ?_
      refine JX.thenN (hK5 _ _ ?_)
      refine JC.region ?_
      (first | refine J.addN rfl rfl (by omega) (by omega) rfl ?_ | refine J.bin rfl rfl rfl rfl ?_)
      refine J.move rfl rfl ?_
      refine J.nil ?_
      refine JX.thenN ?_
      refine JX.again (i + 1) ?_ ?_ ?_
      · omega
      · exact ⟨rfl, rfl, rfl, rfl, rfl, trivial⟩
      · exact fun w1 hw => ⟨⟨hlt, fun j hj => by
        rcases Nat.lt_or_ge j i with h | h
        · exact hpre j h
        · have : j = i := by omega
          subst this
          rw [List.getElem?_eq_getElem hlt]; simp; exact hne⟩, hw⟩
  · skip
    have hge : i = xs.length := by simp at h0; omega
    refine JC.exit ?_
    refine JX.thenE ?_
    refine JX.thenE ?_
    refine JX.blockE ?_
    refine JX.thenN (hK1 _ _ ?_)
    refine JC.seq (fun K9 hK9 => ?_)
    refine JC.region ?_
    refine J.assign rfl rfl ?_
    refine J.nil ?_
    refine JX.thenN (hK9 _ _ ?_)
    refine JC.ret ?_
    refine JX.ret1 rfl rfl (fun w hw => ?_)
    first | exact ⟨by rw [place_at hlt hpre he], hw.below⟩ | exact ⟨by rw [place_no (by rw [← hge]; exact hpre)], hw.below⟩

theorem contains_spec (v : Value) (xs : List Int) (n : Int) (w : World) (hr : Row w v xs.length (xs.map iV)) (hl : xs.length < 4611686018427387904) :
    Calls Try.prog 68 [v, .int .i64 n].toArray w fun r w' => r = .returned (.bool (decide (n ∈ xs))) ∧ Bel w w' := by
  refine calls_of_J (args := [v, .int .i64 n]) (e := [(0, v), (1, .int .i64 n)]) Try.func68 rfl rfl ⟨rfl, rfl, trivial⟩ (St.start w) ?_
  refine JC.seq (fun K0 hK0 => ?_)
  refine JC.region ?_
  refine J.assign rfl rfl ?_
  refine J.nil ?_
  refine JX.thenN (hK0 _ _ ?_)
  refine JC.seq (fun K1 hK1 => ?_)
  refine JC.region ?_
  refine J.move rfl rfl ?_
  refine J.move rfl rfl ?_
  refine J.callB (v := .int .i64 (placeP xs n)) (fun w1 w2 hw hb => hw.step hb) Ty.bd70 rfl rfl (fun w1 hw => index_spec v xs n w1 (hr.below hw.below) hl) ?_
  refine J.bin rfl rfl rfl rfl ?_
  refine J.assign rfl rfl ?_
  refine J.nil ?_
  refine JX.thenN (hK1 _ _ ?_)
  refine JC.ret ?_
  refine JX.ret1 rfl rfl (fun w hw => ?_)
  refine ⟨?_, hw.below⟩
  rw [show decide (placeP xs n ≥ 0) = decide (n ∈ xs) from decide_eq_decide.2 place_mem]

theorem place_spec (v : Value) (xs : List Int) (n : Int) (w : World) (hr : Row w v xs.length (xs.map iV)) (hl : xs.length < 4611686018427387904) :
    Calls Try.prog 56 [v, .int .i64 n].toArray w fun r w' => r = .returned (.int .i64 (placeP xs n)) ∧ Bel w w' := by
  refine calls_of_J (args := [v, .int .i64 n]) (e := [(0, v), (1, .int .i64 n)]) Try.func56 rfl rfl ⟨rfl, rfl, trivial⟩ (St.start w) ?_
  refine JC.seq (fun K0 hK0 => ?_)
  refine JC.region ?_
  refine J.assign rfl rfl ?_
  refine J.nil ?_
  refine JX.thenN (hK0 _ _ ?_)
  refine JC.seq (fun K1 hK1 => ?_)
  refine JC.region ?_
  refine J.move rfl rfl ?_
  refine J.move rfl rfl ?_
  refine J.callB (v := .int .i64 (placeP xs n)) (fun w1 w2 hw hb => hw.step hb) Ty.bd70 rfl rfl (fun w1 hw => index_spec v xs n w1 (hr.below hw.below) hl) ?_
  refine J.assign rfl rfl ?_
  refine J.nil ?_
  refine JX.thenN (hK1 _ _ ?_)
  refine JC.ret ?_
  refine JX.ret1 rfl rfl (fun w hw => ?_)
  exact ⟨rfl, hw.below⟩

theorem simple_spec (v : Value) (xs : List Int) (w : World) (hr : Row w v xs.length (xs.map iV)) (hl : xs.length < 4611686018427387904) :
    Calls Try.prog 52 [v].toArray w fun r w' => r = .returned (.bool (decide xs.Nodup)) ∧ Bel w w' := by
  obtain ⟨a, c, rfl, hc, _⟩ := id hr
  refine calls_of_J (args := [.slice a xs.length c]) (e := [(0, .slice a xs.length c)]) Try.func52 rfl rfl ⟨rfl, trivial⟩ (St.start w) ?_
  refine JC.seq (fun K0 hK0 => ?_)
  refine JC.region ?_
  refine J.assign rfl rfl ?_
  refine J.nil ?_
  refine JX.thenN (hK0 _ _ ?_)
  refine JC.seq (fun K1 hK1 => ?_)
  refine JC.seq (fun K2 hK2 => ?_)
  refine JC.region ?_
  refine J.move rfl rfl ?_
  refine J.lenS rfl Ty.u26 rfl rfl ?_
  refine J.move rfl rfl ?_
  refine J.nil ?_
  refine JX.thenN (hK2 _ _ ?_)
  refine JC.block ?_
  refine JC.conseq (JC.cov (f := (fun i => [(0, .slice a xs.length c), (5, .slice a xs.length c), (6, iV ((xs.length : Nat) : Int)), (7, iV ((i : Nat) : Int))]) 0) ⟨rfl, rfl, rfl, rfl, trivial⟩ (JC.loop (α := Nat) (fun i => [(0, .slice a xs.length c), (5, .slice a xs.length c), (6, iV ((xs.length : Nat) : Int)), (7, iV ((i : Nat) : Int))]) (fun i w' => (i ≤ xs.length ∧ (xs.take i).Nodup) ∧ St w [] [] w') (fun i => xs.length - i) 0 (fun i => ?_))) (fun w hw => ⟨⟨Nat.zero_le _, by simp⟩, hw⟩)
  refine JC.pr (fun hx => ?_)
  obtain ⟨hi, hpre⟩ := hx
  refine JC.seq (fun K3 hK3 => ?_)
  refine JC.region ?_
  refine J.bin rfl rfl rfl rfl ?_
  refine J.nil ?_
  refine JX.thenN (hK3 _ _ ?_)
  refine JC.seq (fun K4 hK4 => ?_)
  refine JC.cond rfl (fun h0 => ?_) (fun h0 => ?_)
  · skip
    have hlt : i < xs.length := by simp at h0; omega
    have hcl := (Row.some hr (by simp; omega))
    obtain ⟨b, o, c', hqe, _, hcl⟩ := hcl
    simp only [Value.slice.injEq] at hqe
    obtain ⟨rfl, _, rfl⟩ := hqe
    have hcell : w.cell? ⟨b, o + i * 1, none⟩ = some (iV xs[i]) := hcl.get (i := i) (by rw [List.getElem?_map, List.getElem?_eq_getElem hlt]; rfl) (by omega)
    refine JC.skip ?_
    refine JX.thenN (hK4 _ _ ?_)
    refine JC.seq (fun K5 hK5 => ?_)
    refine JC.block ?_
    refine JC.seq (fun K6 hK6 => ?_)
    refine JC.region ?_
    refine J.move rfl rfl ?_
    refine J.indexAddrS Ty.el26 Ty.s3 rfl rfl (by omega) (by omega) rfl ?_
    refine J.loadR (v := iV xs[i]) Ty.a3 rfl hcell (by simp) rfl ?_
    refine J.assign rfl rfl ?_
    refine J.assign rfl rfl ?_
    refine J.nil ?_
    refine JX.thenN (hK6 _ _ ?_)
    refine JC.seq (fun K7 hK7 => ?_)
    refine JC.region ?_
    refine J.move rfl rfl ?_
    refine J.move rfl rfl ?_
    refine J.sliceS Ty.el26 Ty.s3 rfl rfl rfl rfl rfl (by omega) (by omega) (by omega) rfl ?_
    refine J.move rfl rfl ?_
    refine J.callB (v := .bool (decide (xs[i] ∈ xs.take i))) (fun w1 w2 hw hb => hw.step hb) Ty.bd68 rfl rfl (fun w1 hw => contains_spec _ (xs.take i) xs[i] w1 (by
      have h := (Row.slice (i := 0) (j := i) (sz := 1) hr (by simp) (Nat.zero_le _) hi).below hw.below
      rw [show (xs.take i).length = i by simp; omega]
      simpa [List.map_take] using h) (by simp; omega)) ?_
    refine J.nil ?_
    refine JX.thenN (hK7 _ _ ?_)
    refine JC.cond rfl (fun h1 => ?_) (fun h1 => ?_)
    · skip
      have hm : xs[i] ∈ xs.take i := by simp at h1; exact h1
      refine JC.seq (fun K8 hK8 => ?_)
      refine JC.region ?_
      refine J.assign rfl rfl ?_
      refine J.nil ?_
      refine JX.thenN (hK8 _ _ ?_)
      refine JC.ret ?_
      refine JX.blockR ?_
      refine JX.thenR ?_
      refine JX.thenR ?_
      refine JX.blockR ?_
      refine JX.thenR ?_
      refine JX.ret1 rfl rfl (fun w hw => ?_)
      first | exact ⟨by rw [decide_eq_false (nodup_no hlt hm)], hw.below⟩ | exact ⟨by rw [decide_eq_true (show xs.Nodup by rw [hge, List.take_of_length_le (Nat.le_refl _)] at hpre; exact hpre)], hw.below⟩
    · skip
      have hm : xs[i] ∉ xs.take i := by simp at h1; exact h1
      refine JC.skip ?_
      refine JX.blockN ?_
      refine JX.thenN (hK5 _ _ ?_)
      refine JC.region ?_
      (first | refine J.addN rfl rfl (by omega) (by omega) rfl ?_ | refine J.bin rfl rfl rfl rfl ?_)
      refine J.move rfl rfl ?_
      refine J.nil ?_
      refine JX.thenN ?_
      refine JX.again (i + 1) ?_ ?_ ?_
      · omega
      · exact ⟨rfl, rfl, rfl, rfl, trivial⟩
      · exact fun w1 hw => ⟨⟨hlt, nodup_succ hlt hpre hm⟩, hw⟩
  · skip
    have hge : i = xs.length := by simp at h0; omega
    refine JC.exit ?_
    refine JX.thenE ?_
    refine JX.thenE ?_
    refine JX.blockE ?_
    refine JX.thenN (hK1 _ _ ?_)
    refine JC.seq (fun K9 hK9 => ?_)
    refine JC.region ?_
    refine J.assign rfl rfl ?_
    refine J.nil ?_
    refine JX.thenN (hK9 _ _ ?_)
    refine JC.ret ?_
    refine JX.ret1 rfl rfl (fun w hw => ?_)
    first | exact ⟨by rw [decide_eq_false (nodup_no hlt hm)], hw.below⟩ | exact ⟨by rw [decide_eq_true (show xs.Nodup by rw [hge, List.take_of_length_le (Nat.le_refl _)] at hpre; exact hpre)], hw.below⟩

theorem isOpen_spec (v : Value) (os : List Bool) (n : Int) (w : World) (hr : Row w v os.length (os.map bV)) (hl : os.length < 4611686018427387904) :
    Calls Try.prog 53 [v, .int .i64 n].toArray w fun r w' => r = .returned (.bool (openQ os n)) ∧ Bel w w' := by
  obtain ⟨a, c, rfl, hc, _⟩ := id hr
  refine calls_of_J (args := [.slice a os.length c, .int .i64 n]) (e := [(0, .slice a os.length c), (1, .int .i64 n)]) Try.func53 rfl rfl ⟨rfl, rfl, trivial⟩ (St.start w) ?_
  refine JC.seq (fun K0 hK0 => ?_)
  refine JC.region ?_
  refine J.assign rfl rfl ?_
  refine J.nil ?_
  refine JX.thenN (hK0 _ _ ?_)
  refine JC.seq (fun K1 hK1 => ?_)
  refine JC.region ?_
  refine J.move rfl rfl ?_
  refine J.bin rfl rfl rfl rfl ?_
  refine J.move rfl rfl ?_
  refine J.split 7 rfl (fun hs7 => ?_) (fun hs7 => ?_)
  · skip
    try simp only [decide_eq_true_eq, decide_eq_false_iff_not, beq_iff_eq, bne_iff_ne, bne_eq_false_iff_eq, ne_eq, beq_eq_false_iff_ne, Bool.not_eq_true, Bool.not_eq_false, Int.not_lt, Int.not_le] at hs7
    first
    | exact absurd hs7 (by decide)
    | skip
      first | refine J.skip rfl rfl rfl rfl rfl ?_ | refine J.skipU rfl rfl rfl rfl ?_ | (refine J.unguard rfl rfl rfl ?_; refine J.move rfl rfl ?_)
      first | refine J.skip rfl rfl rfl rfl rfl ?_ | refine J.skipU rfl rfl rfl rfl ?_ | (refine J.unguard rfl rfl rfl ?_; refine J.move rfl rfl ?_)
      first | refine J.skip rfl rfl rfl rfl rfl ?_ | refine J.skipU rfl rfl rfl rfl ?_ | (refine J.unguard rfl rfl rfl ?_; refine J.lenS rfl Ty.u28 rfl rfl ?_)
      first | refine J.skip rfl rfl rfl rfl rfl ?_ | refine J.skipU rfl rfl rfl rfl ?_ | (refine J.unguard rfl rfl rfl ?_; refine J.bin rfl rfl rfl rfl ?_)
      (first | refine J.pickT rfl rfl rfl ?_ | refine J.pickF rfl rfl rfl ?_)
      refine J.move rfl rfl ?_
      refine J.split 13 rfl (fun hs13 => ?_) (fun hs13 => ?_)
      · skip
        try simp only [decide_eq_true_eq, decide_eq_false_iff_not, beq_iff_eq, bne_iff_ne, bne_eq_false_iff_eq, ne_eq, beq_eq_false_iff_ne, Bool.not_eq_true, Bool.not_eq_false, Int.not_lt, Int.not_le] at hs13
        first
        | exact absurd hs13 (by decide)
        | skip
          first | refine J.skip rfl rfl rfl rfl rfl ?_ | refine J.skipU rfl rfl rfl rfl ?_ | (refine J.unguard rfl rfl rfl ?_; refine J.move rfl rfl ?_)
          first | refine J.skip rfl rfl rfl rfl rfl ?_ | refine J.skipU rfl rfl rfl rfl ?_ | (refine J.unguard rfl rfl rfl ?_; refine J.move rfl rfl ?_)
          first | refine J.skip rfl rfl rfl rfl rfl ?_ | refine J.skipU rfl rfl rfl rfl ?_ | (refine J.unguard rfl rfl rfl ?_; have hlt : n.toNat < os.length := (by omega); have hcl := (Row.some hr (by simp; omega)); obtain ⟨b, o, c', hqe, _, hcl⟩ := hcl; simp only [Value.slice.injEq] at hqe; obtain ⟨rfl, _, rfl⟩ := hqe; have hcell : w.cell? ⟨b, o + n.toNat * 1, none⟩ = some (bV os[n.toNat]) := hcl.get (i := n.toNat) (by rw [List.getElem?_map, List.getElem?_eq_getElem hlt]; rfl) (by omega); refine J.indexAddrS Ty.el28 Ty.s4 rfl rfl (by omega) (by omega) rfl ?_)
          first | refine J.skip rfl rfl rfl rfl rfl ?_ | refine J.skipU rfl rfl rfl rfl ?_ | (refine J.unguard rfl rfl rfl ?_; refine J.loadR (v := bV os[n.toNat]) Ty.a4 rfl hcell (by simp) rfl ?_)
          (first | refine J.pickT rfl rfl rfl ?_ | refine J.pickF rfl rfl rfl ?_)
          refine J.assign rfl rfl ?_
          refine J.nil ?_
          refine JX.thenN (hK1 _ _ ?_)
          refine JC.ret ?_
          refine JX.ret1 rfl rfl (fun w hw => ?_)
          refine ⟨?_, hw.below⟩
          first | (simp [openQ]; omega) | (simp_all [openQ]; done)
      · skip
        try simp only [decide_eq_true_eq, decide_eq_false_iff_not, beq_iff_eq, bne_iff_ne, bne_eq_false_iff_eq, ne_eq, beq_eq_false_iff_ne, Bool.not_eq_true, Bool.not_eq_false, Int.not_lt, Int.not_le] at hs13
        first
        | exact absurd hs13 (by decide)
        | skip
          first | refine J.skip rfl rfl rfl rfl rfl ?_ | refine J.skipU rfl rfl rfl rfl ?_ | (refine J.unguard rfl rfl rfl ?_; refine J.move rfl rfl ?_)
          first | refine J.skip rfl rfl rfl rfl rfl ?_ | refine J.skipU rfl rfl rfl rfl ?_ | (refine J.unguard rfl rfl rfl ?_; refine J.move rfl rfl ?_)
          first | refine J.skip rfl rfl rfl rfl rfl ?_ | refine J.skipU rfl rfl rfl rfl ?_ | (refine J.unguard rfl rfl rfl ?_; have hlt : n.toNat < os.length := (by omega); have hcl := (Row.some hr (by simp; omega)); obtain ⟨b, o, c', hqe, _, hcl⟩ := hcl; simp only [Value.slice.injEq] at hqe; obtain ⟨rfl, _, rfl⟩ := hqe; have hcell : w.cell? ⟨b, o + n.toNat * 1, none⟩ = some (bV os[n.toNat]) := hcl.get (i := n.toNat) (by rw [List.getElem?_map, List.getElem?_eq_getElem hlt]; rfl) (by omega); refine J.indexAddrS Ty.el28 Ty.s4 rfl rfl (by omega) (by omega) rfl ?_)
          first | refine J.skip rfl rfl rfl rfl rfl ?_ | refine J.skipU rfl rfl rfl rfl ?_ | (refine J.unguard rfl rfl rfl ?_; refine J.loadR (v := bV os[n.toNat]) Ty.a4 rfl hcell (by simp) rfl ?_)
          (first | refine J.pickT rfl rfl rfl ?_ | refine J.pickF rfl rfl rfl ?_)
          refine J.assign rfl rfl ?_
          refine J.nil ?_
          refine JX.thenN (hK1 _ _ ?_)
          refine JC.ret ?_
          refine JX.ret1 rfl rfl (fun w hw => ?_)
          refine ⟨?_, hw.below⟩
          first | (simp [openQ]; omega) | (simp_all [openQ]; done)
  · skip
    try simp only [decide_eq_true_eq, decide_eq_false_iff_not, beq_iff_eq, bne_iff_ne, bne_eq_false_iff_eq, ne_eq, beq_eq_false_iff_ne, Bool.not_eq_true, Bool.not_eq_false, Int.not_lt, Int.not_le] at hs7
    first
    | exact absurd hs7 (by decide)
    | skip
      first | refine J.skip rfl rfl rfl rfl rfl ?_ | refine J.skipU rfl rfl rfl rfl ?_ | (refine J.unguard rfl rfl rfl ?_; refine J.move rfl rfl ?_)
      first | refine J.skip rfl rfl rfl rfl rfl ?_ | refine J.skipU rfl rfl rfl rfl ?_ | (refine J.unguard rfl rfl rfl ?_; refine J.move rfl rfl ?_)
      first | refine J.skip rfl rfl rfl rfl rfl ?_ | refine J.skipU rfl rfl rfl rfl ?_ | (refine J.unguard rfl rfl rfl ?_; refine J.lenS rfl Ty.u28 rfl rfl ?_)
      first | refine J.skip rfl rfl rfl rfl rfl ?_ | refine J.skipU rfl rfl rfl rfl ?_ | (refine J.unguard rfl rfl rfl ?_; refine J.bin rfl rfl rfl rfl ?_)
      (first | refine J.pickT rfl rfl rfl ?_ | refine J.pickF rfl rfl rfl ?_)
      refine J.move rfl rfl ?_
      refine J.split 13 rfl (fun hs13 => ?_) (fun hs13 => ?_)
      · skip
        try simp only [decide_eq_true_eq, decide_eq_false_iff_not, beq_iff_eq, bne_iff_ne, bne_eq_false_iff_eq, ne_eq, beq_eq_false_iff_ne, Bool.not_eq_true, Bool.not_eq_false, Int.not_lt, Int.not_le] at hs13
        first
        | exact absurd hs13 (by decide)
        | skip
          first | refine J.skip rfl rfl rfl rfl rfl ?_ | refine J.skipU rfl rfl rfl rfl ?_ | (refine J.unguard rfl rfl rfl ?_; refine J.move rfl rfl ?_)
          first | refine J.skip rfl rfl rfl rfl rfl ?_ | refine J.skipU rfl rfl rfl rfl ?_ | (refine J.unguard rfl rfl rfl ?_; refine J.move rfl rfl ?_)
          first | refine J.skip rfl rfl rfl rfl rfl ?_ | refine J.skipU rfl rfl rfl rfl ?_ | (refine J.unguard rfl rfl rfl ?_; have hlt : n.toNat < os.length := (by omega); have hcl := (Row.some hr (by simp; omega)); obtain ⟨b, o, c', hqe, _, hcl⟩ := hcl; simp only [Value.slice.injEq] at hqe; obtain ⟨rfl, _, rfl⟩ := hqe; have hcell : w.cell? ⟨b, o + n.toNat * 1, none⟩ = some (bV os[n.toNat]) := hcl.get (i := n.toNat) (by rw [List.getElem?_map, List.getElem?_eq_getElem hlt]; rfl) (by omega); refine J.indexAddrS Ty.el28 Ty.s4 rfl rfl (by omega) (by omega) rfl ?_)
          first | refine J.skip rfl rfl rfl rfl rfl ?_ | refine J.skipU rfl rfl rfl rfl ?_ | (refine J.unguard rfl rfl rfl ?_; refine J.loadR (v := bV os[n.toNat]) Ty.a4 rfl hcell (by simp) rfl ?_)
          (first | refine J.pickT rfl rfl rfl ?_ | refine J.pickF rfl rfl rfl ?_)
          refine J.assign rfl rfl ?_
          refine J.nil ?_
          refine JX.thenN (hK1 _ _ ?_)
          refine JC.ret ?_
          refine JX.ret1 rfl rfl (fun w hw => ?_)
          refine ⟨?_, hw.below⟩
          first | (simp [openQ]; omega) | (simp_all [openQ]; done)
      · skip
        try simp only [decide_eq_true_eq, decide_eq_false_iff_not, beq_iff_eq, bne_iff_ne, bne_eq_false_iff_eq, ne_eq, beq_eq_false_iff_ne, Bool.not_eq_true, Bool.not_eq_false, Int.not_lt, Int.not_le] at hs13
        first
        | exact absurd hs13 (by decide)
        | skip
          first | refine J.skip rfl rfl rfl rfl rfl ?_ | refine J.skipU rfl rfl rfl rfl ?_ | (refine J.unguard rfl rfl rfl ?_; refine J.move rfl rfl ?_)
          first | refine J.skip rfl rfl rfl rfl rfl ?_ | refine J.skipU rfl rfl rfl rfl ?_ | (refine J.unguard rfl rfl rfl ?_; refine J.move rfl rfl ?_)
          first | refine J.skip rfl rfl rfl rfl rfl ?_ | refine J.skipU rfl rfl rfl rfl ?_ | (refine J.unguard rfl rfl rfl ?_; have hlt : n.toNat < os.length := (by omega); have hcl := (Row.some hr (by simp; omega)); obtain ⟨b, o, c', hqe, _, hcl⟩ := hcl; simp only [Value.slice.injEq] at hqe; obtain ⟨rfl, _, rfl⟩ := hqe; have hcell : w.cell? ⟨b, o + n.toNat * 1, none⟩ = some (bV os[n.toNat]) := hcl.get (i := n.toNat) (by rw [List.getElem?_map, List.getElem?_eq_getElem hlt]; rfl) (by omega); refine J.indexAddrS Ty.el28 Ty.s4 rfl rfl (by omega) (by omega) rfl ?_)
          first | refine J.skip rfl rfl rfl rfl rfl ?_ | refine J.skipU rfl rfl rfl rfl ?_ | (refine J.unguard rfl rfl rfl ?_; refine J.loadR (v := bV os[n.toNat]) Ty.a4 rfl hcell (by simp) rfl ?_)
          (first | refine J.pickT rfl rfl rfl ?_ | refine J.pickF rfl rfl rfl ?_)
          refine J.assign rfl rfl ?_
          refine J.nil ?_
          refine JX.thenN (hK1 _ _ ?_)
          refine JC.ret ?_
          refine JX.ret1 rfl rfl (fun w hw => ?_)
          refine ⟨?_, hw.below⟩
          first | (simp [openQ]; omega) | (simp_all [openQ]; done)

end Go.Proofs.Ytpldpkdlloolkaa
