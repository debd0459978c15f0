/-
  The example of layer 19; CopiesOwes: the walk.
-/
import Derived.Test.YtbafhclandendaaQb
import Derived.Test.YtbafhclandendaaLi
import Derived.Test.YtbafhclandendaaRc
namespace Go.Proofs.Ytbafhclandendaa
open Go.J Go.RowKit
set_option linter.unusedVariables false
set_option linter.unusedSimpArgs false
set_option maxRecDepth 8000
theorem valI_nIx (k : UInt8) : valI (nI k) = k.toNat := by simp [valI, bI, nI, valB]
theorem dI_nIx (a b : UInt8) : dI (nI a) (nI b) = (b.toNat + 2 ^ 128 - a.toNat) % 2 ^ 128 := by rw [dI_eq, valI_nIx, valI_nIx]
theorem near_nI (d a b : UInt8) : kN (nI d) (nI a) < kN (nI d) (nI b) ↔ ((if 2 ^ 128 < 2 * ((a.toNat + 2 ^ 128 - d.toNat) % 2 ^ 128) then 2 ^ 128 - (a.toNat + 2 ^ 128 - d.toNat) % 2 ^ 128 else (a.toNat + 2 ^ 128 - d.toNat) % 2 ^ 128) < (if 2 ^ 128 < 2 * ((b.toNat + 2 ^ 128 - d.toNat) % 2 ^ 128) then 2 ^ 128 - (b.toNat + 2 ^ 128 - d.toNat) % 2 ^ 128 else (b.toNat + 2 ^ 128 - d.toNat) % 2 ^ 128) ∨
    ((if 2 ^ 128 < 2 * ((a.toNat + 2 ^ 128 - d.toNat) % 2 ^ 128) then 2 ^ 128 - (a.toNat + 2 ^ 128 - d.toNat) % 2 ^ 128 else (a.toNat + 2 ^ 128 - d.toNat) % 2 ^ 128) = (if 2 ^ 128 < 2 * ((b.toNat + 2 ^ 128 - d.toNat) % 2 ^ 128) then 2 ^ 128 - (b.toNat + 2 ^ 128 - d.toNat) % 2 ^ 128 else (b.toNat + 2 ^ 128 - d.toNat) % 2 ^ 128) ∧ (a.toNat + 2 ^ 128 - d.toNat) % 2 ^ 128 < (b.toNat + 2 ^ 128 - d.toNat) % 2 ^ 128)) := by
  rw [← near_kN]
  unfold nearP
  rw [farI_of, farI_of, dI_nIx, dI_nIx]
theorem nI_ne {a b : UInt8} (h : a ≠ b) : nI a ≠ nI b := fun e => h (by have := congrFun e 15; simpa [nI] using this)
def fx19 : List IDV := [nI 9, nI 20]
theorem sort_fx : sortI fx19 (nI 5) = fx19 := by
  refine (sortI_of (l := fx19) ?_ (fun z => ?_)).symm
  · refine List.Pairwise.cons (fun y hy => ?_) (List.pairwise_singleton _ _)
    simp only [List.mem_singleton] at hy
    subst hy
    rw [valI_nIx, valI_nIx]; decide
  · constructor
    · intro h
      refine ⟨h, ?_⟩
      rcases List.mem_cons.1 h with rfl | h
      · exact nI_ne (by decide)
      · simp only [List.mem_singleton] at h; subst h; exact nI_ne (by decide)
    · exact fun h => h.1
theorem root_fx6 : rootV (nI 5) fx19 (nI 6) = true := by
  refine rootV_iff.2 (fun x hx => Nat.le_of_lt ?_)
  rcases List.mem_cons.1 hx with rfl | h
  · exact (near_nI _ _ _).2 (by decide +kernel)
  · simp only [List.mem_singleton] at h; subst h; exact (near_nI _ _ _).2 (by decide +kernel)
theorem owed_fx6 : owedV (nI 5) fx19 (nI 6) = fx19 := by
  unfold owedV
  rw [sort_fx, if_pos root_fx6]
theorem owed_fx10 : owedV (nI 5) fx19 (nI 10) = [nI 9] := by
  have h9 : kN (nI 10) (nI 9) < kN (nI 10) (nI 5) := (near_nI _ _ _).2 (by decide +kernel)
  have h20 : kN (nI 10) (nI 9) < kN (nI 10) (nI 20) := (near_nI _ _ _).2 (by decide +kernel)
  unfold owedV
  rw [sort_fx, if_neg (fun h => by have := rootV_iff.1 h (nI 9) (.head _); omega)]
  obtain ⟨i, h1, h2, h3, h4⟩ := minV_at (key := nI 10) (l := fx19) (by simp [fx19])
  rcases List.mem_cons.1 h3 with h | h
  · rw [h]
  · simp only [List.mem_singleton] at h
    have := h4 (nI 9) (.head _)
    rw [h] at this
    omega
theorem zBk : zeroT Try.prog 90 = some (.agg [.map none].toArray) := by kernel_rfl

theorem new19_spec (w : World) :
    Calls Try.prog 24 [].toArray w fun r w' => ∃ x : Nat × Nat, r = .returned (.pointer (some ⟨x.1, 0, none⟩)) ∧ St w [] [(x.1, cb [.map (some x.2)] 90), (x.2, .map #[] 0)] w' := by
  refine calls_of_J (args := []) (e := []) Try.func24 rfl rfl trivial (St.start w) ?_
  refine JC.seq (fun K0 hK0 => ?_)
  refine JC.region ?_
  refine J.assign rfl rfl ?_
  refine J.nil ?_
  refine JX.thenN (hK0 _ _ ?_)
  refine JC.seq (fun K1 hK1 => ?_)
  refine JC.region ?_
  refine J.makeMap rfl (fun b1 => ?_)
  refine J.buildS (cs := [.map (some b1)]) Ty.pl90 zBk rfl (by kernel_rfl) rfl ?_
  refine J.box rfl rfl rfl (fun b3 => ?_)
  refine J.assign rfl rfl ?_
  refine J.nil ?_
  refine JX.thenN (hK1 _ _ ?_)
  refine JC.ret ?_
  refine JX.ret1 rfl rfl (fun w hw => ?_)
  exact ⟨(b3, b1), rfl, hw⟩

set_option maxHeartbeats 1000000 in
theorem fixed19_spec (w : World) :
    Calls Try.prog 15 [].toArray w fun r w' => r = .returned (.bool true) ∧ Bel w w' := by
  refine calls_of_J (args := []) (e := []) Try.func15 rfl rfl trivial (St.start w) ?_
  refine JC.seq (fun K0 hK0 => ?_)
  refine JC.region ?_
  refine J.assign rfl rfl ?_
  refine J.nil ?_
  refine JX.thenN (hK0 _ _ ?_)
  refine JC.seq (fun K1 hK1 => ?_)
  refine JC.region ?_
  refine J.callB (v := .agg (cI (nI 9)).toArray) (fun w1 w2 hw hb => hw.step hb) Ty.bd33 rfl rfl (fun w1 hw => n19_spec 9 w1) ?_
  refine J.callB (v := .agg (cI (nI 20)).toArray) (fun w1 w2 hw hb => hw.step hb) Ty.bd33 rfl rfl (fun w1 hw => n19_spec 20 w1) ?_
  refine J.buildSl (cs := cI (nI 9) ++ cI (nI 20)) Ty.el24 Ty.s23 Ty.zID rfl rfl rfl rfl (by kernel_rfl) rfl rfl (fun b4 => ?_)
  refine J.assign rfl rfl ?_
  refine J.nil ?_
  refine JX.thenN (hK1 _ _ ?_)
  refine JC.seq (fun K2 hK2 => ?_)
  apply JC.drawX (α := Value × List (Nat × Obj) × Value × List (Nat × Obj) × Nat × Nat) 25 (fun x => match x with | ⟨v13, l13, v21, l21, bk, mm⟩ => [.agg (cI (nI 5)).toArray, .slice (some ⟨b4, 0, none⟩) 2 2, .agg (cI (nI 6)).toArray, .bool true, .bool true, .agg (cI (nI 5)).toArray, .slice (some ⟨b4, 0, none⟩) 2 2, .agg (cI (nI 6)).toArray, v13, .slice (some ⟨b4, 0, none⟩) 2 2, .bool true, .bool true, .bool true, .agg (cI (nI 5)).toArray, .slice (some ⟨b4, 0, none⟩) 2 2, .agg (cI (nI 10)).toArray, v21, .slice (some ⟨b4, 0, none⟩) 2 2, .slice (some ⟨b4, 0, none⟩) 1 2, .bool true, .bool true, .bool true, .pointer (some ⟨bk, 0, none⟩), .bool true, .bool true]) (fun m x => match x with | ⟨v13, l13, v21, l21, bk, mm⟩ => fun w1 => ((m 8 = true → Vec 23 16 v13 (owedV (nI 5) fx19 (nI 6)).length (fI (owedV (nI 5) fx19 (nI 6))) l13) ∧ (m 16 = true → Vec 23 16 v21 (owedV (nI 5) fx19 (nI 10)).length (fI (owedV (nI 5) fx19 (nI 10))) l21)) ∧ St w [] ((b4, cb (cI (nI 9) ++ cI (nI 20)) 23) :: ((bif m 8 then l13 else []) ++ ((bif m 16 then l21 else []) ++ (bif m 22 then [(bk, cb [.map (some mm)] 90), (mm, .map #[] 0)] else [])))) w1) Ty.mixed rfl rfl rfl (by kernel_rfl) rfl rfl ?hinit ?hstep ?htail
  case hinit => exact fun w1 hw => ⟨(.slice none 0 0, [], .slice none 0 0, [], 0, 0), ⟨fun h => (by cases h), fun h => (by cases h)⟩, hw.drew⟩
  case hstep =>
    refine ⟨fun m x hm hp => ?_, fun m x hm hp => ?_, fun m x hm hp => ?_, fun m x hm hp => ?_, fun m x hm hp => ?_, fun m x hm hp => ?_, fun m x hm hp => ?_, fun m x hm hp => ?_, fun m x hm hp => ?_, fun m x hm hp => ?_, fun m x hm hp => ?_, fun m x hm hp => ?_, fun m x hm hp => ?_, fun m x hm hp => ?_, fun m x hm hp => ?_, fun m x hm hp => ?_, fun m x hm hp => ?_, fun m x hm hp => ?_, fun m x hm hp => ?_, fun m x hm hp => ?_, fun m x hm hp => ?_, fun m x hm hp => ?_, fun m x hm hp => ?_, fun m x hm hp => ?_, fun m x hm hp => ?_, trivial⟩
    · skip
      obtain ⟨v13, l13, v21, l21, bk, mm⟩ := x
      show J _ _ _ _ _ (_) _
      refine J.pr (fun hF => ?_)
      refine J.callB (v := .agg (cI (nI 5)).toArray) (fun w1 w2 hw hb => hw.step hb) Ty.bd33 rfl rfl (fun w1 hw => n19_spec 5 w1) ?_
      exact J.finX rfl (fun _ hw => ⟨⟨v13, l13, v21, l21, bk, mm⟩, rfl, fun _ _ _ => rfl, hF, hw⟩)
    · skip
      obtain ⟨v13, l13, v21, l21, bk, mm⟩ := x
      show J _ _ _ _ _ (_) _
      refine J.pr (fun hF => ?_)
      refine J.move rfl rfl ?_
      exact J.finX rfl (fun _ hw => ⟨⟨v13, l13, v21, l21, bk, mm⟩, rfl, fun _ _ _ => rfl, hF, hw⟩)
    · skip
      obtain ⟨v13, l13, v21, l21, bk, mm⟩ := x
      show J _ _ _ _ _ ((5, .agg (cI (nI 5)).toArray) :: _) _
      refine J.pr (fun hF => ?_)
      refine J.callB (v := .agg (cI (nI 6)).toArray) (fun w1 w2 hw hb => hw.step hb) Ty.bd33 rfl rfl (fun w1 hw => n19_spec 6 w1) ?_
      exact J.finX rfl (fun _ hw => ⟨⟨v13, l13, v21, l21, bk, mm⟩, rfl, fun _ _ _ => rfl, hF, hw⟩)
    · skip
      obtain ⟨v13, l13, v21, l21, bk, mm⟩ := x
      show J _ _ _ _ _ ((7, .agg (cI (nI 6)).toArray) :: (7, .agg (cI (nI 6)).toArray) :: (6, .slice (some ⟨b4, 0, none⟩) 2 2) :: (5, .agg (cI (nI 5)).toArray) :: _) _
      refine J.pr (fun hF => ?_)
      refine J.callB (v := .bool (rootV (nI 5) fx19 (nI 6))) (fun w1 w2 hw hb => hw.step hb) Ty.bd16 rfl rfl (fun w1 hw => root_spec (nI 5) _ fx19 (nI 6) w1 (Row.own (cs := cI (nI 9) ++ cI (nI 20)) (tb := 23) (fr := (0, 0)) hw (.head _) rfl (Nat.le_refl _) : Row w1 (.slice (some ⟨b4, 0, none⟩) 2 2) 2 (fI fx19)) (by decide)) ?_
      refine J.name 8 rfl (show _ = Value.bool true by rw [root_fx6]) ?_
      exact J.finX rfl (fun _ hw => ⟨⟨v13, l13, v21, l21, bk, mm⟩, rfl, fun _ _ _ => rfl, hF, hw⟩)
    · skip
      obtain ⟨v13, l13, v21, l21, bk, mm⟩ := x
      show J _ _ _ _ _ ((8, .bool true) :: (8, .bool true) :: _) _
      refine J.pr (fun hF => ?_)
      refine J.move rfl rfl ?_
      exact J.finX rfl (fun _ hw => ⟨⟨v13, l13, v21, l21, bk, mm⟩, rfl, fun _ _ _ => rfl, hF, hw⟩)
    · skip
      obtain ⟨v13, l13, v21, l21, bk, mm⟩ := x
      show J _ _ _ _ _ ((9, .bool true) :: (9, .bool true) :: _) _
      refine J.pr (fun hF => ?_)
      refine J.unguard rfl rfl rfl ?_
      refine J.callB (v := .agg (cI (nI 5)).toArray) (fun w1 w2 hw hb => hw.step hb) Ty.bd33 rfl rfl (fun w1 hw => n19_spec 5 w1) ?_
      exact J.finX rfl (fun _ hw => ⟨⟨v13, l13, v21, l21, bk, mm⟩, rfl, fun _ _ _ => rfl, hF, hw⟩)
    · skip
      obtain ⟨v13, l13, v21, l21, bk, mm⟩ := x
      show J _ _ _ _ _ ((9, .bool true) :: _) _
      refine J.pr (fun hF => ?_)
      first | refine J.skip rfl rfl rfl rfl rfl ?_ | refine J.skipU rfl rfl rfl rfl ?_ | (refine J.unguard rfl rfl rfl ?_; refine J.move rfl rfl ?_)
      exact J.finX rfl (fun _ hw => ⟨⟨v13, l13, v21, l21, bk, mm⟩, rfl, fun _ _ _ => rfl, hF, hw⟩)
    · skip
      obtain ⟨v13, l13, v21, l21, bk, mm⟩ := x
      show J _ _ _ _ _ ((9, .bool true) :: (10, .agg (cI (nI 5)).toArray) :: _) _
      refine J.pr (fun hF => ?_)
      refine J.unguard rfl rfl rfl ?_
      refine J.callB (v := .agg (cI (nI 6)).toArray) (fun w1 w2 hw hb => hw.step hb) Ty.bd33 rfl rfl (fun w1 hw => n19_spec 6 w1) ?_
      exact J.finX rfl (fun _ hw => ⟨⟨v13, l13, v21, l21, bk, mm⟩, rfl, fun _ _ _ => rfl, hF, hw⟩)
    · skip
      obtain ⟨v13, l13, v21, l21, bk, mm⟩ := x
      show J _ _ _ _ _ ((9, .bool true) :: (12, .agg (cI (nI 6)).toArray) :: (12, .agg (cI (nI 6)).toArray) :: (11, .slice (some ⟨b4, 0, none⟩) 2 2) :: (10, .agg (cI (nI 5)).toArray) :: _) _
      refine J.pr (fun hF => ?_)
      refine J.conseq (I' := St w [] ((b4, cb (cI (nI 9) ++ cI (nI 20)) 23) :: ((bif m 16 then l21 else []) ++ (bif m 22 then [(bk, cb [.map (some mm)] 90), (mm, .map #[] 0)] else [])))) ?_ (fun w1 hw => by simp only [hm, cond_false, List.nil_append, List.append_nil] at hw; exact hw)
      refine J.unguard rfl rfl rfl ?_
      refine J.perm ([] ++ ((b4, cb (cI (nI 9) ++ cI (nI 20)) 23) :: ((bif m 16 then l21 else []) ++ (bif m 22 then [(bk, cb [.map (some mm)] 90), (mm, .map #[] 0)] else [])))) (.refl _) ?_
      refine J.callS (α := Value × List (Nat × Obj)) (V := (·.1)) (Pr := fun x => Vec 23 16 x.1 (owedV (nI 5) fx19 (nI 6)).length (fI (owedV (nI 5) fx19 (nI 6))) x.2) (L := (·.2)) (l1 := []) Ty.bd19 rfl rfl (fun w1 hw => owed_spec (nI 5) _ fx19 (nI 6) w1 (Row.own (cs := cI (nI 9) ++ cI (nI 20)) (tb := 23) (fr := (0, 0)) hw (.head _) rfl (Nat.le_refl _) : Row w1 (.slice (some ⟨b4, 0, none⟩) 2 2) 2 (fI fx19)) (by decide)) (fun q hvn => ?_)
      obtain ⟨vn, ln⟩ := q
      simp only at hvn ⊢
      refine J.nil (JX.finB rfl (fun w1 hw => ⟨⟨⟨vn, ln, v21, l21, bk, mm⟩, rfl, fun j h1 h2 => ?_, ?_⟩, trivial⟩))
      · match j, h1 with
        | 0, _ => (first | rfl | trivial)
        | 1, _ => (first | rfl | trivial)
        | 2, _ => (first | rfl | trivial)
        | 3, _ => (first | rfl | trivial)
        | 4, _ => (first | rfl | trivial)
        | 5, _ => (first | rfl | trivial)
        | 6, _ => (first | rfl | trivial)
        | 7, _ => (first | rfl | trivial)
        | 8, _ => exact absurd (h2.symm.trans hm) (by decide)
        | 9, _ => (first | rfl | trivial)
        | 10, _ => (first | rfl | trivial)
        | 11, _ => (first | rfl | trivial)
        | 12, _ => (first | rfl | trivial)
        | 13, _ => (first | rfl | trivial)
        | 14, _ => (first | rfl | trivial)
        | 15, _ => (first | rfl | trivial)
        | 16, _ => (first | rfl | trivial)
        | 17, _ => (first | rfl | trivial)
        | 18, _ => (first | rfl | trivial)
        | 19, _ => (first | rfl | trivial)
        | 20, _ => (first | rfl | trivial)
        | 21, _ => (first | rfl | trivial)
        | 22, _ => (first | rfl | trivial)
        | 23, _ => (first | rfl | trivial)
        | 24, _ => (first | rfl | trivial)
        | j + 25, h1 => omega
      show ((true = true → Vec 23 16 vn (owedV (nI 5) fx19 (nI 6)).length (fI (owedV (nI 5) fx19 (nI 6))) ln) ∧ (m 16 = true → Vec 23 16 v21 (owedV (nI 5) fx19 (nI 10)).length (fI (owedV (nI 5) fx19 (nI 10))) l21)) ∧ St w [] ((b4, cb (cI (nI 9) ++ cI (nI 20)) 23) :: ((bif true then ln else []) ++ ((bif m 16 then l21 else []) ++ (bif m 22 then [(bk, cb [.map (some mm)] 90), (mm, .map #[] 0)] else [])))) w1
      simp only [hm, cond_true, cond_false] at hw ⊢
      exact ⟨⟨fun _ => hvn, hF.2⟩, hw.perm (by (refine perm_cnt (fun _ => ?_)); simp only [cntB_append, cntB_cons, cntB_nil, Nat.add_zero, Nat.zero_add]; try ac_rfl)⟩
    · skip
      obtain ⟨v13, l13, v21, l21, bk, mm⟩ := x
      show J _ _ _ _ _ ((9, .bool true) :: _) _
      refine J.pr (fun hF => ?_)
      first | refine J.skip rfl rfl rfl rfl rfl ?_ | refine J.skipU rfl rfl rfl rfl ?_ | (refine J.unguard rfl rfl rfl ?_; refine J.move rfl rfl ?_)
      exact J.finX rfl (fun _ hw => ⟨⟨v13, l13, v21, l21, bk, mm⟩, rfl, fun _ _ _ => rfl, hF, hw⟩)
    · skip
      obtain ⟨v13, l13, v21, l21, bk, mm⟩ := x
      show J _ _ _ _ _ ((9, .bool true) :: (13, v13) :: (14, .slice (some ⟨b4, 0, none⟩) 2 2) :: (13, v13) :: _) _
      have hp8 : m 8 = true := predsT hp (by kernel_rfl)
      have hp8 : m 8 = true := predsT hp (by kernel_rfl)
      refine J.pr (fun hF => ?_)
      have hv13 := hF.1 hp8
      refine J.conseq (I' := St w [] ((b4, cb (cI (nI 9) ++ cI (nI 20)) 23) :: (l13 ++ ((bif m 16 then l21 else []) ++ (bif m 22 then [(bk, cb [.map (some mm)] 90), (mm, .map #[] 0)] else []))))) ?_ (fun w1 hw => by simp only [hp8, cond_true] at hw; exact hw)
      refine J.unguard rfl rfl rfl ?_
      refine J.callB (v := .bool (decide (owedV (nI 5) fx19 (nI 6) = fx19))) (fun w1 w2 hw hb => hw.step hb) Ty.bd18 rfl rfl (fun w1 hw => sameIDs_spec _ _ (owedV (nI 5) fx19 (nI 6)) (fx19) w1 (vec_rowM hv13 hw (fun q hq => by first | (simp [hq]; done) | (simp at hq; simp [hq]; done) | (simp at hq; subst hq; simp))) (Row.own (cs := cI (nI 9) ++ cI (nI 20)) (tb := 23) (fr := (0, 0)) hw (.head _) rfl (Nat.le_refl _) : Row w1 (.slice (some ⟨b4, 0, none⟩) 2 2) 2 (fI fx19)) (by rw [owed_fx6]; simp [fx19]) (by simp [fx19])) ?_
      refine J.name 15 rfl (show _ = Value.bool true by rw [owed_fx6]; simp [fx19]) ?_
      refine J.nil (JX.finB rfl (fun w1 hw => ⟨⟨⟨v13, l13, v21, l21, bk, mm⟩, rfl, fun j h1 h2 => ?_, ?_⟩, trivial⟩))
      · match j, h1 with
        | 0, _ => (first | rfl | trivial)
        | 1, _ => (first | rfl | trivial)
        | 2, _ => (first | rfl | trivial)
        | 3, _ => (first | rfl | trivial)
        | 4, _ => (first | rfl | trivial)
        | 5, _ => (first | rfl | trivial)
        | 6, _ => (first | rfl | trivial)
        | 7, _ => (first | rfl | trivial)
        | 8, _ => (first | rfl | trivial)
        | 9, _ => (first | rfl | trivial)
        | 10, _ => (first | rfl | trivial)
        | 11, _ => (first | rfl | trivial)
        | 12, _ => (first | rfl | trivial)
        | 13, _ => (first | rfl | trivial)
        | 14, _ => (first | rfl | trivial)
        | 15, _ => (first | rfl | trivial)
        | 16, _ => (first | rfl | trivial)
        | 17, _ => (first | rfl | trivial)
        | 18, _ => (first | rfl | trivial)
        | 19, _ => (first | rfl | trivial)
        | 20, _ => (first | rfl | trivial)
        | 21, _ => (first | rfl | trivial)
        | 22, _ => (first | rfl | trivial)
        | 23, _ => (first | rfl | trivial)
        | 24, _ => (first | rfl | trivial)
        | j + 25, h1 => omega
      show ((m 8 = true → Vec 23 16 v13 (owedV (nI 5) fx19 (nI 6)).length (fI (owedV (nI 5) fx19 (nI 6))) l13) ∧ (m 16 = true → Vec 23 16 v21 (owedV (nI 5) fx19 (nI 10)).length (fI (owedV (nI 5) fx19 (nI 10))) l21)) ∧ St w [] ((b4, cb (cI (nI 9) ++ cI (nI 20)) 23) :: ((bif m 8 then l13 else []) ++ ((bif m 16 then l21 else []) ++ (bif m 22 then [(bk, cb [.map (some mm)] 90), (mm, .map #[] 0)] else [])))) w1
      simp only [hp8, cond_true] at hw ⊢
      exact ⟨⟨fun _ => hv13, hF.2⟩, hw⟩
    · skip
      obtain ⟨v13, l13, v21, l21, bk, mm⟩ := x
      show J _ _ _ _ _ ((15, .bool true) :: (9, .bool true) :: _) _
      refine J.pr (fun hF => ?_)
      (first | refine J.pickT rfl rfl rfl ?_ | refine J.pickF rfl rfl rfl ?_)
      exact J.finX rfl (fun _ hw => ⟨⟨v13, l13, v21, l21, bk, mm⟩, rfl, fun _ _ _ => rfl, hF, hw⟩)
    · skip
      obtain ⟨v13, l13, v21, l21, bk, mm⟩ := x
      show J _ _ _ _ _ ((15, .bool true) :: (16, .bool true) :: _) _
      refine J.pr (fun hF => ?_)
      refine J.move rfl rfl ?_
      exact J.finX rfl (fun _ hw => ⟨⟨v13, l13, v21, l21, bk, mm⟩, rfl, fun _ _ _ => rfl, hF, hw⟩)
    · skip
      obtain ⟨v13, l13, v21, l21, bk, mm⟩ := x
      show J _ _ _ _ _ ((17, .bool true) :: (17, .bool true) :: _) _
      refine J.pr (fun hF => ?_)
      refine J.unguard rfl rfl rfl ?_
      refine J.callB (v := .agg (cI (nI 5)).toArray) (fun w1 w2 hw hb => hw.step hb) Ty.bd33 rfl rfl (fun w1 hw => n19_spec 5 w1) ?_
      exact J.finX rfl (fun _ hw => ⟨⟨v13, l13, v21, l21, bk, mm⟩, rfl, fun _ _ _ => rfl, hF, hw⟩)
    · skip
      obtain ⟨v13, l13, v21, l21, bk, mm⟩ := x
      show J _ _ _ _ _ ((17, .bool true) :: _) _
      refine J.pr (fun hF => ?_)
      first | refine J.skip rfl rfl rfl rfl rfl ?_ | refine J.skipU rfl rfl rfl rfl ?_ | (refine J.unguard rfl rfl rfl ?_; refine J.move rfl rfl ?_)
      exact J.finX rfl (fun _ hw => ⟨⟨v13, l13, v21, l21, bk, mm⟩, rfl, fun _ _ _ => rfl, hF, hw⟩)
    · skip
      obtain ⟨v13, l13, v21, l21, bk, mm⟩ := x
      show J _ _ _ _ _ ((17, .bool true) :: (18, .agg (cI (nI 5)).toArray) :: _) _
      refine J.pr (fun hF => ?_)
      refine J.unguard rfl rfl rfl ?_
      refine J.callB (v := .agg (cI (nI 10)).toArray) (fun w1 w2 hw hb => hw.step hb) Ty.bd33 rfl rfl (fun w1 hw => n19_spec 10 w1) ?_
      exact J.finX rfl (fun _ hw => ⟨⟨v13, l13, v21, l21, bk, mm⟩, rfl, fun _ _ _ => rfl, hF, hw⟩)
    · skip
      obtain ⟨v13, l13, v21, l21, bk, mm⟩ := x
      show J _ _ _ _ _ ((17, .bool true) :: (20, .agg (cI (nI 10)).toArray) :: (20, .agg (cI (nI 10)).toArray) :: (19, .slice (some ⟨b4, 0, none⟩) 2 2) :: (18, .agg (cI (nI 5)).toArray) :: _) _
      refine J.pr (fun hF => ?_)
      refine J.conseq (I' := St w [] ((b4, cb (cI (nI 9) ++ cI (nI 20)) 23) :: ((bif m 8 then l13 else []) ++ (bif m 22 then [(bk, cb [.map (some mm)] 90), (mm, .map #[] 0)] else [])))) ?_ (fun w1 hw => by simp only [hm, cond_false, List.nil_append, List.append_nil] at hw; exact hw)
      refine J.unguard rfl rfl rfl ?_
      refine J.perm ([] ++ ((b4, cb (cI (nI 9) ++ cI (nI 20)) 23) :: ((bif m 8 then l13 else []) ++ (bif m 22 then [(bk, cb [.map (some mm)] 90), (mm, .map #[] 0)] else [])))) (.refl _) ?_
      refine J.callS (α := Value × List (Nat × Obj)) (V := (·.1)) (Pr := fun x => Vec 23 16 x.1 (owedV (nI 5) fx19 (nI 10)).length (fI (owedV (nI 5) fx19 (nI 10))) x.2) (L := (·.2)) (l1 := []) Ty.bd19 rfl rfl (fun w1 hw => owed_spec (nI 5) _ fx19 (nI 10) w1 (Row.own (cs := cI (nI 9) ++ cI (nI 20)) (tb := 23) (fr := (0, 0)) hw (.head _) rfl (Nat.le_refl _) : Row w1 (.slice (some ⟨b4, 0, none⟩) 2 2) 2 (fI fx19)) (by decide)) (fun q hvn => ?_)
      obtain ⟨vn, ln⟩ := q
      simp only at hvn ⊢
      refine J.nil (JX.finB rfl (fun w1 hw => ⟨⟨⟨v13, l13, vn, ln, bk, mm⟩, rfl, fun j h1 h2 => ?_, ?_⟩, trivial⟩))
      · match j, h1 with
        | 0, _ => (first | rfl | trivial)
        | 1, _ => (first | rfl | trivial)
        | 2, _ => (first | rfl | trivial)
        | 3, _ => (first | rfl | trivial)
        | 4, _ => (first | rfl | trivial)
        | 5, _ => (first | rfl | trivial)
        | 6, _ => (first | rfl | trivial)
        | 7, _ => (first | rfl | trivial)
        | 8, _ => (first | rfl | trivial)
        | 9, _ => (first | rfl | trivial)
        | 10, _ => (first | rfl | trivial)
        | 11, _ => (first | rfl | trivial)
        | 12, _ => (first | rfl | trivial)
        | 13, _ => (first | rfl | trivial)
        | 14, _ => (first | rfl | trivial)
        | 15, _ => (first | rfl | trivial)
        | 16, _ => exact absurd (h2.symm.trans hm) (by decide)
        | 17, _ => (first | rfl | trivial)
        | 18, _ => (first | rfl | trivial)
        | 19, _ => (first | rfl | trivial)
        | 20, _ => (first | rfl | trivial)
        | 21, _ => (first | rfl | trivial)
        | 22, _ => (first | rfl | trivial)
        | 23, _ => (first | rfl | trivial)
        | 24, _ => (first | rfl | trivial)
        | j + 25, h1 => omega
      show ((m 8 = true → Vec 23 16 v13 (owedV (nI 5) fx19 (nI 6)).length (fI (owedV (nI 5) fx19 (nI 6))) l13) ∧ (true = true → Vec 23 16 vn (owedV (nI 5) fx19 (nI 10)).length (fI (owedV (nI 5) fx19 (nI 10))) ln)) ∧ St w [] ((b4, cb (cI (nI 9) ++ cI (nI 20)) 23) :: ((bif m 8 then l13 else []) ++ ((bif true then ln else []) ++ (bif m 22 then [(bk, cb [.map (some mm)] 90), (mm, .map #[] 0)] else [])))) w1
      simp only [hm, cond_true, cond_false] at hw ⊢
      exact ⟨⟨hF.1, fun _ => hvn⟩, hw.perm (by (refine perm_cnt (fun _ => ?_)); simp only [cntB_append, cntB_cons, cntB_nil, Nat.add_zero, Nat.zero_add]; try ac_rfl)⟩
    · skip
      obtain ⟨v13, l13, v21, l21, bk, mm⟩ := x
      show J _ _ _ _ _ ((17, .bool true) :: _) _
      refine J.pr (fun hF => ?_)
      first | refine J.skip rfl rfl rfl rfl rfl ?_ | refine J.skipU rfl rfl rfl rfl ?_ | (refine J.unguard rfl rfl rfl ?_; refine J.move rfl rfl ?_)
      exact J.finX rfl (fun _ hw => ⟨⟨v13, l13, v21, l21, bk, mm⟩, rfl, fun _ _ _ => rfl, hF, hw⟩)
    · skip
      obtain ⟨v13, l13, v21, l21, bk, mm⟩ := x
      show J _ _ _ _ _ ((17, .bool true) :: (22, .slice (some ⟨b4, 0, none⟩) 2 2) :: _) _
      refine J.pr (fun hF => ?_)
      refine J.unguard rfl rfl rfl ?_
      refine J.sliceS (i := 0) (j := 1) Ty.el24 Ty.s23 rfl rfl rfl rfl rfl (by decide) (by decide) (by decide) rfl ?_
      refine J.name 23 rfl (show _ = Value.slice (some ⟨b4, 0, none⟩) 1 2 by rfl) ?_
      exact J.finX rfl (fun _ hw => ⟨⟨v13, l13, v21, l21, bk, mm⟩, rfl, fun _ _ _ => rfl, hF, hw⟩)
    · skip
      obtain ⟨v13, l13, v21, l21, bk, mm⟩ := x
      show J _ _ _ _ _ ((17, .bool true) :: (21, v21) :: (23, .slice (some ⟨b4, 0, none⟩) 1 2) :: (21, v21) :: _) _
      have hp16 : m 16 = true := predsT hp (by kernel_rfl)
      have hp16 : m 16 = true := predsT hp (by kernel_rfl)
      refine J.pr (fun hF => ?_)
      have hv21 := hF.2 hp16
      refine J.conseq (I' := St w [] ((b4, cb (cI (nI 9) ++ cI (nI 20)) 23) :: ((bif m 8 then l13 else []) ++ (l21 ++ (bif m 22 then [(bk, cb [.map (some mm)] 90), (mm, .map #[] 0)] else []))))) ?_ (fun w1 hw => by simp only [hp16, cond_true] at hw; exact hw)
      refine J.unguard rfl rfl rfl ?_
      refine J.callB (v := .bool (decide (owedV (nI 5) fx19 (nI 10) = [nI 9]))) (fun w1 w2 hw hb => hw.step hb) Ty.bd18 rfl rfl (fun w1 hw => sameIDs_spec _ _ (owedV (nI 5) fx19 (nI 10)) ([nI 9]) w1 (vec_rowM hv21 hw (fun q hq => by first | (simp [hq]; done) | (simp at hq; simp [hq]; done) | (simp at hq; subst hq; simp))) (Row.own (cs := cI (nI 9) ++ cI (nI 20)) (tb := 23) (fr := (0, 0)) hw (.head _) rfl (by decide) : Row w1 (.slice (some ⟨b4, 0, none⟩) 1 2) 1 (fI [nI 9])) (by rw [owed_fx10]; simp [fx19]) (by simp [fx19])) ?_
      refine J.name 24 rfl (show _ = Value.bool true by rw [owed_fx10]; simp [fx19]) ?_
      refine J.nil (JX.finB rfl (fun w1 hw => ⟨⟨⟨v13, l13, v21, l21, bk, mm⟩, rfl, fun j h1 h2 => ?_, ?_⟩, trivial⟩))
      · match j, h1 with
        | 0, _ => (first | rfl | trivial)
        | 1, _ => (first | rfl | trivial)
        | 2, _ => (first | rfl | trivial)
        | 3, _ => (first | rfl | trivial)
        | 4, _ => (first | rfl | trivial)
        | 5, _ => (first | rfl | trivial)
        | 6, _ => (first | rfl | trivial)
        | 7, _ => (first | rfl | trivial)
        | 8, _ => (first | rfl | trivial)
        | 9, _ => (first | rfl | trivial)
        | 10, _ => (first | rfl | trivial)
        | 11, _ => (first | rfl | trivial)
        | 12, _ => (first | rfl | trivial)
        | 13, _ => (first | rfl | trivial)
        | 14, _ => (first | rfl | trivial)
        | 15, _ => (first | rfl | trivial)
        | 16, _ => (first | rfl | trivial)
        | 17, _ => (first | rfl | trivial)
        | 18, _ => (first | rfl | trivial)
        | 19, _ => (first | rfl | trivial)
        | 20, _ => (first | rfl | trivial)
        | 21, _ => (first | rfl | trivial)
        | 22, _ => (first | rfl | trivial)
        | 23, _ => (first | rfl | trivial)
        | 24, _ => (first | rfl | trivial)
        | j + 25, h1 => omega
      show ((m 8 = true → Vec 23 16 v13 (owedV (nI 5) fx19 (nI 6)).length (fI (owedV (nI 5) fx19 (nI 6))) l13) ∧ (m 16 = true → Vec 23 16 v21 (owedV (nI 5) fx19 (nI 10)).length (fI (owedV (nI 5) fx19 (nI 10))) l21)) ∧ St w [] ((b4, cb (cI (nI 9) ++ cI (nI 20)) 23) :: ((bif m 8 then l13 else []) ++ ((bif m 16 then l21 else []) ++ (bif m 22 then [(bk, cb [.map (some mm)] 90), (mm, .map #[] 0)] else [])))) w1
      simp only [hp16, cond_true] at hw ⊢
      exact ⟨⟨hF.1, fun _ => hv21⟩, hw⟩
    · skip
      obtain ⟨v13, l13, v21, l21, bk, mm⟩ := x
      show J _ _ _ _ _ ((24, .bool true) :: (17, .bool true) :: _) _
      refine J.pr (fun hF => ?_)
      (first | refine J.pickT rfl rfl rfl ?_ | refine J.pickF rfl rfl rfl ?_)
      exact J.finX rfl (fun _ hw => ⟨⟨v13, l13, v21, l21, bk, mm⟩, rfl, fun _ _ _ => rfl, hF, hw⟩)
    · skip
      obtain ⟨v13, l13, v21, l21, bk, mm⟩ := x
      show J _ _ _ _ _ ((24, .bool true) :: (25, .bool true) :: _) _
      refine J.pr (fun hF => ?_)
      refine J.move rfl rfl ?_
      exact J.finX rfl (fun _ hw => ⟨⟨v13, l13, v21, l21, bk, mm⟩, rfl, fun _ _ _ => rfl, hF, hw⟩)
    · skip
      obtain ⟨v13, l13, v21, l21, bk, mm⟩ := x
      show J _ _ _ _ _ ((26, .bool true) :: (26, .bool true) :: _) _
      refine J.pr (fun hF => ?_)
      refine J.conseq (I' := St w [] ((b4, cb (cI (nI 9) ++ cI (nI 20)) 23) :: ((bif m 8 then l13 else []) ++ (bif m 16 then l21 else [])))) ?_ (fun w1 hw => by simp only [hm, cond_false, List.nil_append, List.append_nil] at hw; exact hw)
      refine J.unguard rfl rfl rfl ?_
      refine J.perm ([] ++ ((b4, cb (cI (nI 9) ++ cI (nI 20)) 23) :: ((bif m 8 then l13 else []) ++ (bif m 16 then l21 else [])))) (.refl _) ?_
      refine J.callS (α := Nat × Nat) (V := fun x => .pointer (some ⟨x.1, 0, none⟩)) (Pr := fun _ => True) (L := fun x => [(x.1, cb [.map (some x.2)] 90), (x.2, .map #[] 0)]) (l1 := []) Ty.bd24 rfl rfl (fun w1 hw => (new19_spec w1).mono fun _ _ ⟨q, h1, h2⟩ => ⟨q, h1, trivial, h2⟩) (fun q _ => ?_)
      obtain ⟨bkn, mmn⟩ := q
      simp only
      refine J.nil (JX.finB rfl (fun w1 hw => ⟨⟨⟨v13, l13, v21, l21, bkn, mmn⟩, rfl, fun j h1 h2 => ?_, ?_⟩, trivial⟩))
      · match j, h1 with
        | 0, _ => (first | rfl | trivial)
        | 1, _ => (first | rfl | trivial)
        | 2, _ => (first | rfl | trivial)
        | 3, _ => (first | rfl | trivial)
        | 4, _ => (first | rfl | trivial)
        | 5, _ => (first | rfl | trivial)
        | 6, _ => (first | rfl | trivial)
        | 7, _ => (first | rfl | trivial)
        | 8, _ => (first | rfl | trivial)
        | 9, _ => (first | rfl | trivial)
        | 10, _ => (first | rfl | trivial)
        | 11, _ => (first | rfl | trivial)
        | 12, _ => (first | rfl | trivial)
        | 13, _ => (first | rfl | trivial)
        | 14, _ => (first | rfl | trivial)
        | 15, _ => (first | rfl | trivial)
        | 16, _ => (first | rfl | trivial)
        | 17, _ => (first | rfl | trivial)
        | 18, _ => (first | rfl | trivial)
        | 19, _ => (first | rfl | trivial)
        | 20, _ => (first | rfl | trivial)
        | 21, _ => (first | rfl | trivial)
        | 22, _ => exact absurd (h2.symm.trans hm) (by decide)
        | 23, _ => (first | rfl | trivial)
        | 24, _ => (first | rfl | trivial)
        | j + 25, h1 => omega
      show ((m 8 = true → Vec 23 16 v13 (owedV (nI 5) fx19 (nI 6)).length (fI (owedV (nI 5) fx19 (nI 6))) l13) ∧ (m 16 = true → Vec 23 16 v21 (owedV (nI 5) fx19 (nI 10)).length (fI (owedV (nI 5) fx19 (nI 10))) l21)) ∧ St w [] ((b4, cb (cI (nI 9) ++ cI (nI 20)) 23) :: ((bif m 8 then l13 else []) ++ ((bif m 16 then l21 else []) ++ (bif true then [(bkn, cb [.map (some mmn)] 90), (mmn, .map #[] 0)] else [])))) w1
      simp only [hm, cond_true, cond_false] at hw ⊢
      exact ⟨hF, hw.perm (by (refine perm_cnt (fun _ => ?_)); simp only [cntB_append, cntB_cons, cntB_nil, Nat.add_zero, Nat.zero_add]; try ac_rfl)⟩
    · skip
      obtain ⟨v13, l13, v21, l21, bk, mm⟩ := x
      show J _ _ _ _ _ ((26, .bool true) :: (27, .pointer (some ⟨bk, 0, none⟩)) :: _) _
      have hp22 : m 22 = true := predsT hp (by kernel_rfl)
      refine J.pr (fun hF => ?_)
      first | refine J.skip rfl rfl rfl rfl rfl ?_ | refine J.skipU rfl rfl rfl rfl ?_ | (refine J.unguard rfl rfl rfl ?_; refine J.neNil Ty.u39 rfl rfl rfl ?_)
      exact J.finX rfl (fun _ hw => ⟨⟨v13, l13, v21, l21, bk, mm⟩, rfl, fun _ _ _ => rfl, hF, hw⟩)
    · skip
      obtain ⟨v13, l13, v21, l21, bk, mm⟩ := x
      show J _ _ _ _ _ ((28, .bool true) :: (26, .bool true) :: _) _
      refine J.pr (fun hF => ?_)
      (first | refine J.pickT rfl rfl rfl ?_ | refine J.pickF rfl rfl rfl ?_)
      exact J.finX rfl (fun _ hw => ⟨⟨v13, l13, v21, l21, bk, mm⟩, rfl, fun _ _ _ => rfl, hF, hw⟩)
  case htail =>
    intro x
    obtain ⟨v13, l13, v21, l21, bk, mm⟩ := x
    show J _ _ _ _ _ ((29, .bool true) :: (28, .bool true) :: (27, .pointer (some ⟨bk, 0, none⟩)) :: (26, .bool true) :: (25, .bool true) :: (24, .bool true) :: (23, .slice (some ⟨b4, 0, none⟩) 1 2) :: (22, .slice (some ⟨b4, 0, none⟩) 2 2) :: (21, v21) :: (20, .agg (cI (nI 10)).toArray) :: (19, .slice (some ⟨b4, 0, none⟩) 2 2) :: (18, .agg (cI (nI 5)).toArray) :: (17, .bool true) :: (16, .bool true) :: (15, .bool true) :: (14, .slice (some ⟨b4, 0, none⟩) 2 2) :: (13, v13) :: (12, .agg (cI (nI 6)).toArray) :: (11, .slice (some ⟨b4, 0, none⟩) 2 2) :: (10, .agg (cI (nI 5)).toArray) :: (9, .bool true) :: (8, .bool true) :: (7, .agg (cI (nI 6)).toArray) :: (6, .slice (some ⟨b4, 0, none⟩) 2 2) :: (5, .agg (cI (nI 5)).toArray) :: _) (fun w1 => ((true = true → Vec 23 16 v13 (owedV (nI 5) fx19 (nI 6)).length (fI (owedV (nI 5) fx19 (nI 6))) l13) ∧ (true = true → Vec 23 16 v21 (owedV (nI 5) fx19 (nI 10)).length (fI (owedV (nI 5) fx19 (nI 10))) l21)) ∧ St w [] ((b4, cb (cI (nI 9) ++ cI (nI 20)) 23) :: ((bif true then l13 else []) ++ ((bif true then l21 else []) ++ (bif true then [(bk, cb [.map (some mm)] 90), (mm, .map #[] 0)] else [])))) w1)
    refine J.pr (fun hF => ?_)
    refine J.assign rfl rfl ?_
    refine J.nil ?_
    refine JX.thenN (hK2 _ _ ?_)
    refine JC.ret ?_
    refine JX.ret1 rfl rfl (fun w hw => ?_)
    exact ⟨rfl, (hw.drop (List.nil_sublist _)).below⟩

set_option maxHeartbeats 1000000 in
theorem copiesOwes_spec (self : IDV) (v : Value) (xs : List IDV) (key : IDV) (w : World) (hr : Row w v xs.length (fI xs)) :
    Calls Try.prog 3 [.agg (cI self).toArray, v, .agg (cI key).toArray].toArray w fun r w' => r = .returned (.bool true) ∧ Bel w w' := by
  obtain ⟨a, c, rfl, hc, _⟩ := id hr
  refine calls_of_J (args := [.agg (cI self).toArray, .slice a xs.length c, .agg (cI key).toArray]) (e := [(0, .agg (cI self).toArray), (1, .slice a xs.length c), (2, .agg (cI key).toArray)]) Try.func3 rfl rfl ⟨rfl, rfl, rfl, trivial⟩ (St.start w) ?_
  refine JC.seq (fun K0 hK0 => ?_)
  refine JC.region ?_
  refine J.box rfl rfl rfl (fun b3 => ?_)
  refine J.box rfl rfl rfl (fun b5 => ?_)
  refine J.assign rfl rfl ?_
  refine J.nil ?_
  refine JX.thenN (hK0 _ _ ?_)
  refine JC.seq (fun K1 hK1 => ?_)
  refine JC.region ?_
  refine J.move rfl rfl ?_
  refine J.callB (v := cutV (.slice a xs.length c) (min xs.length 40)) (fun w1 w2 hw hb => hw.step hb) Ty.bd13 rfl rfl (fun w1 hw => cut19_spec _ xs 40 w1 (hr.below (hw.drop (List.nil_sublist _)).below)) ?_
  have hr2 := row_cut hr 40
  have hyl : (xs.take 40).length ≤ 40 := by rw [List.length_take]; omega
  generalize cutV (.slice a xs.length c) (min xs.length 40) = v2 at hr2 ⊢
  generalize xs.take 40 = fs at hr2 hyl ⊢
  obtain ⟨af, cf, rfl, hcf, _⟩ := id hr2
  refine J.assign rfl rfl ?_
  refine J.nil ?_
  refine JX.thenN (hK1 _ _ ?_)
  refine JC.seq (fun K2 hK2 => ?_)
  refine JC.region ?_
  refine J.move rfl rfl ?_
  refine J.perm ([] ++ ((b5, cb (cI key) 23) :: (b3, cb (cI self) 23) :: [])) (.refl _) ?_
  refine J.callS (α := Value × List (Nat × Obj)) (V := (·.1)) (Pr := fun x => Vec 23 16 x.1 (fs).length (fI (fs)) x.2) (L := (·.2)) (l1 := []) Ty.bd14 rfl rfl (fun w1 hw => copy_spec _ fs w1 (hr2.below (hw.drop (List.nil_sublist _)).below) (by omega)) (fun x hvc => ?_)
  obtain ⟨vc, lc⟩ := x
  simp only at hvc ⊢
  obtain ⟨ac, cc, rfl, hcc⟩ := hvc.form
  refine J.perm ((b5, cb (cI key) 23) :: (b3, cb (cI self) 23) :: lc) (by (refine perm_cnt (fun _ => ?_)); simp only [cntB_append, cntB_cons, cntB_nil, Nat.add_zero, Nat.zero_add]; try ac_rfl) ?_
  have hol := owed_len self fs key
  refine J.assign rfl rfl ?_
  refine J.nil ?_
  refine JX.thenN (hK2 _ _ ?_)
  refine JC.seq (fun K3 hK3 => ?_)
  apply JC.drawX (α := Value × List (Nat × Obj) × Value × List (Nat × Obj)) 28 (fun x => match x with | ⟨v28, l28, v32, l32⟩ => [.bool true, .bool true, .agg (cI self).toArray, .slice af fs.length cf, .agg (cI key).toArray, .bool (rootV self fs key), .agg (cI self).toArray, .slice ac fs.length cc, .agg (cI key).toArray, .bool (rootV self fs key), .bool true, .bool true, .bool true, .agg (cI self).toArray, .slice af fs.length cf, .agg (cI key).toArray, v28, .agg (cI self).toArray, .slice ac fs.length cc, .agg (cI key).toArray, v32, .bool true, .bool true, .bool true, .slice af fs.length cf, .slice ac fs.length cc, .bool true, .bool true]) (fun m x => match x with | ⟨v28, l28, v32, l32⟩ => fun w1 => ((m 16 = true → Vec 23 16 v28 (owedV self fs key).length (fI (owedV self fs key)) l28) ∧ (m 20 = true → Vec 23 16 v32 (owedV self fs key).length (fI (owedV self fs key)) l32)) ∧ St w [] ((b5, cb (cI key) 23) :: (b3, cb (cI self) 23) :: ((bif m 16 then l28 else []) ++ ((bif m 20 then l32 else []) ++ lc))) w1) Ty.mixed rfl rfl rfl (by kernel_rfl) rfl rfl ?hinit ?hstep ?htail
  case hinit => exact fun w1 hw => ⟨(.slice none 0 0, [], .slice none 0 0, []), ⟨fun h => (by cases h), fun h => (by cases h)⟩, hw.drew⟩
  case hstep =>
    refine ⟨fun m x hm hp => ?_, fun m x hm hp => ?_, fun m x hm hp => ?_, fun m x hm hp => ?_, fun m x hm hp => ?_, fun m x hm hp => ?_, fun m x hm hp => ?_, fun m x hm hp => ?_, fun m x hm hp => ?_, fun m x hm hp => ?_, fun m x hm hp => ?_, fun m x hm hp => ?_, fun m x hm hp => ?_, fun m x hm hp => ?_, fun m x hm hp => ?_, fun m x hm hp => ?_, fun m x hm hp => ?_, fun m x hm hp => ?_, fun m x hm hp => ?_, fun m x hm hp => ?_, fun m x hm hp => ?_, fun m x hm hp => ?_, fun m x hm hp => ?_, fun m x hm hp => ?_, fun m x hm hp => ?_, fun m x hm hp => ?_, fun m x hm hp => ?_, fun m x hm hp => ?_, trivial⟩
    · skip
      obtain ⟨v28, l28, v32, l32⟩ := x
      show J _ _ _ _ _ (_) _
      refine J.pr (fun hF => ?_)
      refine J.callB (v := .bool true) (fun w1 w2 hw hb => hw.step hb) Ty.bd15 rfl rfl (fun w1 hw => fixed19_spec w1) ?_
      exact J.finX rfl (fun _ hw => ⟨⟨v28, l28, v32, l32⟩, rfl, fun _ _ _ => rfl, hF, hw⟩)
    · skip
      obtain ⟨v28, l28, v32, l32⟩ := x
      show J _ _ _ _ _ ((12, .bool true) :: (12, .bool true) :: _) _
      refine J.pr (fun hF => ?_)
      refine J.move rfl rfl ?_
      exact J.finX rfl (fun _ hw => ⟨⟨v28, l28, v32, l32⟩, rfl, fun _ _ _ => rfl, hF, hw⟩)
    · skip
      obtain ⟨v28, l28, v32, l32⟩ := x
      show J _ _ _ _ _ ((13, .bool true) :: _) _
      refine J.pr (fun hF => ?_)
      refine J.unguard rfl rfl rfl ?_
      refine J.loadA (vs := cI self) Ty.a23 Ty.s23 rfl rfl (fun w1 hw => Cells.of_block (hw.own ((b3, cb (cI self) 23)) (by repeat first | exact .head _ | apply List.Mem.tail | apply List.mem_append_right)) rfl) rfl ?_
      exact J.finX rfl (fun _ hw => ⟨⟨v28, l28, v32, l32⟩, rfl, fun _ _ _ => rfl, hF, hw⟩)
    · skip
      obtain ⟨v28, l28, v32, l32⟩ := x
      show J _ _ _ _ _ ((13, .bool true) :: _) _
      refine J.pr (fun hF => ?_)
      first | refine J.skip rfl rfl rfl rfl rfl ?_ | refine J.skipU rfl rfl rfl rfl ?_ | (refine J.unguard rfl rfl rfl ?_; refine J.move rfl rfl ?_)
      exact J.finX rfl (fun _ hw => ⟨⟨v28, l28, v32, l32⟩, rfl, fun _ _ _ => rfl, hF, hw⟩)
    · skip
      obtain ⟨v28, l28, v32, l32⟩ := x
      show J _ _ _ _ _ ((13, .bool true) :: _) _
      refine J.pr (fun hF => ?_)
      refine J.unguard rfl rfl rfl ?_
      refine J.loadA (vs := cI key) Ty.a23 Ty.s23 rfl rfl (fun w1 hw => Cells.of_block (hw.own ((b5, cb (cI key) 23)) (by repeat first | exact .head _ | apply List.Mem.tail | apply List.mem_append_right)) rfl) rfl ?_
      exact J.finX rfl (fun _ hw => ⟨⟨v28, l28, v32, l32⟩, rfl, fun _ _ _ => rfl, hF, hw⟩)
    · skip
      obtain ⟨v28, l28, v32, l32⟩ := x
      show J _ _ _ _ _ ((13, .bool true) :: (13, .bool true) :: (16, .agg (cI key).toArray) :: (15, .slice af fs.length cf) :: (14, .agg (cI self).toArray) :: _) _
      refine J.pr (fun hF => ?_)
      refine J.unguard rfl rfl rfl ?_
      refine J.callB (v := .bool (rootV self fs key)) (fun w1 w2 hw hb => hw.step hb) Ty.bd16 rfl rfl (fun w1 hw => root_spec self _ fs key w1 (hr2.below (hw.drop (List.nil_sublist _)).below) (by omega)) ?_
      exact J.finX rfl (fun _ hw => ⟨⟨v28, l28, v32, l32⟩, rfl, fun _ _ _ => rfl, hF, hw⟩)
    · skip
      obtain ⟨v28, l28, v32, l32⟩ := x
      show J _ _ _ _ _ ((13, .bool true) :: _) _
      refine J.pr (fun hF => ?_)
      refine J.unguard rfl rfl rfl ?_
      refine J.loadA (vs := cI self) Ty.a23 Ty.s23 rfl rfl (fun w1 hw => Cells.of_block (hw.own ((b3, cb (cI self) 23)) (by repeat first | exact .head _ | apply List.Mem.tail | apply List.mem_append_right)) rfl) rfl ?_
      exact J.finX rfl (fun _ hw => ⟨⟨v28, l28, v32, l32⟩, rfl, fun _ _ _ => rfl, hF, hw⟩)
    · skip
      obtain ⟨v28, l28, v32, l32⟩ := x
      show J _ _ _ _ _ ((13, .bool true) :: _) _
      refine J.pr (fun hF => ?_)
      first | refine J.skip rfl rfl rfl rfl rfl ?_ | refine J.skipU rfl rfl rfl rfl ?_ | (refine J.unguard rfl rfl rfl ?_; refine J.move rfl rfl ?_)
      exact J.finX rfl (fun _ hw => ⟨⟨v28, l28, v32, l32⟩, rfl, fun _ _ _ => rfl, hF, hw⟩)
    · skip
      obtain ⟨v28, l28, v32, l32⟩ := x
      show J _ _ _ _ _ ((13, .bool true) :: _) _
      refine J.pr (fun hF => ?_)
      refine J.unguard rfl rfl rfl ?_
      refine J.loadA (vs := cI key) Ty.a23 Ty.s23 rfl rfl (fun w1 hw => Cells.of_block (hw.own ((b5, cb (cI key) 23)) (by repeat first | exact .head _ | apply List.Mem.tail | apply List.mem_append_right)) rfl) rfl ?_
      exact J.finX rfl (fun _ hw => ⟨⟨v28, l28, v32, l32⟩, rfl, fun _ _ _ => rfl, hF, hw⟩)
    · skip
      obtain ⟨v28, l28, v32, l32⟩ := x
      show J _ _ _ _ _ ((13, .bool true) :: (17, .bool (rootV self fs key)) :: (20, .agg (cI key).toArray) :: (19, .slice ac fs.length cc) :: (18, .agg (cI self).toArray) :: _) _
      refine J.pr (fun hF => ?_)
      refine J.unguard rfl rfl rfl ?_
      refine J.callB (v := .bool (rootV self fs key)) (fun w1 w2 hw hb => hw.step hb) Ty.bd17 rfl rfl (fun w1 hw => rroot_spec self _ fs key w1 (vec_rowM hvc hw (fun q hq => by first | (simp [hq]; done) | (simp at hq; simp [hq]; done) | (simp at hq; subst hq; simp))) (by omega)) ?_
      exact J.finX rfl (fun _ hw => ⟨⟨v28, l28, v32, l32⟩, rfl, fun _ _ _ => rfl, hF, hw⟩)
    · skip
      obtain ⟨v28, l28, v32, l32⟩ := x
      show J _ _ _ _ _ ((13, .bool true) :: (21, .bool (rootV self fs key)) :: (17, .bool (rootV self fs key)) :: _) _
      refine J.pr (fun hF => ?_)
      refine J.unguard rfl rfl rfl ?_
      refine J.eqBool (.inl rfl) Ty.u4 rfl rfl rfl ?_
      refine J.name 22 rfl (show _ = Value.bool true by simp) ?_
      exact J.finX rfl (fun _ hw => ⟨⟨v28, l28, v32, l32⟩, rfl, fun _ _ _ => rfl, hF, hw⟩)
    · skip
      obtain ⟨v28, l28, v32, l32⟩ := x
      show J _ _ _ _ _ ((22, .bool true) :: (13, .bool true) :: _) _
      refine J.pr (fun hF => ?_)
      (first | refine J.pickT rfl rfl rfl ?_ | refine J.pickF rfl rfl rfl ?_)
      exact J.finX rfl (fun _ hw => ⟨⟨v28, l28, v32, l32⟩, rfl, fun _ _ _ => rfl, hF, hw⟩)
    · skip
      obtain ⟨v28, l28, v32, l32⟩ := x
      show J _ _ _ _ _ ((21, .bool (rootV self fs key)) :: (23, .bool true) :: _) _
      refine J.pr (fun hF => ?_)
      refine J.move rfl rfl ?_
      exact J.finX rfl (fun _ hw => ⟨⟨v28, l28, v32, l32⟩, rfl, fun _ _ _ => rfl, hF, hw⟩)
    · skip
      obtain ⟨v28, l28, v32, l32⟩ := x
      show J _ _ _ _ _ ((24, .bool true) :: _) _
      refine J.pr (fun hF => ?_)
      refine J.unguard rfl rfl rfl ?_
      refine J.loadA (vs := cI self) Ty.a23 Ty.s23 rfl rfl (fun w1 hw => Cells.of_block (hw.own ((b3, cb (cI self) 23)) (by repeat first | exact .head _ | apply List.Mem.tail | apply List.mem_append_right)) rfl) rfl ?_
      exact J.finX rfl (fun _ hw => ⟨⟨v28, l28, v32, l32⟩, rfl, fun _ _ _ => rfl, hF, hw⟩)
    · skip
      obtain ⟨v28, l28, v32, l32⟩ := x
      show J _ _ _ _ _ ((24, .bool true) :: _) _
      refine J.pr (fun hF => ?_)
      first | refine J.skip rfl rfl rfl rfl rfl ?_ | refine J.skipU rfl rfl rfl rfl ?_ | (refine J.unguard rfl rfl rfl ?_; refine J.move rfl rfl ?_)
      exact J.finX rfl (fun _ hw => ⟨⟨v28, l28, v32, l32⟩, rfl, fun _ _ _ => rfl, hF, hw⟩)
    · skip
      obtain ⟨v28, l28, v32, l32⟩ := x
      show J _ _ _ _ _ ((24, .bool true) :: _) _
      refine J.pr (fun hF => ?_)
      refine J.unguard rfl rfl rfl ?_
      refine J.loadA (vs := cI key) Ty.a23 Ty.s23 rfl rfl (fun w1 hw => Cells.of_block (hw.own ((b5, cb (cI key) 23)) (by repeat first | exact .head _ | apply List.Mem.tail | apply List.mem_append_right)) rfl) rfl ?_
      exact J.finX rfl (fun _ hw => ⟨⟨v28, l28, v32, l32⟩, rfl, fun _ _ _ => rfl, hF, hw⟩)
    · skip
      obtain ⟨v28, l28, v32, l32⟩ := x
      show J _ _ _ _ _ ((24, .bool true) :: (24, .bool true) :: (27, .agg (cI key).toArray) :: (26, .slice af fs.length cf) :: (25, .agg (cI self).toArray) :: _) _
      refine J.pr (fun hF => ?_)
      refine J.conseq (I' := St w [] ((b5, cb (cI key) 23) :: (b3, cb (cI self) 23) :: ((bif m 20 then l32 else []) ++ lc))) ?_ (fun w1 hw => by simp only [hm, cond_false, List.nil_append, List.append_nil] at hw; exact hw)
      refine J.unguard rfl rfl rfl ?_
      refine J.perm ([] ++ ((b5, cb (cI key) 23) :: (b3, cb (cI self) 23) :: ((bif m 20 then l32 else []) ++ lc))) (.refl _) ?_
      refine J.callS (α := Value × List (Nat × Obj)) (V := (·.1)) (Pr := fun x => Vec 23 16 x.1 (owedV self fs key).length (fI (owedV self fs key)) x.2) (L := (·.2)) (l1 := []) Ty.bd19 rfl rfl (fun w1 hw => owed_spec self _ fs key w1 (hr2.below (hw.drop (List.nil_sublist _)).below) (by omega)) (fun q hvn => ?_)
      obtain ⟨vn, ln⟩ := q
      simp only at hvn ⊢
      refine J.nil (JX.finB rfl (fun w1 hw => ⟨⟨⟨vn, ln, v32, l32⟩, rfl, fun j h1 h2 => ?_, ?_⟩, trivial⟩))
      · match j, h1 with
        | 0, _ => (first | rfl | trivial)
        | 1, _ => (first | rfl | trivial)
        | 2, _ => (first | rfl | trivial)
        | 3, _ => (first | rfl | trivial)
        | 4, _ => (first | rfl | trivial)
        | 5, _ => (first | rfl | trivial)
        | 6, _ => (first | rfl | trivial)
        | 7, _ => (first | rfl | trivial)
        | 8, _ => (first | rfl | trivial)
        | 9, _ => (first | rfl | trivial)
        | 10, _ => (first | rfl | trivial)
        | 11, _ => (first | rfl | trivial)
        | 12, _ => (first | rfl | trivial)
        | 13, _ => (first | rfl | trivial)
        | 14, _ => (first | rfl | trivial)
        | 15, _ => (first | rfl | trivial)
        | 16, _ => exact absurd (h2.symm.trans hm) (by decide)
        | 17, _ => (first | rfl | trivial)
        | 18, _ => (first | rfl | trivial)
        | 19, _ => (first | rfl | trivial)
        | 20, _ => (first | rfl | trivial)
        | 21, _ => (first | rfl | trivial)
        | 22, _ => (first | rfl | trivial)
        | 23, _ => (first | rfl | trivial)
        | 24, _ => (first | rfl | trivial)
        | 25, _ => (first | rfl | trivial)
        | 26, _ => (first | rfl | trivial)
        | 27, _ => (first | rfl | trivial)
        | j + 28, h1 => omega
      show ((true = true → Vec 23 16 vn (owedV self fs key).length (fI (owedV self fs key)) ln) ∧ (m 20 = true → Vec 23 16 v32 (owedV self fs key).length (fI (owedV self fs key)) l32)) ∧ St w [] ((b5, cb (cI key) 23) :: (b3, cb (cI self) 23) :: ((bif true then ln else []) ++ ((bif m 20 then l32 else []) ++ lc))) w1
      simp only [hm, cond_true, cond_false] at hw ⊢
      exact ⟨⟨fun _ => hvn, hF.2⟩, hw.perm (by (refine perm_cnt (fun _ => ?_)); simp only [cntB_append, cntB_cons, cntB_nil, Nat.add_zero, Nat.zero_add]; try ac_rfl)⟩
    · skip
      obtain ⟨v28, l28, v32, l32⟩ := x
      show J _ _ _ _ _ ((24, .bool true) :: _) _
      refine J.pr (fun hF => ?_)
      refine J.unguard rfl rfl rfl ?_
      refine J.loadA (vs := cI self) Ty.a23 Ty.s23 rfl rfl (fun w1 hw => Cells.of_block (hw.own ((b3, cb (cI self) 23)) (by repeat first | exact .head _ | apply List.Mem.tail | apply List.mem_append_right)) rfl) rfl ?_
      exact J.finX rfl (fun _ hw => ⟨⟨v28, l28, v32, l32⟩, rfl, fun _ _ _ => rfl, hF, hw⟩)
    · skip
      obtain ⟨v28, l28, v32, l32⟩ := x
      show J _ _ _ _ _ ((24, .bool true) :: _) _
      refine J.pr (fun hF => ?_)
      first | refine J.skip rfl rfl rfl rfl rfl ?_ | refine J.skipU rfl rfl rfl rfl ?_ | (refine J.unguard rfl rfl rfl ?_; refine J.move rfl rfl ?_)
      exact J.finX rfl (fun _ hw => ⟨⟨v28, l28, v32, l32⟩, rfl, fun _ _ _ => rfl, hF, hw⟩)
    · skip
      obtain ⟨v28, l28, v32, l32⟩ := x
      show J _ _ _ _ _ ((24, .bool true) :: _) _
      refine J.pr (fun hF => ?_)
      refine J.unguard rfl rfl rfl ?_
      refine J.loadA (vs := cI key) Ty.a23 Ty.s23 rfl rfl (fun w1 hw => Cells.of_block (hw.own ((b5, cb (cI key) 23)) (by repeat first | exact .head _ | apply List.Mem.tail | apply List.mem_append_right)) rfl) rfl ?_
      exact J.finX rfl (fun _ hw => ⟨⟨v28, l28, v32, l32⟩, rfl, fun _ _ _ => rfl, hF, hw⟩)
    · skip
      obtain ⟨v28, l28, v32, l32⟩ := x
      show J _ _ _ _ _ ((24, .bool true) :: (28, v28) :: (31, .agg (cI key).toArray) :: (30, .slice ac fs.length cc) :: (29, .agg (cI self).toArray) :: _) _
      have hp16 : m 16 = true := predsT hp (by kernel_rfl)
      refine J.pr (fun hF => ?_)
      refine J.conseq (I' := St w [] ((b5, cb (cI key) 23) :: (b3, cb (cI self) 23) :: ((bif m 16 then l28 else []) ++ lc))) ?_ (fun w1 hw => by simp only [hm, cond_false, List.nil_append, List.append_nil] at hw; exact hw)
      refine J.unguard rfl rfl rfl ?_
      refine J.perm ([] ++ ((b5, cb (cI key) 23) :: (b3, cb (cI self) 23) :: ((bif m 16 then l28 else []) ++ lc))) (.refl _) ?_
      refine J.callS (α := Value × List (Nat × Obj)) (V := (·.1)) (Pr := fun x => Vec 23 16 x.1 (owedV self fs key).length (fI (owedV self fs key)) x.2) (L := (·.2)) (l1 := []) Ty.bd20 rfl rfl (fun w1 hw => rowed_spec self _ fs key w1 (vec_rowM hvc hw (fun q hq => by first | (simp [hq]; done) | (simp at hq; simp [hq]; done) | (simp at hq; subst hq; simp))) (by omega)) (fun q hvn => ?_)
      obtain ⟨vn, ln⟩ := q
      simp only at hvn ⊢
      refine J.nil (JX.finB rfl (fun w1 hw => ⟨⟨⟨v28, l28, vn, ln⟩, rfl, fun j h1 h2 => ?_, ?_⟩, trivial⟩))
      · match j, h1 with
        | 0, _ => (first | rfl | trivial)
        | 1, _ => (first | rfl | trivial)
        | 2, _ => (first | rfl | trivial)
        | 3, _ => (first | rfl | trivial)
        | 4, _ => (first | rfl | trivial)
        | 5, _ => (first | rfl | trivial)
        | 6, _ => (first | rfl | trivial)
        | 7, _ => (first | rfl | trivial)
        | 8, _ => (first | rfl | trivial)
        | 9, _ => (first | rfl | trivial)
        | 10, _ => (first | rfl | trivial)
        | 11, _ => (first | rfl | trivial)
        | 12, _ => (first | rfl | trivial)
        | 13, _ => (first | rfl | trivial)
        | 14, _ => (first | rfl | trivial)
        | 15, _ => (first | rfl | trivial)
        | 16, _ => (first | rfl | trivial)
        | 17, _ => (first | rfl | trivial)
        | 18, _ => (first | rfl | trivial)
        | 19, _ => (first | rfl | trivial)
        | 20, _ => exact absurd (h2.symm.trans hm) (by decide)
        | 21, _ => (first | rfl | trivial)
        | 22, _ => (first | rfl | trivial)
        | 23, _ => (first | rfl | trivial)
        | 24, _ => (first | rfl | trivial)
        | 25, _ => (first | rfl | trivial)
        | 26, _ => (first | rfl | trivial)
        | 27, _ => (first | rfl | trivial)
        | j + 28, h1 => omega
      show ((m 16 = true → Vec 23 16 v28 (owedV self fs key).length (fI (owedV self fs key)) l28) ∧ (true = true → Vec 23 16 vn (owedV self fs key).length (fI (owedV self fs key)) ln)) ∧ St w [] ((b5, cb (cI key) 23) :: (b3, cb (cI self) 23) :: ((bif m 16 then l28 else []) ++ ((bif true then ln else []) ++ lc))) w1
      simp only [hm, cond_true, cond_false] at hw ⊢
      exact ⟨⟨hF.1, fun _ => hvn⟩, hw.perm (by (refine perm_cnt (fun _ => ?_)); simp only [cntB_append, cntB_cons, cntB_nil, Nat.add_zero, Nat.zero_add]; try ac_rfl)⟩
    · skip
      obtain ⟨v28, l28, v32, l32⟩ := x
      show J _ _ _ _ _ ((24, .bool true) :: (32, v32) :: (32, v32) :: (28, v28) :: _) _
      have hp16 : m 16 = true := predsT hp (by kernel_rfl)
      have hp20 : m 20 = true := predsT hp (by kernel_rfl)
      have hp20 : m 20 = true := predsT hp (by kernel_rfl)
      refine J.pr (fun hF => ?_)
      have hv28 := hF.1 hp16
      have hv32 := hF.2 hp20
      refine J.conseq (I' := St w [] ((b5, cb (cI key) 23) :: (b3, cb (cI self) 23) :: (l28 ++ (l32 ++ lc)))) ?_ (fun w1 hw => by simp only [hp16, hp20, cond_true] at hw; exact hw)
      refine J.unguard rfl rfl rfl ?_
      refine J.callB (v := .bool (decide (owedV self fs key = owedV self fs key))) (fun w1 w2 hw hb => hw.step hb) Ty.bd18 rfl rfl (fun w1 hw => sameIDs_spec _ _ (owedV self fs key) (owedV self fs key) w1 (vec_rowM hv28 hw (fun q hq => by first | (simp [hq]; done) | (simp at hq; simp [hq]; done) | (simp at hq; subst hq; simp))) (vec_rowM hv32 hw (fun q hq => by first | (simp [hq]; done) | (simp at hq; simp [hq]; done) | (simp at hq; subst hq; simp))) (by omega) (by omega)) ?_
      refine J.name 33 rfl (show _ = Value.bool true by simp) ?_
      refine J.nil (JX.finB rfl (fun w1 hw => ⟨⟨⟨v28, l28, v32, l32⟩, rfl, fun j h1 h2 => ?_, ?_⟩, trivial⟩))
      · match j, h1 with
        | 0, _ => (first | rfl | trivial)
        | 1, _ => (first | rfl | trivial)
        | 2, _ => (first | rfl | trivial)
        | 3, _ => (first | rfl | trivial)
        | 4, _ => (first | rfl | trivial)
        | 5, _ => (first | rfl | trivial)
        | 6, _ => (first | rfl | trivial)
        | 7, _ => (first | rfl | trivial)
        | 8, _ => (first | rfl | trivial)
        | 9, _ => (first | rfl | trivial)
        | 10, _ => (first | rfl | trivial)
        | 11, _ => (first | rfl | trivial)
        | 12, _ => (first | rfl | trivial)
        | 13, _ => (first | rfl | trivial)
        | 14, _ => (first | rfl | trivial)
        | 15, _ => (first | rfl | trivial)
        | 16, _ => (first | rfl | trivial)
        | 17, _ => (first | rfl | trivial)
        | 18, _ => (first | rfl | trivial)
        | 19, _ => (first | rfl | trivial)
        | 20, _ => (first | rfl | trivial)
        | 21, _ => (first | rfl | trivial)
        | 22, _ => (first | rfl | trivial)
        | 23, _ => (first | rfl | trivial)
        | 24, _ => (first | rfl | trivial)
        | 25, _ => (first | rfl | trivial)
        | 26, _ => (first | rfl | trivial)
        | 27, _ => (first | rfl | trivial)
        | j + 28, h1 => omega
      show ((m 16 = true → Vec 23 16 v28 (owedV self fs key).length (fI (owedV self fs key)) l28) ∧ (m 20 = true → Vec 23 16 v32 (owedV self fs key).length (fI (owedV self fs key)) l32)) ∧ St w [] ((b5, cb (cI key) 23) :: (b3, cb (cI self) 23) :: ((bif m 16 then l28 else []) ++ ((bif m 20 then l32 else []) ++ lc))) w1
      simp only [hp16, hp20, cond_true] at hw ⊢
      exact ⟨⟨fun _ => hv28, fun _ => hv32⟩, hw⟩
    · skip
      obtain ⟨v28, l28, v32, l32⟩ := x
      show J _ _ _ _ _ ((33, .bool true) :: (24, .bool true) :: _) _
      refine J.pr (fun hF => ?_)
      (first | refine J.pickT rfl rfl rfl ?_ | refine J.pickF rfl rfl rfl ?_)
      exact J.finX rfl (fun _ hw => ⟨⟨v28, l28, v32, l32⟩, rfl, fun _ _ _ => rfl, hF, hw⟩)
    · skip
      obtain ⟨v28, l28, v32, l32⟩ := x
      show J _ _ _ _ _ ((33, .bool true) :: (34, .bool true) :: _) _
      refine J.pr (fun hF => ?_)
      refine J.move rfl rfl ?_
      exact J.finX rfl (fun _ hw => ⟨⟨v28, l28, v32, l32⟩, rfl, fun _ _ _ => rfl, hF, hw⟩)
    · skip
      obtain ⟨v28, l28, v32, l32⟩ := x
      show J _ _ _ _ _ ((35, .bool true) :: _) _
      refine J.pr (fun hF => ?_)
      first | refine J.skip rfl rfl rfl rfl rfl ?_ | refine J.skipU rfl rfl rfl rfl ?_ | (refine J.unguard rfl rfl rfl ?_; refine J.move rfl rfl ?_)
      exact J.finX rfl (fun _ hw => ⟨⟨v28, l28, v32, l32⟩, rfl, fun _ _ _ => rfl, hF, hw⟩)
    · skip
      obtain ⟨v28, l28, v32, l32⟩ := x
      show J _ _ _ _ _ ((35, .bool true) :: _) _
      refine J.pr (fun hF => ?_)
      first | refine J.skip rfl rfl rfl rfl rfl ?_ | refine J.skipU rfl rfl rfl rfl ?_ | (refine J.unguard rfl rfl rfl ?_; refine J.move rfl rfl ?_)
      exact J.finX rfl (fun _ hw => ⟨⟨v28, l28, v32, l32⟩, rfl, fun _ _ _ => rfl, hF, hw⟩)
    · skip
      obtain ⟨v28, l28, v32, l32⟩ := x
      show J _ _ _ _ _ ((35, .bool true) :: (35, .bool true) :: (37, .slice ac fs.length cc) :: (36, .slice af fs.length cf) :: _) _
      refine J.pr (fun hF => ?_)
      refine J.unguard rfl rfl rfl ?_
      refine J.callB (v := .bool (decide (fs = fs))) (fun w1 w2 hw hb => hw.step hb) Ty.bd18 rfl rfl (fun w1 hw => sameIDs_spec _ _ fs fs w1 (hr2.below (hw.drop (List.nil_sublist _)).below) (vec_rowM hvc hw (fun q hq => by first | (simp [hq]; done) | (simp at hq; simp [hq]; done) | (simp at hq; subst hq; simp))) (by omega) (by omega)) ?_
      refine J.name 38 rfl (show _ = Value.bool true by simp) ?_
      exact J.finX rfl (fun _ hw => ⟨⟨v28, l28, v32, l32⟩, rfl, fun _ _ _ => rfl, hF, hw⟩)
    · skip
      obtain ⟨v28, l28, v32, l32⟩ := x
      show J _ _ _ _ _ ((38, .bool true) :: (35, .bool true) :: _) _
      refine J.pr (fun hF => ?_)
      (first | refine J.pickT rfl rfl rfl ?_ | refine J.pickF rfl rfl rfl ?_)
      exact J.finX rfl (fun _ hw => ⟨⟨v28, l28, v32, l32⟩, rfl, fun _ _ _ => rfl, hF, hw⟩)
  case htail =>
    intro x
    obtain ⟨v28, l28, v32, l32⟩ := x
    show J _ _ _ _ _ ((39, .bool true) :: (38, .bool true) :: (37, .slice ac fs.length cc) :: (36, .slice af fs.length cf) :: (35, .bool true) :: (34, .bool true) :: (33, .bool true) :: (32, v32) :: (31, .agg (cI key).toArray) :: (30, .slice ac fs.length cc) :: (29, .agg (cI self).toArray) :: (28, v28) :: (27, .agg (cI key).toArray) :: (26, .slice af fs.length cf) :: (25, .agg (cI self).toArray) :: (24, .bool true) :: (23, .bool true) :: (22, .bool true) :: (21, .bool (rootV self fs key)) :: (20, .agg (cI key).toArray) :: (19, .slice ac fs.length cc) :: (18, .agg (cI self).toArray) :: (17, .bool (rootV self fs key)) :: (16, .agg (cI key).toArray) :: (15, .slice af fs.length cf) :: (14, .agg (cI self).toArray) :: (13, .bool true) :: (12, .bool true) :: _) (fun w1 => ((true = true → Vec 23 16 v28 (owedV self fs key).length (fI (owedV self fs key)) l28) ∧ (true = true → Vec 23 16 v32 (owedV self fs key).length (fI (owedV self fs key)) l32)) ∧ St w [] ((b5, cb (cI key) 23) :: (b3, cb (cI self) 23) :: ((bif true then l28 else []) ++ ((bif true then l32 else []) ++ lc))) w1)
    refine J.pr (fun hF => ?_)
    refine J.assign rfl rfl ?_
    refine J.nil ?_
    refine JX.thenN (hK3 _ _ ?_)
    refine JC.ret ?_
    refine JX.ret1 rfl rfl (fun w hw => ?_)
    exact ⟨rfl, (hw.drop (List.nil_sublist _)).below⟩

theorem copiesOwes_walk (w : World) (sc : List Value) (self : IDV) (hs : RId w sc self) (o : Sl IDV) (ho : RSl 16 16 RId w [o.v] o) (kc : List Value) (key : IDV) (hk : RId w kc key) :
    Calls Try.prog 3 [.agg sc.toArray, o.v, .agg kc.toArray].toArray w fun r w' => r = .returned (.bool true) ∧ Bel w w' := by
  cases hs
  cases hk
  exact copiesOwes_spec self o.v o.xs key w (rslG (c := cI) (sz := 16) (fun _ => rfl) (by omega) (fun _ _ _ h => h) ho)
end Go.Proofs.Ytbafhclandendaa
