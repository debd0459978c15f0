/-
  RingGrows: the walk.
-/
import Derived.Test.YtdpbgmbicdgdbaaLo
import Derived.Test.YtdpbgmbicdgdbaaRb
namespace Go.Proofs.Ytdpbgmbicdgdbaa
open Go.J Go.RowKit
set_option linter.unusedVariables false
set_option linter.unusedSimpArgs false
set_option maxRecDepth 4000
theorem grow_le {me m : IDV} {xs : List IDV} {half : Int} {k : Nat} (h : k = ((wantI me xs half).take (wantI me xs half).length).countP (fun x => !decide (x ∈ wantI me (xs ++ [m]) half))) : k ≤ 2 := by
  rw [List.take_length] at h
  rw [h]
  exact grow_gone me m xs half
theorem dec_two : Decodes Try.prog 42 (RArr 2 16 RId) := dec_arr Ty.ar42 Ty.s23 Ty.s42 dec_id

set_option maxHeartbeats 1000000 in
theorem grows_spec (v : Value) (xs : List IDV) (self more : IDV) (half : Int) (w : World) (hr : Row w v xs.length (fI xs)) :
    Calls Try.prog 8 [v, .agg (cI self ++ cI more).toArray, .int .i64 half].toArray w fun r w' => r = .returned (.bool true) ∧ Bel w w' := by
  refine calls_of_J (args := [v, .agg (cI self ++ cI more).toArray, .int .i64 half]) (e := [(0, v), (1, .agg (cI self ++ cI more).toArray), (2, .int .i64 half)]) Try.func8 rfl rfl ⟨rfl, rfl, rfl, trivial⟩ (St.start w) ?_
  refine JC.seq (fun K0 hK0 => ?_)
  refine JC.region ?_
  refine J.box rfl rfl rfl (fun b4 => ?_)
  refine J.assign rfl rfl ?_
  refine J.nil ?_
  refine JX.thenN (hK0 _ _ ?_)
  refine JC.seq (fun K1 hK1 => ?_)
  apply JC.drawX (α := Nat × Nat) 8 (fun x => match x with | ⟨x4, x5⟩ => [.pointer (some ⟨b4, 0 + (0 : Int).toNat * 16, none⟩), .agg (cI self).toArray, .pointer (some ⟨b4, 0 + (1 : Int).toNat * 16, none⟩), .agg (cI more).toArray, .pointer (some ⟨x4, 0, none⟩), .pointer (some ⟨x5, 0, none⟩), undef, undef]) (fun m x => match x with | ⟨x4, x5⟩ => fun w1 => ((m 6 = true → m 4 = true) ∧ (m 7 = true → m 5 = true)) ∧ St w [] ((b4, cb (cI self ++ cI more) 42) :: ((bif m 4 then [(x4, cb (bif m 6 then cI self else cI zI) 23)] else []) ++ (bif m 5 then [(x5, cb (bif m 7 then cI more else cI zI) 23)] else []))) w1) Ty.mixed rfl rfl rfl (by kernel_rfl) rfl rfl ?hinit ?hstep ?htail
  case hinit => exact fun w1 hw => ⟨(0, 0), ⟨fun h => (by cases h), fun h => (by cases h)⟩, hw.drew⟩
  case hstep =>
    refine ⟨fun m x hm hp => ?_, fun m x hm hp => ?_, fun m x hm hp => ?_, fun m x hm hp => ?_, fun m x hm hp => ?_, fun m x hm hp => ?_, fun m x hm hp => ?_, fun m x hm hp => ?_, trivial⟩
    · skip
      obtain ⟨x4, x5⟩ := x
      show J _ _ _ _ _ (_) (fun w1 => ((m 6 = true → m 4 = true) ∧ (m 7 = true → m 5 = true)) ∧ St w [] ((b4, cb (cI self ++ cI more) 42) :: ((bif m 4 then [(x4, cb (bif m 6 then cI self else cI zI) 23)] else []) ++ (bif m 5 then [(x5, cb (bif m 7 then cI more else cI zI) 23)] else []))) w1)
      refine J.pr (fun hF => ?_)
      refine J.indexAddrA Ty.ar42 Ty.s23 rfl rfl (by omega) (by omega) rfl ?_
      exact J.nil (JX.finB rfl (fun w1 hw => ⟨⟨⟨x4, x5⟩, rfl, fun _ _ _ => rfl, hF, hw⟩, trivial⟩))
    · skip
      obtain ⟨x4, x5⟩ := x
      show J _ _ _ _ _ ((16, .pointer (some ⟨b4, 0 + (0 : Int).toNat * 16, none⟩)) :: _) (fun w1 => ((m 6 = true → m 4 = true) ∧ (m 7 = true → m 5 = true)) ∧ St w [] ((b4, cb (cI self ++ cI more) 42) :: ((bif m 4 then [(x4, cb (bif m 6 then cI self else cI zI) 23)] else []) ++ (bif m 5 then [(x5, cb (bif m 7 then cI more else cI zI) 23)] else []))) w1)
      refine J.pr (fun hF => ?_)
      refine J.loadA (vs := cI self) Ty.a23 Ty.s23 rfl rfl (fun w1 hw => Cells.of_block (hw.own _ (.head _)) rfl) rfl ?_
      exact J.nil (JX.finB rfl (fun w1 hw => ⟨⟨⟨x4, x5⟩, rfl, fun _ _ _ => rfl, hF, hw⟩, trivial⟩))
    · skip
      obtain ⟨x4, x5⟩ := x
      show J _ _ _ _ _ (_) (fun w1 => ((m 6 = true → m 4 = true) ∧ (m 7 = true → m 5 = true)) ∧ St w [] ((b4, cb (cI self ++ cI more) 42) :: ((bif m 4 then [(x4, cb (bif m 6 then cI self else cI zI) 23)] else []) ++ (bif m 5 then [(x5, cb (bif m 7 then cI more else cI zI) 23)] else []))) w1)
      refine J.pr (fun hF => ?_)
      refine J.indexAddrA Ty.ar42 Ty.s23 rfl rfl (by omega) (by omega) rfl ?_
      exact J.nil (JX.finB rfl (fun w1 hw => ⟨⟨⟨x4, x5⟩, rfl, fun _ _ _ => rfl, hF, hw⟩, trivial⟩))
    · skip
      obtain ⟨x4, x5⟩ := x
      show J _ _ _ _ _ ((18, .pointer (some ⟨b4, 0 + (1 : Int).toNat * 16, none⟩)) :: _) (fun w1 => ((m 6 = true → m 4 = true) ∧ (m 7 = true → m 5 = true)) ∧ St w [] ((b4, cb (cI self ++ cI more) 42) :: ((bif m 4 then [(x4, cb (bif m 6 then cI self else cI zI) 23)] else []) ++ (bif m 5 then [(x5, cb (bif m 7 then cI more else cI zI) 23)] else []))) w1)
      refine J.pr (fun hF => ?_)
      refine J.loadA (vs := cI more) Ty.a23 Ty.s23 rfl rfl (fun w1 hw => Cells.of_block (hw.own _ (.head _)) rfl) rfl ?_
      exact J.nil (JX.finB rfl (fun w1 hw => ⟨⟨⟨x4, x5⟩, rfl, fun _ _ _ => rfl, hF, hw⟩, trivial⟩))
    · skip
      obtain ⟨x4, x5⟩ := x
      show J _ _ _ _ _ (_) (fun w1 => ((m 6 = true → m 4 = true) ∧ (m 7 = true → m 5 = true)) ∧ St w [] ((b4, cb (cI self ++ cI more) 42) :: ((bif m 4 then [(x4, cb (bif m 6 then cI self else cI zI) 23)] else []) ++ (bif m 5 then [(x5, cb (bif m 7 then cI more else cI zI) 23)] else []))) w1)
      refine J.pr (fun hF => ?_)
      have h6 : m 6 = false := by cases h : m 6 with
        | false => rfl
        | true => rw [hF.1 h] at hm; cases hm
      refine J.alloc Ty.zID rfl rfl (fun b7 => ?_)
      refine J.nil (JX.finB rfl (fun w1 hw => ⟨⟨⟨b7, x5⟩, rfl, fun j h1 h2 => ?_, ?_⟩, trivial⟩))
      · match j, h1 with
        | 0, _ => rfl
        | 1, _ => rfl
        | 2, _ => rfl
        | 3, _ => rfl
        | 4, _ => exact absurd (h2.symm.trans hm) (by decide)
        | 5, _ => rfl
        | 6, _ => rfl
        | 7, _ => rfl
        | j + 8, h1 => omega
      show ((m 6 = true → true = true) ∧ (m 7 = true → m 5 = true)) ∧ St w [] ((b4, cb (cI self ++ cI more) 42) :: ((bif true then [(b7, cb (bif m 6 then cI self else cI zI) 23)] else []) ++ (bif m 5 then [(x5, cb (bif m 7 then cI more else cI zI) 23)] else []))) w1
      simp only [hm, h6, cond_true, cond_false] at hw ⊢
      exact ⟨⟨fun _ => trivial, hF.2⟩, hw.perm (by (refine perm_cnt (fun _ => ?_)); simp only [cntB_append, cntB_cons, cntB_nil, Nat.add_zero, Nat.zero_add]; try ac_rfl)⟩
    · skip
      obtain ⟨x4, x5⟩ := x
      show J _ _ _ _ _ (_) (fun w1 => ((m 6 = true → m 4 = true) ∧ (m 7 = true → m 5 = true)) ∧ St w [] ((b4, cb (cI self ++ cI more) 42) :: ((bif m 4 then [(x4, cb (bif m 6 then cI self else cI zI) 23)] else []) ++ (bif m 5 then [(x5, cb (bif m 7 then cI more else cI zI) 23)] else []))) w1)
      refine J.pr (fun hF => ?_)
      have h7 : m 7 = false := by cases h : m 7 with
        | false => rfl
        | true => rw [hF.2 h] at hm; cases hm
      refine J.alloc Ty.zID rfl rfl (fun b8 => ?_)
      refine J.nil (JX.finB rfl (fun w1 hw => ⟨⟨⟨x4, b8⟩, rfl, fun j h1 h2 => ?_, ?_⟩, trivial⟩))
      · match j, h1 with
        | 0, _ => rfl
        | 1, _ => rfl
        | 2, _ => rfl
        | 3, _ => rfl
        | 4, _ => rfl
        | 5, _ => exact absurd (h2.symm.trans hm) (by decide)
        | 6, _ => rfl
        | 7, _ => rfl
        | j + 8, h1 => omega
      show ((m 6 = true → m 4 = true) ∧ (m 7 = true → true = true)) ∧ St w [] ((b4, cb (cI self ++ cI more) 42) :: ((bif m 4 then [(x4, cb (bif m 6 then cI self else cI zI) 23)] else []) ++ (bif true then [(b8, cb (bif m 7 then cI more else cI zI) 23)] else []))) w1
      simp only [hm, h7, cond_true, cond_false] at hw ⊢
      exact ⟨⟨hF.1, fun _ => trivial⟩, hw.perm (by (refine perm_cnt (fun _ => ?_)); simp only [cntB_append, cntB_cons, cntB_nil, Nat.add_zero, Nat.zero_add]; try ac_rfl)⟩
    · skip
      obtain ⟨x4, x5⟩ := x
      show J _ _ _ _ _ ((8, .pointer (some ⟨x5, 0, none⟩)) :: (7, .pointer (some ⟨x4, 0, none⟩)) :: (17, .agg (cI self).toArray) :: (16, .pointer (some ⟨b4, 0 + (0 : Int).toNat * 16, none⟩)) :: (17, .agg (cI self).toArray) :: (7, .pointer (some ⟨x4, 0, none⟩)) :: _) (fun w1 => ((m 6 = true → m 4 = true) ∧ (m 7 = true → m 5 = true)) ∧ St w [] ((b4, cb (cI self ++ cI more) 42) :: ((bif m 4 then [(x4, cb (bif m 6 then cI self else cI zI) 23)] else []) ++ (bif m 5 then [(x5, cb (bif m 7 then cI more else cI zI) 23)] else []))) w1)
      have hp4 : m 4 = true := predsT hp (by kernel_rfl)
      have hp4 : m 4 = true := predsT hp (by kernel_rfl)
      have hp5 : m 5 = true := predsT hp (by kernel_rfl)
      refine J.pr (fun hF => ?_)
      refine J.conseq (I' := St w [] ((x4, cb (cI zI) 23) :: (b4, cb (cI self ++ cI more) 42) :: (bif m 5 then [(x5, cb (bif m 7 then cI more else cI zI) 23)] else []))) ?_ (fun w1 hw => by simp only [hm, hp4, cond_true, cond_false] at hw; exact hw.perm (by (refine perm_cnt (fun _ => ?_)); simp only [cntB_append, cntB_cons, cntB_nil, Nat.add_zero, Nat.zero_add]; try ac_rfl))
      refine J.storeW (cs := cI zI) (vs := cI self) Ty.s23 rfl rfl rfl rfl rfl (by simp [Value.oneCell']) .here ?_
      refine J.nil (JX.finN undef (fun w1 hw => ⟨⟨x4, x5⟩, rfl, fun j h1 h2 => ?_, ?_⟩))
      · match j, h1 with
        | 0, _ => rfl
        | 1, _ => rfl
        | 2, _ => rfl
        | 3, _ => rfl
        | 4, _ => rfl
        | 5, _ => rfl
        | 6, _ => rfl
        | 7, _ => rfl
        | j + 8, h1 => omega
      show ((true = true → m 4 = true) ∧ (m 7 = true → m 5 = true)) ∧ St w [] ((b4, cb (cI self ++ cI more) 42) :: ((bif m 4 then [(x4, cb (bif true then cI self else cI zI) 23)] else []) ++ (bif m 5 then [(x5, cb (bif m 7 then cI more else cI zI) 23)] else []))) w1
      simp only [hm, hp4, cond_true, cond_false] at hw ⊢
      exact ⟨⟨fun _ => trivial, hF.2⟩, hw.perm (by (refine perm_cnt (fun _ => ?_)); simp only [cntB_append, cntB_cons, cntB_nil, Nat.add_zero, Nat.zero_add]; try ac_rfl)⟩
    · skip
      obtain ⟨x4, x5⟩ := x
      show J _ _ _ _ _ ((8, .pointer (some ⟨x5, 0, none⟩)) :: (7, .pointer (some ⟨x4, 0, none⟩)) :: (19, .agg (cI more).toArray) :: (18, .pointer (some ⟨b4, 0 + (1 : Int).toNat * 16, none⟩)) :: (17, .agg (cI self).toArray) :: (16, .pointer (some ⟨b4, 0 + (0 : Int).toNat * 16, none⟩)) :: (19, .agg (cI more).toArray) :: (8, .pointer (some ⟨x5, 0, none⟩)) :: _) (fun w1 => ((m 6 = true → m 4 = true) ∧ (m 7 = true → m 5 = true)) ∧ St w [] ((b4, cb (cI self ++ cI more) 42) :: ((bif m 4 then [(x4, cb (bif m 6 then cI self else cI zI) 23)] else []) ++ (bif m 5 then [(x5, cb (bif m 7 then cI more else cI zI) 23)] else []))) w1)
      have hp5 : m 5 = true := predsT hp (by kernel_rfl)
      have hp4 : m 4 = true := predsT hp (by kernel_rfl)
      have hp5 : m 5 = true := predsT hp (by kernel_rfl)
      refine J.pr (fun hF => ?_)
      refine J.conseq (I' := St w [] ((x5, cb (cI zI) 23) :: (b4, cb (cI self ++ cI more) 42) :: (bif m 4 then [(x4, cb (bif m 6 then cI self else cI zI) 23)] else []))) ?_ (fun w1 hw => by simp only [hm, hp5, cond_true, cond_false] at hw; exact hw.perm (by (refine perm_cnt (fun _ => ?_)); simp only [cntB_append, cntB_cons, cntB_nil, Nat.add_zero, Nat.zero_add]; try ac_rfl))
      refine J.storeW (cs := cI zI) (vs := cI more) Ty.s23 rfl rfl rfl rfl rfl (by simp [Value.oneCell']) .here ?_
      refine J.nil (JX.finN undef (fun w1 hw => ⟨⟨x4, x5⟩, rfl, fun j h1 h2 => ?_, ?_⟩))
      · match j, h1 with
        | 0, _ => rfl
        | 1, _ => rfl
        | 2, _ => rfl
        | 3, _ => rfl
        | 4, _ => rfl
        | 5, _ => rfl
        | 6, _ => rfl
        | 7, _ => rfl
        | j + 8, h1 => omega
      show ((m 6 = true → m 4 = true) ∧ (true = true → m 5 = true)) ∧ St w [] ((b4, cb (cI self ++ cI more) 42) :: ((bif m 4 then [(x4, cb (bif m 6 then cI self else cI zI) 23)] else []) ++ (bif m 5 then [(x5, cb (bif true then cI more else cI zI) 23)] else []))) w1
      simp only [hm, hp5, cond_true, cond_false] at hw ⊢
      exact ⟨⟨hF.1, fun _ => trivial⟩, hw.perm (by (refine perm_cnt (fun _ => ?_)); simp only [cntB_append, cntB_cons, cntB_nil, Nat.add_zero, Nat.zero_add]; try ac_rfl)⟩
  case htail =>
    intro x
    obtain ⟨x4, x5⟩ := x
    show J _ _ _ _ _ ((8, .pointer (some ⟨x5, 0, none⟩)) :: (7, .pointer (some ⟨x4, 0, none⟩)) :: (19, .agg (cI more).toArray) :: (18, .pointer (some ⟨b4, 0 + (1 : Int).toNat * 16, none⟩)) :: (17, .agg (cI self).toArray) :: (16, .pointer (some ⟨b4, 0 + (0 : Int).toNat * 16, none⟩)) :: _) (fun w1 => ((true = true → true = true) ∧ (true = true → true = true)) ∧ St w [] ((b4, cb (cI self ++ cI more) 42) :: ((bif true then [(x4, cb (bif true then cI self else cI zI) 23)] else []) ++ (bif true then [(x5, cb (bif true then cI more else cI zI) 23)] else []))) w1)
    refine J.pr (fun hF => ?_)
    refine J.conseq (I' := St w [] [(x4, cb (cI self) 23), (x5, cb (cI more) 23), (b4, cb (cI self ++ cI more) 42)]) ?_ (fun w1 hw => by simp only [cond_true] at hw; exact hw.perm (by (refine perm_cnt (fun _ => ?_)); simp only [cntB_append, cntB_cons, cntB_nil, Nat.add_zero, Nat.zero_add]; try ac_rfl))
    refine J.nil ?_
    refine JX.thenN (hK1 _ _ ?_)
    refine JC.seq (fun K2 hK2 => ?_)
    refine JC.region ?_
    refine J.move rfl rfl ?_
    refine J.callB (v := cutV v (min xs.length 40)) (fun w1 w2 hw hb => hw.step hb) Ty.bd14 rfl rfl (fun w1 hw => cut_spec v xs 40 w1 (hr.below (hw.drop (List.nil_sublist _)).below)) ?_
    have hr2 := row_cut hr 40
    have hyl : (xs.take 40).length ≤ 40 := by rw [List.length_take]; omega
    generalize cutV v (min xs.length 40) = v2 at hr2 ⊢
    generalize xs.take 40 = ys at hr2 hyl ⊢
    obtain ⟨a2, c2, rfl, hc2, _⟩ := id hr2
    refine J.assign rfl rfl ?_
    refine J.nil ?_
    refine JX.thenN (hK2 _ _ ?_)
    refine JC.seq (fun K3 hK3 => ?_)
    refine JC.region ?_
    refine J.loadA (vs := cI self) Ty.a23 Ty.s23 rfl rfl (fun w1 hw => Cells.of_block (hw.own _ (.head _)) rfl) rfl ?_
    refine J.move rfl rfl ?_
    refine J.move rfl rfl ?_
    refine J.perm ([] ++ ((x4, cb (cI self) 23) :: (x5, cb (cI more) 23) :: [(b4, cb (cI self ++ cI more) 42)])) (.refl _) ?_
    refine J.callS (α := Value × List (Nat × Obj)) (V := (·.1)) (Pr := fun x => Vec 23 16 x.1 (wantI self ys half).length (fI (wantI self ys half)) x.2) (L := (·.2)) (l1 := []) Ty.bd16 rfl rfl (fun w1 hw => want_spec self _ ys half w1 (hr2.below (hw.drop (List.nil_sublist _)).below) (by omega)) (fun x hv25 => ?_)
    obtain ⟨v25, l25⟩ := x
    simp only at hv25 ⊢
    have hwl := wantI_le self ys half
    obtain ⟨aw, cw, rfl, hcw⟩ := hv25.form
    refine J.perm ((x4, cb (cI self) 23) :: (x5, cb (cI more) 23) :: (l25 ++ [(b4, cb (cI self ++ cI more) 42)])) (by (refine perm_cnt (fun _ => ?_)); simp only [cntB_append, cntB_cons, cntB_nil, Nat.add_zero, Nat.zero_add]; try ac_rfl) ?_
    refine J.assign rfl rfl ?_
    refine J.nil ?_
    refine JX.thenN (hK3 _ _ ?_)
    refine JC.seq (fun K4 hK4 => ?_)
    apply JC.drawX (α := Value × List (Nat × Obj) × Nat × Value × List (Nat × Obj) × Value × List (Nat × Obj)) 8 (fun x => match x with | ⟨v28, l28, x30, v31, l31, v33, l33⟩ => [.agg (cI self).toArray, .slice a2 ys.length c2, v28, .agg (cI more).toArray, .slice (some ⟨x30, 0, none⟩) 1 1, v31, .int .i64 half, v33]) (fun m x => match x with | ⟨v28, l28, x30, v31, l31, v33, l33⟩ => fun w1 => ((m 2 = true → Vec 23 16 v28 (ys).length (fI (ys)) l28) ∧ (m 5 = true → Vec 23 16 v31 ((ys ++ [more])).length (fI ((ys ++ [more]))) l31) ∧ (m 7 = true → Vec 23 16 v33 (wantI self (ys ++ [more]) half).length (fI (wantI self (ys ++ [more]) half)) l33) ∧ (m 5 = true → m 2 = true)) ∧ St w [] ((x4, cb (cI self) 23) :: (x5, cb (cI more) 23) :: ((bif m 4 then [(x30, cb (cI more) 23)] else []) ++ ((bif m 5 then l31 else (bif m 2 then l28 else [])) ++ ((bif m 7 then l33 else []) ++ (l25 ++ [(b4, cb (cI self ++ cI more) 42)]))))) w1) Ty.mixed rfl rfl rfl (by kernel_rfl) rfl rfl ?hinit ?hstep ?htail
    case hinit => exact fun w1 hw => ⟨(.slice none 0 0, [], 0, .slice none 0 0, [], .slice none 0 0, []), ⟨fun h => (by cases h), fun h => (by cases h), fun h => (by cases h), fun h => (by cases h)⟩, hw.drew⟩
    case hstep =>
      refine ⟨fun m x hm hp => ?_, fun m x hm hp => ?_, fun m x hm hp => ?_, fun m x hm hp => ?_, fun m x hm hp => ?_, fun m x hm hp => ?_, fun m x hm hp => ?_, fun m x hm hp => ?_, trivial⟩
      · skip
        obtain ⟨v28, l28, x30, v31, l31, v33, l33⟩ := x
        show J _ _ _ _ _ (_) (fun w1 => ((m 2 = true → Vec 23 16 v28 (ys).length (fI (ys)) l28) ∧ (m 5 = true → Vec 23 16 v31 ((ys ++ [more])).length (fI ((ys ++ [more]))) l31) ∧ (m 7 = true → Vec 23 16 v33 (wantI self (ys ++ [more]) half).length (fI (wantI self (ys ++ [more]) half)) l33) ∧ (m 5 = true → m 2 = true)) ∧ St w [] ((x4, cb (cI self) 23) :: (x5, cb (cI more) 23) :: ((bif m 4 then [(x30, cb (cI more) 23)] else []) ++ ((bif m 5 then l31 else (bif m 2 then l28 else [])) ++ ((bif m 7 then l33 else []) ++ (l25 ++ [(b4, cb (cI self ++ cI more) 42)]))))) w1)
        refine J.pr (fun hF => ?_)
        refine J.loadA (vs := cI self) Ty.a23 Ty.s23 rfl rfl (fun w1 hw => Cells.of_block (hw.own _ (.head _)) rfl) rfl ?_
        exact J.nil (JX.finB rfl (fun w1 hw => ⟨⟨⟨v28, l28, x30, v31, l31, v33, l33⟩, rfl, fun _ _ _ => rfl, hF, hw⟩, trivial⟩))
      · skip
        obtain ⟨v28, l28, x30, v31, l31, v33, l33⟩ := x
        show J _ _ _ _ _ (_) (fun w1 => ((m 2 = true → Vec 23 16 v28 (ys).length (fI (ys)) l28) ∧ (m 5 = true → Vec 23 16 v31 ((ys ++ [more])).length (fI ((ys ++ [more]))) l31) ∧ (m 7 = true → Vec 23 16 v33 (wantI self (ys ++ [more]) half).length (fI (wantI self (ys ++ [more]) half)) l33) ∧ (m 5 = true → m 2 = true)) ∧ St w [] ((x4, cb (cI self) 23) :: (x5, cb (cI more) 23) :: ((bif m 4 then [(x30, cb (cI more) 23)] else []) ++ ((bif m 5 then l31 else (bif m 2 then l28 else [])) ++ ((bif m 7 then l33 else []) ++ (l25 ++ [(b4, cb (cI self ++ cI more) 42)]))))) w1)
        refine J.pr (fun hF => ?_)
        refine J.move rfl rfl ?_
        exact J.nil (JX.finB rfl (fun w1 hw => ⟨⟨⟨v28, l28, x30, v31, l31, v33, l33⟩, rfl, fun _ _ _ => rfl, hF, hw⟩, trivial⟩))
      · skip
        obtain ⟨v28, l28, x30, v31, l31, v33, l33⟩ := x
        show J _ _ _ _ _ ((27, .slice a2 ys.length c2) :: _) (fun w1 => ((m 2 = true → Vec 23 16 v28 (ys).length (fI (ys)) l28) ∧ (m 5 = true → Vec 23 16 v31 ((ys ++ [more])).length (fI ((ys ++ [more]))) l31) ∧ (m 7 = true → Vec 23 16 v33 (wantI self (ys ++ [more]) half).length (fI (wantI self (ys ++ [more]) half)) l33) ∧ (m 5 = true → m 2 = true)) ∧ St w [] ((x4, cb (cI self) 23) :: (x5, cb (cI more) 23) :: ((bif m 4 then [(x30, cb (cI more) 23)] else []) ++ ((bif m 5 then l31 else (bif m 2 then l28 else [])) ++ ((bif m 7 then l33 else []) ++ (l25 ++ [(b4, cb (cI self ++ cI more) 42)]))))) w1)
        refine J.pr (fun hF => ?_)
        have h5 : m 5 = false := by cases h : m 5 with
          | false => rfl
          | true => rw [hF.2.2.2 h] at hm; cases hm
        refine J.perm ([] ++ ((x4, cb (cI self) 23) :: (x5, cb (cI more) 23) :: ((bif m 4 then [(x30, cb (cI more) 23)] else []) ++ ((bif m 5 then l31 else (bif m 2 then l28 else [])) ++ ((bif m 7 then l33 else []) ++ (l25 ++ [(b4, cb (cI self ++ cI more) 42)])))))) (.refl _) ?_
        refine J.callS (α := Value × List (Nat × Obj)) (V := (·.1)) (Pr := fun x => Vec 23 16 x.1 (ys).length (fI (ys)) x.2) (L := (·.2)) (l1 := []) Ty.bd15 rfl rfl (fun w1 hw => copy_spec _ ys w1 (hr2.below (hw.drop (List.nil_sublist _)).below) (by omega)) (fun x hvn => ?_)
        obtain ⟨vn, ln⟩ := x
        simp only at hvn ⊢
        refine J.nil (JX.finB rfl (fun w1 hw => ⟨⟨⟨vn, ln, x30, v31, l31, v33, l33⟩, rfl, fun j h1 h2 => ?_, ?_⟩, trivial⟩))
        · match j, h1 with
          | 0, _ => rfl
          | 1, _ => rfl
          | 2, _ => exact absurd (h2.symm.trans hm) (by decide)
          | 3, _ => rfl
          | 4, _ => rfl
          | 5, _ => rfl
          | 6, _ => rfl
          | 7, _ => rfl
          | j + 8, h1 => omega
        show ((true = true → Vec 23 16 vn (ys).length (fI (ys)) ln) ∧ (m 5 = true → Vec 23 16 v31 ((ys ++ [more])).length (fI ((ys ++ [more]))) l31) ∧ (m 7 = true → Vec 23 16 v33 (wantI self (ys ++ [more]) half).length (fI (wantI self (ys ++ [more]) half)) l33) ∧ (m 5 = true → true = true)) ∧ St w [] ((x4, cb (cI self) 23) :: (x5, cb (cI more) 23) :: ((bif m 4 then [(x30, cb (cI more) 23)] else []) ++ ((bif m 5 then l31 else (bif true then ln else [])) ++ ((bif m 7 then l33 else []) ++ (l25 ++ [(b4, cb (cI self ++ cI more) 42)]))))) w1
        simp only [hm, h5, cond_true, cond_false] at hw ⊢
        exact ⟨⟨fun _ => hvn, fun h => (by cases h), hF.2.2.1, fun h => (by cases h)⟩, hw.perm (by (refine perm_cnt (fun _ => ?_)); simp only [cntB_append, cntB_cons, cntB_nil, Nat.add_zero, Nat.zero_add]; try ac_rfl)⟩
      · skip
        obtain ⟨v28, l28, x30, v31, l31, v33, l33⟩ := x
        show J _ _ _ _ _ (_) (fun w1 => ((m 2 = true → Vec 23 16 v28 (ys).length (fI (ys)) l28) ∧ (m 5 = true → Vec 23 16 v31 ((ys ++ [more])).length (fI ((ys ++ [more]))) l31) ∧ (m 7 = true → Vec 23 16 v33 (wantI self (ys ++ [more]) half).length (fI (wantI self (ys ++ [more]) half)) l33) ∧ (m 5 = true → m 2 = true)) ∧ St w [] ((x4, cb (cI self) 23) :: (x5, cb (cI more) 23) :: ((bif m 4 then [(x30, cb (cI more) 23)] else []) ++ ((bif m 5 then l31 else (bif m 2 then l28 else [])) ++ ((bif m 7 then l33 else []) ++ (l25 ++ [(b4, cb (cI self ++ cI more) 42)]))))) w1)
        refine J.pr (fun hF => ?_)
        refine J.loadA (vs := cI more) Ty.a23 Ty.s23 rfl rfl (fun w1 hw => Cells.of_block (hw.own _ (.tail _ (.head _))) rfl) rfl ?_
        exact J.nil (JX.finB rfl (fun w1 hw => ⟨⟨⟨v28, l28, x30, v31, l31, v33, l33⟩, rfl, fun _ _ _ => rfl, hF, hw⟩, trivial⟩))
      · skip
        obtain ⟨v28, l28, x30, v31, l31, v33, l33⟩ := x
        show J _ _ _ _ _ ((29, .agg (cI more).toArray) :: _) (fun w1 => ((m 2 = true → Vec 23 16 v28 (ys).length (fI (ys)) l28) ∧ (m 5 = true → Vec 23 16 v31 ((ys ++ [more])).length (fI ((ys ++ [more]))) l31) ∧ (m 7 = true → Vec 23 16 v33 (wantI self (ys ++ [more]) half).length (fI (wantI self (ys ++ [more]) half)) l33) ∧ (m 5 = true → m 2 = true)) ∧ St w [] ((x4, cb (cI self) 23) :: (x5, cb (cI more) 23) :: ((bif m 4 then [(x30, cb (cI more) 23)] else []) ++ ((bif m 5 then l31 else (bif m 2 then l28 else [])) ++ ((bif m 7 then l33 else []) ++ (l25 ++ [(b4, cb (cI self ++ cI more) 42)]))))) w1)
        refine J.pr (fun hF => ?_)
        refine J.buildSl Ty.el24 Ty.s23 Ty.zID rfl rfl rfl rfl rfl rfl rfl (fun b30 => ?_)
        refine J.nil (JX.finB rfl (fun w1 hw => ⟨⟨⟨v28, l28, b30, v31, l31, v33, l33⟩, rfl, fun j h1 h2 => ?_, ?_⟩, trivial⟩))
        · match j, h1 with
          | 0, _ => rfl
          | 1, _ => rfl
          | 2, _ => rfl
          | 3, _ => rfl
          | 4, _ => exact absurd (h2.symm.trans hm) (by decide)
          | 5, _ => rfl
          | 6, _ => rfl
          | 7, _ => rfl
          | j + 8, h1 => omega
        show ((m 2 = true → Vec 23 16 v28 (ys).length (fI (ys)) l28) ∧ (m 5 = true → Vec 23 16 v31 ((ys ++ [more])).length (fI ((ys ++ [more]))) l31) ∧ (m 7 = true → Vec 23 16 v33 (wantI self (ys ++ [more]) half).length (fI (wantI self (ys ++ [more]) half)) l33) ∧ (m 5 = true → m 2 = true)) ∧ St w [] ((x4, cb (cI self) 23) :: (x5, cb (cI more) 23) :: ((bif true then [(b30, cb (cI more) 23)] else []) ++ ((bif m 5 then l31 else (bif m 2 then l28 else [])) ++ ((bif m 7 then l33 else []) ++ (l25 ++ [(b4, cb (cI self ++ cI more) 42)]))))) w1
        simp only [hm, cond_true, cond_false] at hw ⊢
        exact ⟨hF, hw.perm (by (refine perm_cnt (fun _ => ?_)); simp only [cntB_append, cntB_cons, cntB_nil, Nat.add_zero, Nat.zero_add]; try ac_rfl)⟩
      · skip
        obtain ⟨v28, l28, x30, v31, l31, v33, l33⟩ := x
        show J _ _ _ _ _ ((28, v28) :: (30, .slice (some ⟨x30, 0, none⟩) 1 1) :: (28, v28) :: _) (fun w1 => ((m 2 = true → Vec 23 16 v28 (ys).length (fI (ys)) l28) ∧ (m 5 = true → Vec 23 16 v31 ((ys ++ [more])).length (fI ((ys ++ [more]))) l31) ∧ (m 7 = true → Vec 23 16 v33 (wantI self (ys ++ [more]) half).length (fI (wantI self (ys ++ [more]) half)) l33) ∧ (m 5 = true → m 2 = true)) ∧ St w [] ((x4, cb (cI self) 23) :: (x5, cb (cI more) 23) :: ((bif m 4 then [(x30, cb (cI more) 23)] else []) ++ ((bif m 5 then l31 else (bif m 2 then l28 else [])) ++ ((bif m 7 then l33 else []) ++ (l25 ++ [(b4, cb (cI self ++ cI more) 42)]))))) w1)
        have hp2 : m 2 = true := predsT hp (by kernel_rfl)
        have hp4 : m 4 = true := predsT hp (by kernel_rfl)
        have hp2 : m 2 = true := predsT hp (by kernel_rfl)
        refine J.pr (fun hF => ?_)
        refine J.conseq (I' := St w [] (l28 ++ ((x30, cb (cI more) 23) :: (x4, cb (cI self) 23) :: (x5, cb (cI more) 23) :: ((bif m 7 then l33 else []) ++ (l25 ++ [(b4, cb (cI self ++ cI more) 42)]))))) ?_ (fun w1 hw => by simp only [hm, hp2, hp4, cond_true, cond_false] at hw; exact hw.perm (by (refine perm_cnt (fun _ => ?_)); simp only [cntB_append, cntB_cons, cntB_nil, Nat.add_zero, Nat.zero_add]; try ac_rfl))
        refine J.append (lp := l28) (xs := fI ys) (ys := cI more) (k := ys.length) (m := 1) Ty.el24 Ty.s23 Ty.b23 Ty.zID rfl (.inl ⟨23, Ty.u24⟩) rfl rfl (hF.1 hp2) (fun w3 hw3 => .inl (Row.own hw3 (List.mem_append_right _ (.head _)) rfl (Nat.le_refl _))) rfl (fun y hy => fI_one (xs := [more]) (by simpa [fI] using hy)) (by omega) (by omega) rfl (fun vn ln hvn => ?_)
        refine J.nil (JX.finB rfl (fun w1 hw => ⟨⟨⟨v28, l28, x30, vn, ln, v33, l33⟩, rfl, fun j h1 h2 => ?_, ?_⟩, trivial⟩))
        · match j, h1 with
          | 0, _ => rfl
          | 1, _ => rfl
          | 2, _ => rfl
          | 3, _ => rfl
          | 4, _ => rfl
          | 5, _ => exact absurd (h2.symm.trans hm) (by decide)
          | 6, _ => rfl
          | 7, _ => rfl
          | j + 8, h1 => omega
        show ((m 2 = true → Vec 23 16 v28 (ys).length (fI (ys)) l28) ∧ (true = true → Vec 23 16 vn ((ys ++ [more])).length (fI ((ys ++ [more]))) ln) ∧ (m 7 = true → Vec 23 16 v33 (wantI self (ys ++ [more]) half).length (fI (wantI self (ys ++ [more]) half)) l33) ∧ (true = true → m 2 = true)) ∧ St w [] ((x4, cb (cI self) 23) :: (x5, cb (cI more) 23) :: ((bif m 4 then [(x30, cb (cI more) 23)] else []) ++ ((bif true then ln else (bif m 2 then l28 else [])) ++ ((bif m 7 then l33 else []) ++ (l25 ++ [(b4, cb (cI self ++ cI more) 42)]))))) w1
        simp only [hm, hp2, hp4, cond_true, cond_false] at hw ⊢
        exact ⟨⟨fun _ => hF.1 hp2, fun _ => by rw [List.length_append, fI_append]; simpa [fI] using hvn, hF.2.2.1, fun _ => trivial⟩, hw.perm (by (refine perm_cnt (fun _ => ?_)); simp only [cntB_append, cntB_cons, cntB_nil, Nat.add_zero, Nat.zero_add]; try ac_rfl)⟩
      · skip
        obtain ⟨v28, l28, x30, v31, l31, v33, l33⟩ := x
        show J _ _ _ _ _ (_) (fun w1 => ((m 2 = true → Vec 23 16 v28 (ys).length (fI (ys)) l28) ∧ (m 5 = true → Vec 23 16 v31 ((ys ++ [more])).length (fI ((ys ++ [more]))) l31) ∧ (m 7 = true → Vec 23 16 v33 (wantI self (ys ++ [more]) half).length (fI (wantI self (ys ++ [more]) half)) l33) ∧ (m 5 = true → m 2 = true)) ∧ St w [] ((x4, cb (cI self) 23) :: (x5, cb (cI more) 23) :: ((bif m 4 then [(x30, cb (cI more) 23)] else []) ++ ((bif m 5 then l31 else (bif m 2 then l28 else [])) ++ ((bif m 7 then l33 else []) ++ (l25 ++ [(b4, cb (cI self ++ cI more) 42)]))))) w1)
        refine J.pr (fun hF => ?_)
        refine J.move rfl rfl ?_
        exact J.nil (JX.finB rfl (fun w1 hw => ⟨⟨⟨v28, l28, x30, v31, l31, v33, l33⟩, rfl, fun _ _ _ => rfl, hF, hw⟩, trivial⟩))
      · skip
        obtain ⟨v28, l28, x30, v31, l31, v33, l33⟩ := x
        show J _ _ _ _ _ ((31, v31) :: (32, .int .i64 half) :: (31, v31) :: (26, .agg (cI self).toArray) :: _) (fun w1 => ((m 2 = true → Vec 23 16 v28 (ys).length (fI (ys)) l28) ∧ (m 5 = true → Vec 23 16 v31 ((ys ++ [more])).length (fI ((ys ++ [more]))) l31) ∧ (m 7 = true → Vec 23 16 v33 (wantI self (ys ++ [more]) half).length (fI (wantI self (ys ++ [more]) half)) l33) ∧ (m 5 = true → m 2 = true)) ∧ St w [] ((x4, cb (cI self) 23) :: (x5, cb (cI more) 23) :: ((bif m 4 then [(x30, cb (cI more) 23)] else []) ++ ((bif m 5 then l31 else (bif m 2 then l28 else [])) ++ ((bif m 7 then l33 else []) ++ (l25 ++ [(b4, cb (cI self ++ cI more) 42)]))))) w1)
        have hp5 : m 5 = true := predsT hp (by kernel_rfl)
        have hp5 : m 5 = true := predsT hp (by kernel_rfl)
        refine J.pr (fun hF => ?_)
        refine J.perm ([] ++ ((x4, cb (cI self) 23) :: (x5, cb (cI more) 23) :: ((bif m 4 then [(x30, cb (cI more) 23)] else []) ++ ((bif m 5 then l31 else (bif m 2 then l28 else [])) ++ ((bif m 7 then l33 else []) ++ (l25 ++ [(b4, cb (cI self ++ cI more) 42)])))))) (.refl _) ?_
        refine J.callS (α := Value × List (Nat × Obj)) (V := (·.1)) (Pr := fun x => Vec 23 16 x.1 (wantI self (ys ++ [more]) half).length (fI (wantI self (ys ++ [more]) half)) x.2) (L := (·.2)) (l1 := []) Ty.bd16 rfl rfl (fun w1 hw => want_spec self v31 (ys ++ [more]) half w1 ((hF.2.1 hp5).rowM hw (fun q hq => by simp [hp5, hq])) (by simp; omega)) (fun x hvn => ?_)
        obtain ⟨vn, ln⟩ := x
        simp only at hvn ⊢
        refine J.nil (JX.finB rfl (fun w1 hw => ⟨⟨⟨v28, l28, x30, v31, l31, vn, ln⟩, rfl, fun j h1 h2 => ?_, ?_⟩, trivial⟩))
        · match j, h1 with
          | 0, _ => rfl
          | 1, _ => rfl
          | 2, _ => rfl
          | 3, _ => rfl
          | 4, _ => rfl
          | 5, _ => rfl
          | 6, _ => rfl
          | 7, _ => exact absurd (h2.symm.trans hm) (by decide)
          | j + 8, h1 => omega
        show ((m 2 = true → Vec 23 16 v28 (ys).length (fI (ys)) l28) ∧ (m 5 = true → Vec 23 16 v31 ((ys ++ [more])).length (fI ((ys ++ [more]))) l31) ∧ (true = true → Vec 23 16 vn (wantI self (ys ++ [more]) half).length (fI (wantI self (ys ++ [more]) half)) ln) ∧ (m 5 = true → m 2 = true)) ∧ St w [] ((x4, cb (cI self) 23) :: (x5, cb (cI more) 23) :: ((bif m 4 then [(x30, cb (cI more) 23)] else []) ++ ((bif m 5 then l31 else (bif m 2 then l28 else [])) ++ ((bif true then ln else []) ++ (l25 ++ [(b4, cb (cI self ++ cI more) 42)]))))) w1
        simp only [hm, cond_true, cond_false] at hw ⊢
        exact ⟨⟨hF.1, hF.2.1, fun _ => hvn, hF.2.2.2⟩, hw.perm (by (refine perm_cnt (fun _ => ?_)); simp only [cntB_append, cntB_cons, cntB_nil, Nat.add_zero, Nat.zero_add]; try ac_rfl)⟩
    case htail =>
      intro x
      obtain ⟨v28, l28, x30, v31, l31, v33, l33⟩ := x
      show J _ _ _ _ _ ((33, v33) :: (32, .int .i64 half) :: (31, v31) :: (30, .slice (some ⟨x30, 0, none⟩) 1 1) :: (29, .agg (cI more).toArray) :: (28, v28) :: (27, .slice a2 ys.length c2) :: (26, .agg (cI self).toArray) :: _) (fun w1 => ((true = true → Vec 23 16 v28 (ys).length (fI (ys)) l28) ∧ (true = true → Vec 23 16 v31 ((ys ++ [more])).length (fI ((ys ++ [more]))) l31) ∧ (true = true → Vec 23 16 v33 (wantI self (ys ++ [more]) half).length (fI (wantI self (ys ++ [more]) half)) l33) ∧ (true = true → true = true)) ∧ St w [] ((x4, cb (cI self) 23) :: (x5, cb (cI more) 23) :: ((bif true then [(x30, cb (cI more) 23)] else []) ++ ((bif true then l31 else (bif true then l28 else [])) ++ ((bif true then l33 else []) ++ (l25 ++ [(b4, cb (cI self ++ cI more) 42)]))))) w1)
      refine J.pr (fun hF => ?_)
      have hv33 := hF.2.2.1 rfl
      have hwn := wantI_le self (ys ++ [more]) half
      rw [List.length_append, List.length_singleton] at hwn
      obtain ⟨an, cn, rfl, hcn⟩ := hv33.form
      refine J.conseq (I' := St w [] ((x4, cb (cI self) 23) :: (x5, cb (cI more) 23) :: (l33 ++ l25))) ?_ (fun w1 hw => by simp only [cond_true] at hw; exact (hw.perm (l' := (x4, cb (cI self) 23) :: (x5, cb (cI more) 23) :: (l33 ++ (l25 ++ ((x30, cb (cI more) 23) :: (l31 ++ [(b4, cb (cI self ++ cI more) 42)]))))) (by (refine perm_cnt (fun _ => ?_)); simp only [cntB_append, cntB_cons, cntB_nil, Nat.add_zero, Nat.zero_add]; try ac_rfl)).drop (.cons_cons _ (.cons_cons _ (List.Sublist.append_left (List.sublist_append_left _ _) _))))
      refine J.assign rfl rfl ?_
      refine J.nil ?_
      refine JX.thenN (hK4 _ _ ?_)
      refine JC.seq (fun K5 hK5 => ?_)
      refine JC.region ?_
      refine J.assign rfl rfl ?_
      refine J.nil ?_
      refine JX.thenN (hK5 _ _ ?_)
      refine JC.seq (fun K6 hK6 => ?_)
      refine JC.seq (fun K7 hK7 => ?_)
      refine JC.region ?_
      refine J.move rfl rfl ?_
      refine J.lenS rfl Ty.u24 rfl rfl ?_
      refine J.move rfl rfl ?_
      refine J.nil ?_
      refine JX.thenN (hK7 _ _ ?_)
      refine JC.block ?_
      refine JC.conseq (JC.cov (f := (fun st => [(2, .int .i64 half), (7, .pointer (some ⟨x4, 0, none⟩)), (8, .pointer (some ⟨x5, 0, none⟩)), (9, .slice aw (wantI self ys half).length cw), (10, .slice an (wantI self (ys ++ [more]) half).length cn), (11, .int .i64 ((st.2 : Nat) : Int)), (34, .slice aw (wantI self ys half).length cw), (35, .int .i64 (((wantI self ys half).length : Nat) : Int)), (36, .int .i64 ((st.1 : Nat) : Int))]) ((0, 0) : Nat × Nat)) ⟨rfl, rfl, rfl, rfl, rfl, rfl, rfl, rfl, rfl, trivial⟩ (JC.loop (α := Nat × Nat) (fun st => [(2, .int .i64 half), (7, .pointer (some ⟨x4, 0, none⟩)), (8, .pointer (some ⟨x5, 0, none⟩)), (9, .slice aw (wantI self ys half).length cw), (10, .slice an (wantI self (ys ++ [more]) half).length cn), (11, .int .i64 ((st.2 : Nat) : Int)), (34, .slice aw (wantI self ys half).length cw), (35, .int .i64 (((wantI self ys half).length : Nat) : Int)), (36, .int .i64 ((st.1 : Nat) : Int))]) (fun st w' => (st.1 ≤ (wantI self ys half).length ∧ st.2 = ((wantI self ys half).take st.1).countP (fun x => !decide (x ∈ wantI self (ys ++ [more]) half))) ∧ St w [] ((x4, cb (cI self) 23) :: (x5, cb (cI more) 23) :: (l33 ++ l25)) w') (fun st => (wantI self ys half).length - st.1) ((0, 0) : Nat × Nat) (fun st => ?_))) (fun w hw => ⟨⟨Nat.zero_le _, by simp⟩, hw⟩)
      obtain ⟨j, k⟩ := st
      refine JC.pr (fun hx => ?_)
      obtain ⟨hj, hk⟩ := hx
      simp only at hj hk ⊢
      have hkl : k ≤ j := by rw [hk]; exact Nat.le_trans List.countP_le_length (by rw [List.length_take]; omega)
      refine JC.seq (fun K8 hK8 => ?_)
      refine JC.region ?_
      refine J.bin rfl rfl rfl rfl ?_
      refine J.nil ?_
      refine JX.thenN (hK8 _ _ ?_)
      refine JC.seq (fun K9 hK9 => ?_)
      refine JC.cond rfl (fun h0 => ?_) (fun h0 => ?_)
      · skip
        have hlt : j < (wantI self ys half).length := by simp at h0; omega
        obtain ⟨qw, spw, rfl, rfl, hsw, hcw2⟩ := vecI_pos hv25 (by omega)
        obtain ⟨ib, hib⟩ : ∃ x, (wantI self ys half)[j]? = some x := ⟨_, List.getElem?_eq_getElem hlt⟩
        refine JC.skip ?_
        refine JX.thenN (hK9 _ _ ?_)
        refine JC.seq (fun K10 hK10 => ?_)
        refine JC.block ?_
        refine JC.seq (fun K11 hK11 => ?_)
        refine JC.region ?_
        refine J.indexAddrS Ty.el24 Ty.s23 rfl rfl (by omega) (by omega) rfl ?_
        refine J.loadA (vs := cI ib) Ty.a23 Ty.s23 rfl rfl (fun w1 hw => rowF_at (o := 0) (hv25.rowM hw (fun q hq => by first | (simp [hq]; done) | (simp at hq; simp [hq]; done) | (simp at hq; subst hq; simp))) hib (by omega)) rfl ?_
        refine J.alloc Ty.zID rfl rfl (fun b13 => ?_)
        refine J.storeW (cs := cI zI) (vs := cI ib) Ty.s23 rfl rfl rfl rfl rfl (by simp [Value.oneCell']) .here ?_
        refine J.nil ?_
        refine JX.thenN (hK11 _ _ ?_)
        refine JC.seq (fun K12 hK12 => ?_)
        refine JC.region ?_
        refine J.move rfl rfl ?_
        refine J.loadA (vs := cI ib) Ty.a23 Ty.s23 rfl rfl (fun w1 hw => Cells.of_block (hw.own _ (.head _)) rfl) rfl ?_
        refine J.callB (v := .bool (decide (ib ∈ wantI self (ys ++ [more]) half))) (fun w1 w2 hw hb => hw.step hb) Ty.bd24 rfl rfl (fun w1 hw => has_spec _ (wantI self (ys ++ [more]) half) ib w1 (hv33.rowM hw (fun q hq => by first | (simp [hq]; done) | (simp at hq; simp [hq]; done) | (simp at hq; subst hq; simp))) (by omega)) ?_
        refine J.not rfl rfl ?_
        refine J.nil ?_
        refine JX.thenN (hK12 _ _ ?_)
        refine JC.cond rfl (fun h1 => ?_) (fun h1 => ?_)
        · skip
          have hin : ib ∉ wantI self (ys ++ [more]) half := by simpa using h1
          refine JC.region ?_
          refine J.move rfl rfl ?_
          refine J.addN rfl rfl (by omega) (by omega) rfl ?_
          refine J.name 45 rfl (show _ = Value.int .i64 ((k + 1 : Nat) : Int) by simp) ?_
          refine J.assign rfl rfl ?_
          refine J.nil ?_
          refine JX.blockN ?_
          refine JX.thenN (hK10 _ _ ?_)
          refine JC.region ?_
          (first | refine J.addN rfl rfl (by omega) (by omega) rfl ?_ | refine J.bin rfl rfl rfl rfl ?_)
          refine J.move rfl rfl ?_
          refine J.nil ?_
          refine JX.thenN ?_
          refine JX.again ((j + 1, k + 1) : Nat × Nat) ?_ ?_ ?_
          · simp only; omega
          · exact ⟨rfl, rfl, rfl, rfl, rfl, rfl, rfl, rfl, rfl, trivial⟩
          · exact fun w1 hw => ⟨⟨hlt, by rw [countP_step hib, ← hk]; simp [hin]⟩, hw.drop (List.sublist_cons_self _ _)⟩
        · skip
          have hin : ib ∈ wantI self (ys ++ [more]) half := by simpa using h1
          refine JC.skip ?_
          refine JX.blockN ?_
          refine JX.thenN (hK10 _ _ ?_)
          refine JC.region ?_
          (first | refine J.addN rfl rfl (by omega) (by omega) rfl ?_ | refine J.bin rfl rfl rfl rfl ?_)
          refine J.move rfl rfl ?_
          refine J.nil ?_
          refine JX.thenN ?_
          refine JX.again ((j + 1, k) : Nat × Nat) ?_ ?_ ?_
          · simp only; omega
          · exact ⟨rfl, rfl, rfl, rfl, rfl, rfl, rfl, rfl, rfl, trivial⟩
          · exact fun w1 hw => ⟨⟨hlt, by rw [countP_step hib, ← hk]; simp [hin]⟩, hw.drop (List.sublist_cons_self _ _)⟩
      · skip
        have hge : j = (wantI self ys half).length := by simp at h0; omega
        have hk2 : k ≤ 2 := grow_le (by rw [hk, hge])
        refine JC.exit ?_
        refine JX.thenE ?_
        refine JX.thenE ?_
        refine JX.blockE ?_
        refine JX.thenN (hK6 _ _ ?_)
        refine JC.seq (fun K13 hK13 => ?_)
        refine JC.seq (fun K14 hK14 => ?_)
        refine JC.region ?_
        refine J.move rfl rfl ?_
        refine J.lenS rfl Ty.u24 rfl rfl ?_
        refine J.move rfl rfl ?_
        refine J.nil ?_
        refine JX.thenN (hK14 _ _ ?_)
        refine JC.block ?_
        refine JC.conseq (JC.cov (f := (fun j => [(2, .int .i64 half), (7, .pointer (some ⟨x4, 0, none⟩)), (8, .pointer (some ⟨x5, 0, none⟩)), (9, .slice aw (wantI self ys half).length cw), (10, .slice an (wantI self (ys ++ [more]) half).length cn), (11, .int .i64 ((k : Nat) : Int)), (47, .slice an (wantI self (ys ++ [more]) half).length cn), (48, .int .i64 (((wantI self (ys ++ [more]) half).length : Nat) : Int)), (49, .int .i64 ((j : Nat) : Int))]) 0) ⟨rfl, rfl, rfl, rfl, rfl, rfl, rfl, rfl, rfl, trivial⟩ (JC.loop (α := Nat) (fun j => [(2, .int .i64 half), (7, .pointer (some ⟨x4, 0, none⟩)), (8, .pointer (some ⟨x5, 0, none⟩)), (9, .slice aw (wantI self ys half).length cw), (10, .slice an (wantI self (ys ++ [more]) half).length cn), (11, .int .i64 ((k : Nat) : Int)), (47, .slice an (wantI self (ys ++ [more]) half).length cn), (48, .int .i64 (((wantI self (ys ++ [more]) half).length : Nat) : Int)), (49, .int .i64 ((j : Nat) : Int))]) (fun j w' => (j ≤ (wantI self (ys ++ [more]) half).length) ∧ St w [] ((x4, cb (cI self) 23) :: (x5, cb (cI more) 23) :: (l33 ++ l25)) w') (fun j => (wantI self (ys ++ [more]) half).length - j) 0 (fun j => ?_))) (fun w hw => ⟨Nat.zero_le _, hw⟩)
        refine JC.pr (fun hj2 => ?_)
        refine JC.seq (fun K15 hK15 => ?_)
        refine JC.region ?_
        refine J.bin rfl rfl rfl rfl ?_
        refine J.nil ?_
        refine JX.thenN (hK15 _ _ ?_)
        refine JC.seq (fun K16 hK16 => ?_)
        refine JC.cond rfl (fun h2 => ?_) (fun h2 => ?_)
        · skip
          have hlt2 : j < (wantI self (ys ++ [more]) half).length := by simp at h2; omega
          obtain ⟨qn, spn, rfl, rfl, hsn, hcn2⟩ := vecI_pos hv33 (by omega)
          obtain ⟨ib, hib⟩ : ∃ x, (wantI self (ys ++ [more]) half)[j]? = some x := ⟨_, List.getElem?_eq_getElem hlt2⟩
          refine JC.skip ?_
          refine JX.thenN (hK16 _ _ ?_)
          refine JC.seq (fun K17 hK17 => ?_)
          refine JC.block ?_
          refine JC.seq (fun K18 hK18 => ?_)
          refine JC.region ?_
          refine J.indexAddrS Ty.el24 Ty.s23 rfl rfl (by omega) (by omega) rfl ?_
          refine J.loadA (vs := cI ib) Ty.a23 Ty.s23 rfl rfl (fun w1 hw => rowF_at (o := 0) (hv33.rowM hw (fun q hq => by first | (simp [hq]; done) | (simp at hq; simp [hq]; done) | (simp at hq; subst hq; simp))) hib (by omega)) rfl ?_
          refine J.alloc Ty.zID rfl rfl (fun b15 => ?_)
          refine J.storeW (cs := cI zI) (vs := cI ib) Ty.s23 rfl rfl rfl rfl rfl (by simp [Value.oneCell']) .here ?_
          refine J.nil ?_
          refine JX.thenN (hK18 _ _ ?_)
          refine JC.seq (fun K19 hK19 => ?_)
          have hlast := fun h : ib ≠ more => grow_sub (me := self) (m := more) (xs := ys) (half := half) (List.mem_of_getElem? hib) h
          by_cases hxm : ib = more
          · skip
            refine JC.region ?_
            refine J.loadA (vs := cI ib) Ty.a23 Ty.s23 rfl rfl (fun w1 hw => Cells.of_block (hw.own _ (.head _)) rfl) rfl ?_
            refine J.loadA (vs := cI more) Ty.a23 Ty.s23 rfl rfl (fun w1 hw => Cells.of_block (hw.own _ (.tail _ (.tail _ (.head _)))) rfl) rfl ?_
            refine J.neI Ty.QI Ty.keyI rfl rfl rfl ?_
            refine J.name 55 rfl (show _ = Value.bool false by simp [hxm]) ?_
            refine J.move rfl rfl ?_
            first
              | (refine J.skip rfl rfl rfl rfl rfl ?_)
              | (refine J.skipU rfl rfl rfl rfl ?_)
              | (refine J.unguard rfl rfl rfl ?_; refine J.move rfl rfl ?_)
            first
              | (refine J.skip rfl rfl rfl rfl rfl ?_)
              | (refine J.skipU rfl rfl rfl rfl ?_)
              | (refine J.unguard rfl rfl rfl ?_; refine J.loadA (vs := cI ib) Ty.a23 Ty.s23 rfl rfl (fun w1 hw => Cells.of_block (hw.own _ (.head _)) rfl) rfl ?_)
            first
              | (refine J.skip rfl rfl rfl rfl rfl ?_)
              | (refine J.skipU rfl rfl rfl rfl ?_)
              | (refine J.unguard rfl rfl rfl ?_; skip)
            first
              | (refine J.skip rfl rfl rfl rfl rfl ?_)
              | (refine J.skipU rfl rfl rfl rfl ?_)
              | (refine J.unguard rfl rfl rfl ?_; refine J.not rfl rfl ?_)
            (first | refine J.pickT rfl rfl rfl ?_ | refine J.pickF rfl rfl rfl ?_)
            refine J.nil ?_
            refine JX.thenN (hK19 _ _ ?_)
            first | refine JC.condF rfl ?_ | refine JC.cond rfl (fun h => by first | (exfalso; simp at h; omega) | (simp at h)) (fun _ => ?_)
            refine JC.skip ?_
            refine JX.blockN ?_
            refine JX.thenN (hK17 _ _ ?_)
            refine JC.region ?_
            (first | refine J.addN rfl rfl (by omega) (by omega) rfl ?_ | refine J.bin rfl rfl rfl rfl ?_)
            refine J.move rfl rfl ?_
            refine J.nil ?_
            refine JX.thenN ?_
            refine JX.again (j + 1) ?_ ?_ ?_
            · omega
            · exact ⟨rfl, rfl, rfl, rfl, rfl, rfl, rfl, rfl, rfl, trivial⟩
            · exact fun w1 hw => ⟨hlt2, hw.drop (List.sublist_cons_self _ _)⟩
          · skip
            refine JC.region ?_
            refine J.loadA (vs := cI ib) Ty.a23 Ty.s23 rfl rfl (fun w1 hw => Cells.of_block (hw.own _ (.head _)) rfl) rfl ?_
            refine J.loadA (vs := cI more) Ty.a23 Ty.s23 rfl rfl (fun w1 hw => Cells.of_block (hw.own _ (.tail _ (.tail _ (.head _)))) rfl) rfl ?_
            refine J.neI Ty.QI Ty.keyI rfl rfl rfl ?_
            refine J.name 55 rfl (show _ = Value.bool true by simp [hxm]) ?_
            refine J.move rfl rfl ?_
            first
              | (refine J.skip rfl rfl rfl rfl rfl ?_)
              | (refine J.skipU rfl rfl rfl rfl ?_)
              | (refine J.unguard rfl rfl rfl ?_; refine J.move rfl rfl ?_)
            first
              | (refine J.skip rfl rfl rfl rfl rfl ?_)
              | (refine J.skipU rfl rfl rfl rfl ?_)
              | (refine J.unguard rfl rfl rfl ?_; refine J.loadA (vs := cI ib) Ty.a23 Ty.s23 rfl rfl (fun w1 hw => Cells.of_block (hw.own _ (.head _)) rfl) rfl ?_)
            first
              | (refine J.skip rfl rfl rfl rfl rfl ?_)
              | (refine J.skipU rfl rfl rfl rfl ?_)
              | (refine J.unguard rfl rfl rfl ?_; refine J.callB (v := .bool true) (fun w1 w2 hw hb => hw.step hb) Ty.bd24 rfl rfl (fun w1 hw => (by have h := has_spec _ (wantI self ys half) ib w1 (hv25.rowM hw (fun q hq => by first | (simp [hq]; done) | (simp at hq; simp [hq]; done) | (simp at hq; subst hq; simp))) (by omega); simpa [hlast hxm] using h)) ?_)
            first
              | (refine J.skip rfl rfl rfl rfl rfl ?_)
              | (refine J.skipU rfl rfl rfl rfl ?_)
              | (refine J.unguard rfl rfl rfl ?_; refine J.not rfl rfl ?_)
            (first | refine J.pickT rfl rfl rfl ?_ | refine J.pickF rfl rfl rfl ?_)
            refine J.nil ?_
            refine JX.thenN (hK19 _ _ ?_)
            first | refine JC.condF rfl ?_ | refine JC.cond rfl (fun h => by first | (exfalso; simp at h; omega) | (simp at h)) (fun _ => ?_)
            refine JC.skip ?_
            refine JX.blockN ?_
            refine JX.thenN (hK17 _ _ ?_)
            refine JC.region ?_
            (first | refine J.addN rfl rfl (by omega) (by omega) rfl ?_ | refine J.bin rfl rfl rfl rfl ?_)
            refine J.move rfl rfl ?_
            refine J.nil ?_
            refine JX.thenN ?_
            refine JX.again (j + 1) ?_ ?_ ?_
            · omega
            · exact ⟨rfl, rfl, rfl, rfl, rfl, rfl, rfl, rfl, rfl, trivial⟩
            · exact fun w1 hw => ⟨hlt2, hw.drop (List.sublist_cons_self _ _)⟩
        · skip
          have hge2 : j = (wantI self (ys ++ [more]) half).length := by simp at h2; omega
          refine JC.exit ?_
          refine JX.thenE ?_
          refine JX.thenE ?_
          refine JX.blockE ?_
          refine JX.thenN (hK13 _ _ ?_)
          refine JC.seq (fun K20 hK20 => ?_)
          refine JC.region ?_
          refine J.callB (v := .bool true) (fun w1 w2 hw hb => hw.step hb) Ty.bd18 rfl rfl (fun w1 hw => fixed10_spec w1) ?_
          refine J.move rfl rfl ?_
          first
            | (refine J.skip rfl rfl rfl rfl rfl ?_)
            | (refine J.skipU rfl rfl rfl rfl ?_)
            | (refine J.unguard rfl rfl rfl ?_; refine J.move rfl rfl ?_)
          first
            | (refine J.skip rfl rfl rfl rfl rfl ?_)
            | (refine J.skipU rfl rfl rfl rfl ?_)
            | (refine J.unguard rfl rfl rfl ?_; refine J.bin rfl rfl rfl rfl ?_; refine J.name 66 rfl (show _ = Value.bool true by simp; omega) ?_)
          (first | refine J.pickT rfl rfl rfl ?_ | refine J.pickF rfl rfl rfl ?_)
          refine J.assign rfl rfl ?_
          refine J.nil ?_
          refine JX.thenN (hK20 _ _ ?_)
          refine JC.ret ?_
          refine JX.ret1 rfl rfl (fun w hw => ?_)
          exact ⟨rfl, (hw.drop (List.nil_sublist _)).below⟩

theorem ringGrows_walk (w : World) (o : Sl IDV) (ho : RSl 16 16 RId w [o.v] o) (c : List Value) (x : List IDV) (hx : RArr 2 16 RId w c x) (half : Int) (hh : (Lit.int .i64 half).wf = true) :
    Calls Try.prog 8 [o.v, .agg c.toArray, .int .i64 half].toArray w fun r w' => r = .returned (.bool true) ∧ Bel w w' := by
  obtain ⟨a, b, c1, c2, rfl, h1, h2⟩ := hx.two
  have h1' : c1 = cI a := h1
  have h2' : c2 = cI b := h2
  subst h1'
  subst h2'
  exact grows_spec o.v o.xs a b half w (RSl.rowId ho)
end Go.Proofs.Ytdpbgmbicdgdbaa
