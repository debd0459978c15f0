/-
  CopiesPlays: texts that its proof needs, part 3.
-/
import Derived.Test.YtbafhclandendaaZCopiesPlaysb
/-
  Who is the root, to whom an item is owed; the example of layer 19: contracts.
-/
namespace Go.Proofs.Ytbafhclandendaa
open Go.J Go.RowKit
set_option linter.unusedVariables false
set_option linter.unusedSimpArgs false
set_option maxRecDepth 4000

theorem cut19_spec (v : Value) (xs : List IDV) (most : Nat) (w : World) (hr : Row w v xs.length (fI xs)) :
    Calls Try.prog 13 [v, .int .i64 ((most : Nat) : Int)].toArray w fun r w' => r = .returned (cutV v (min xs.length most)) ∧ Bel w w' := by
  obtain ⟨a, c, rfl, hc, _⟩ := id hr
  refine calls_of_J (args := [.slice a xs.length c, .int .i64 ((most : Nat) : Int)]) (e := [(0, .slice a xs.length c), (1, .int .i64 ((most : Nat) : Int))]) Try.func13 rfl rfl ⟨rfl, rfl, trivial⟩ (St.start w) ?_
  refine JC.seq (fun K0 hK0 => ?_)
  refine JC.region ?_
  refine J.assign rfl rfl ?_
  refine J.nil ?_
  refine JX.thenN (hK0 _ _ ?_)
  refine JC.seq (fun K1 hK1 => ?_)
  refine JC.region ?_
  refine J.move rfl rfl ?_
  refine J.move rfl rfl ?_
  refine J.lenS rfl Ty.u24 rfl rfl ?_
  refine J.move rfl rfl ?_
  refine J.min2 rfl rfl rfl ?_
  refine J.name 9 rfl (show _ = Value.int .i64 ((min xs.length most : Nat) : Int) by congr 1; omega) ?_
  refine J.move rfl rfl ?_
  refine J.lenS rfl Ty.u24 rfl rfl ?_
  refine J.move rfl rfl ?_
  refine J.min2 rfl rfl rfl ?_
  refine J.name 13 rfl (show _ = Value.int .i64 ((min xs.length most : Nat) : Int) by congr 1; omega) ?_
  refine J.sliceM Ty.el24 Ty.s23 rfl rfl rfl (by omega) rfl ?_
  refine J.assign rfl rfl ?_
  refine J.nil ?_
  refine JX.thenN (hK1 _ _ ?_)
  refine JC.ret ?_
  refine JX.ret1 rfl rfl (fun w hw => ?_)
  exact ⟨rfl, hw.below⟩

theorem n19_spec (k : UInt8) (w : World) :
    Calls Try.prog 33 [u8 k].toArray w fun r w' => r = .returned (.agg (cI (nI k)).toArray) ∧ Bel w w' := by
  refine calls_of_J (args := [u8 k]) (e := [(0, u8 k)]) Try.func33 rfl rfl ⟨rfl, trivial⟩ (St.start w) ?_
  refine JC.seq (fun K0 hK0 => ?_)
  refine JC.region ?_
  refine J.alloc Ty.zID rfl rfl (fun b2 => ?_)
  refine J.nil ?_
  refine JX.thenN (hK0 _ _ ?_)
  refine JC.seq (fun K1 hK1 => ?_)
  refine JC.region ?_
  refine J.move rfl rfl ?_
  refine J.buildA (cs := cI (nI k)) Ty.ar23 Ty.s5 Ty.z23 rfl (by kernel_rfl) rfl ?_
  refine J.storeW Ty.s23 rfl rfl rfl rfl rfl (by simp [Value.oneCell']) (by repeat first | exact .here | apply Up.there) ?_
  refine J.nil ?_
  refine JX.thenN (hK1 _ _ ?_)
  refine JC.ret ?_
  refine JX.retC rfl rfl Ty.a23 Ty.s23 (vs := cI (nI k)) rfl (fun w1 hw => Cells.of_block (hw.own _ (.head _)) rfl) (fun w1 hw => ?_)
  exact ⟨rfl, (hw.drop (List.nil_sublist _)).below⟩

set_option maxHeartbeats 1000000 in
theorem root_spec (self : IDV) (v : Value) (fs : List IDV) (key : IDV) (w : World) (hr : Row w v fs.length (fI fs)) (hl : fs.length ≤ 1000000000) :
    Calls Try.prog 16 [.agg (cI self).toArray, v, .agg (cI key).toArray].toArray w fun r w' => r = .returned (.bool (rootV self fs key)) ∧ Bel w w' := by
  obtain ⟨af, cf, rfl, hcf, _⟩ := id hr
  refine calls_of_J (args := [.agg (cI self).toArray, .slice af fs.length cf, .agg (cI key).toArray]) (e := [(0, .agg (cI self).toArray), (1, .slice af fs.length cf), (2, .agg (cI key).toArray)]) Try.func16 rfl rfl ⟨rfl, rfl, rfl, trivial⟩ (St.start w) ?_
  refine JC.seq (fun K0 hK0 => ?_)
  refine JC.region ?_
  refine J.box rfl rfl rfl (fun b3 => ?_)
  refine J.box rfl rfl rfl (fun b5 => ?_)
  refine J.assign rfl rfl ?_
  refine J.nil ?_
  refine JX.thenN (hK0 _ _ ?_)
  refine JC.seq (fun K1 hK1 => ?_)
  apply JC.drawX (α := Nat × Value × List (Nat × Obj)) 7 (fun x => match x with | ⟨x9, v11, l11⟩ => [.agg (cI key).toArray, .agg (cI self).toArray, .slice (some ⟨x9, 0, none⟩) 1 1, .slice af fs.length cf, v11, .int .i64 (argI (kN key) (self :: fs)), .bool (rootV self fs key)]) (fun m x => match x with | ⟨x9, v11, l11⟩ => fun w1 => ((m 4 = true → m 2 = true) ∧ (m 4 = true → Vec 23 16 v11 ((self :: fs)).length (fI ((self :: fs))) l11)) ∧ St w [] ((bif m 4 then l11 else (bif m 2 then [(x9, cb (cI self) 23)] else [])) ++ ((b5, cb (cI key) 23) :: (b3, cb (cI self) 23) :: [])) w1) Ty.mixed rfl rfl rfl (by kernel_rfl) rfl rfl ?hinit ?hstep ?htail
  case hinit => exact fun w1 hw => ⟨(0, .slice none 0 0, []), ⟨fun h => (by cases h), fun h => (by cases h)⟩, hw.drew⟩
  case hstep =>
    refine ⟨fun m x hm hp => ?_, fun m x hm hp => ?_, fun m x hm hp => ?_, fun m x hm hp => ?_, fun m x hm hp => ?_, fun m x hm hp => ?_, fun m x hm hp => ?_, trivial⟩
    · skip
      obtain ⟨x9, v11, l11⟩ := x
      show J _ _ _ _ _ (_) _
      refine J.pr (fun hF => ?_)
      refine J.loadA (vs := cI key) Ty.a23 Ty.s23 rfl rfl (fun w1 hw => Cells.of_block (hw.own ((b5, cb (cI key) 23)) (by repeat first | exact .head _ | apply List.Mem.tail | apply List.mem_append_right)) rfl) rfl ?_
      exact J.finX rfl (fun _ hw => ⟨⟨x9, v11, l11⟩, rfl, fun _ _ _ => rfl, hF, hw⟩)
    · skip
      obtain ⟨x9, v11, l11⟩ := x
      show J _ _ _ _ _ (_) _
      refine J.pr (fun hF => ?_)
      refine J.loadA (vs := cI self) Ty.a23 Ty.s23 rfl rfl (fun w1 hw => Cells.of_block (hw.own ((b3, cb (cI self) 23)) (by repeat first | exact .head _ | apply List.Mem.tail | apply List.mem_append_right)) rfl) rfl ?_
      exact J.finX rfl (fun _ hw => ⟨⟨x9, v11, l11⟩, rfl, fun _ _ _ => rfl, hF, hw⟩)
    · skip
      obtain ⟨x9, v11, l11⟩ := x
      show J _ _ _ _ _ ((8, .agg (cI self).toArray) :: _) _
      refine J.pr (fun hF => ?_)
      have h4 : m 4 = false := by cases h : m 4 with
        | false => rfl
        | true => rw [hF.1 h] at hm; cases hm
      refine J.conseq (I' := St w [] ((b5, cb (cI key) 23) :: (b3, cb (cI self) 23) :: [])) ?_ (fun w1 hw => by simp only [hm, h4, cond_false, List.nil_append] at hw; exact hw)
      refine J.buildSl (cs := cI self) Ty.el24 Ty.s23 Ty.zID rfl rfl rfl rfl (by kernel_rfl) rfl rfl (fun b9 => ?_)
      refine J.nil (JX.finB rfl (fun w1 hw => ⟨⟨⟨b9, v11, l11⟩, rfl, fun j h1 h2 => ?_, ?_⟩, trivial⟩))
      · match j, h1 with
        | 0, _ => (first | rfl | trivial)
        | 1, _ => (first | rfl | trivial)
        | 2, _ => exact absurd (h2.symm.trans hm) (by decide)
        | 3, _ => (first | rfl | trivial)
        | 4, _ => (first | rfl | trivial)
        | 5, _ => (first | rfl | trivial)
        | 6, _ => (first | rfl | trivial)
        | j + 7, h1 => omega
      show ((m 4 = true → true = true) ∧ (m 4 = true → Vec 23 16 v11 ((self :: fs)).length (fI ((self :: fs))) l11)) ∧ St w [] ((bif m 4 then l11 else (bif true then [(b9, cb (cI self) 23)] else [])) ++ ((b5, cb (cI key) 23) :: (b3, cb (cI self) 23) :: [])) w1
      simp only [hm, h4, cond_true, cond_false] at hw ⊢
      exact ⟨⟨fun h => (by cases h), fun h => (by cases h)⟩, hw⟩
    · skip
      obtain ⟨x9, v11, l11⟩ := x
      show J _ _ _ _ _ (_) _
      refine J.pr (fun hF => ?_)
      refine J.move rfl rfl ?_
      exact J.finX rfl (fun _ hw => ⟨⟨x9, v11, l11⟩, rfl, fun _ _ _ => rfl, hF, hw⟩)
    · skip
      obtain ⟨x9, v11, l11⟩ := x
      show J _ _ _ _ _ ((10, .slice af fs.length cf) :: (9, .slice (some ⟨x9, 0, none⟩) 1 1) :: _) _
      have hp2 : m 2 = true := predsT hp (by kernel_rfl)
      refine J.pr (fun hF => ?_)
      refine J.conseq (I' := St w [] ([(x9, cb (cI self) 23)] ++ ((b5, cb (cI key) 23) :: (b3, cb (cI self) 23) :: []))) ?_ (fun w1 hw => by simp only [hm, hp2, cond_true, cond_false] at hw; exact hw)
      refine J.append (lp := [(x9, cb (cI self) 23)]) (xs := cI self) (ys := fI fs) (k := 1) (m := fs.length) Ty.el24 Ty.s23 Ty.b23 Ty.zID rfl (.inl ⟨23, Ty.u24⟩) rfl rfl ⟨rfl, .inr ⟨x9, 1, [], rfl, rfl, rfl, Nat.le_refl _⟩⟩ (fun w3 hw3 => .inl (hr.below (hw3.drop (List.nil_sublist _)).below)) (fI_length _) (fun y hy => one_fI hy) (by omega) (by omega) rfl (fun vn ln hvn => ?_)
      replace hvn : Vec 23 16 vn ((self :: fs)).length (fI ((self :: fs))) ln := by rw [show (self :: fs).length = 1 + fs.length by simp; omega]; exact hvn
      refine J.nil (JX.finB rfl (fun w1 hw => ⟨⟨⟨x9, vn, ln⟩, rfl, fun j h1 h2 => ?_, ?_⟩, trivial⟩))
      · match j, h1 with
        | 0, _ => (first | rfl | trivial)
        | 1, _ => (first | rfl | trivial)
        | 2, _ => (first | rfl | trivial)
        | 3, _ => (first | rfl | trivial)
        | 4, _ => exact absurd (h2.symm.trans hm) (by decide)
        | 5, _ => (first | rfl | trivial)
        | 6, _ => (first | rfl | trivial)
        | j + 7, h1 => omega
      show ((true = true → m 2 = true) ∧ (true = true → Vec 23 16 vn ((self :: fs)).length (fI ((self :: fs))) ln)) ∧ St w [] ((bif true then ln else (bif m 2 then [(x9, cb (cI self) 23)] else [])) ++ ((b5, cb (cI key) 23) :: (b3, cb (cI self) 23) :: [])) w1
      simp only [hm, hp2, cond_true, cond_false] at hw ⊢
      exact ⟨⟨fun _ => (by first | trivial | rfl), fun _ => hvn⟩, hw⟩
    · skip
      obtain ⟨x9, v11, l11⟩ := x
      show J _ _ _ _ _ ((11, v11) :: (11, v11) :: (7, .agg (cI key).toArray) :: _) _
      have hp4 : m 4 = true := predsT hp (by kernel_rfl)
      have hp4 : m 4 = true := predsT hp (by kernel_rfl)
      refine J.pr (fun hF => ?_)
      have hv11 := hF.2 hp4
      refine J.conseq (I' := St w [] (l11 ++ ((b5, cb (cI key) 23) :: (b3, cb (cI self) 23) :: []))) ?_ (fun w1 hw => by simp only [hp4, cond_true] at hw; exact hw)
      refine J.callB (v := .int .i64 (argI (kN key) (self :: fs))) (fun w1 w2 hw hb => hw.step hb) Ty.bd42 rfl rfl (fun w1 hw => nearest_spec key _ (self :: fs) w1 (vec_rowM hv11 hw (fun q hq => by first | (simp [hq]; done) | (simp at hq; simp [hq]; done) | (simp at hq; subst hq; simp))) (by simp; omega)) ?_
      refine J.nil (JX.finB rfl (fun w1 hw => ⟨⟨⟨x9, v11, l11⟩, rfl, fun j h1 h2 => ?_, ?_⟩, trivial⟩))
      · match j, h1 with
        | 0, _ => (first | rfl | trivial)
        | 1, _ => (first | rfl | trivial)
        | 2, _ => (first | rfl | trivial)
        | 3, _ => (first | rfl | trivial)
        | 4, _ => (first | rfl | trivial)
        | 5, _ => (first | rfl | trivial)
        | 6, _ => (first | rfl | trivial)
        | j + 7, h1 => omega
      show ((m 4 = true → m 2 = true) ∧ (m 4 = true → Vec 23 16 v11 ((self :: fs)).length (fI ((self :: fs))) l11)) ∧ St w [] ((bif m 4 then l11 else (bif m 2 then [(x9, cb (cI self) 23)] else [])) ++ ((b5, cb (cI key) 23) :: (b3, cb (cI self) 23) :: [])) w1
      simp only [hp4, cond_true] at hw ⊢
      exact ⟨⟨fun _ => hF.1 hp4, fun _ => hv11⟩, hw⟩
    · skip
      obtain ⟨x9, v11, l11⟩ := x
      show J _ _ _ _ _ ((12, .int .i64 (argI (kN key) (self :: fs))) :: _) _
      refine J.pr (fun hF => ?_)
      refine J.bin rfl rfl rfl rfl ?_
      refine J.name 13 rfl (show _ = Value.bool (rootV self fs key) from congrArg Value.bool (by rw [Bool.eq_iff_iff, ← root_arg]; simp)) ?_
      exact J.finX rfl (fun _ hw => ⟨⟨x9, v11, l11⟩, rfl, fun _ _ _ => rfl, hF, hw⟩)
  case htail =>
    intro x
    obtain ⟨x9, v11, l11⟩ := x
    show J _ _ _ _ _ ((13, .bool (rootV self fs key)) :: (12, .int .i64 (argI (kN key) (self :: fs))) :: (11, v11) :: (10, .slice af fs.length cf) :: (9, .slice (some ⟨x9, 0, none⟩) 1 1) :: (8, .agg (cI self).toArray) :: (7, .agg (cI key).toArray) :: _) (fun w1 => ((true = true → true = true) ∧ (true = true → Vec 23 16 v11 ((self :: fs)).length (fI ((self :: fs))) l11)) ∧ St w [] ((bif true then l11 else (bif true then [(x9, cb (cI self) 23)] else [])) ++ ((b5, cb (cI key) 23) :: (b3, cb (cI self) 23) :: [])) w1)
    refine J.pr (fun hF => ?_)
    refine J.assign rfl rfl ?_
    refine J.nil ?_
    refine JX.thenN (hK1 _ _ ?_)
    refine JC.ret ?_
    refine JX.ret1 rfl rfl (fun w hw => ?_)
    exact ⟨rfl, (hw.drop (List.nil_sublist _)).below⟩

set_option maxHeartbeats 1000000 in
theorem rroot_spec (self : IDV) (v : Value) (fs : List IDV) (key : IDV) (w : World) (hr : Row w v fs.length (fI fs)) (hl : fs.length ≤ 1000000000) :
    Calls Try.prog 17 [.agg (cI self).toArray, v, .agg (cI key).toArray].toArray w fun r w' => r = .returned (.bool (rootV self fs key)) ∧ Bel w w' := by
  obtain ⟨af, cf, rfl, hcf, _⟩ := id hr
  refine calls_of_J (args := [.agg (cI self).toArray, .slice af fs.length cf, .agg (cI key).toArray]) (e := [(0, .agg (cI self).toArray), (1, .slice af fs.length cf), (2, .agg (cI key).toArray)]) Try.func17 rfl rfl ⟨rfl, rfl, rfl, trivial⟩ (St.start w) ?_
  refine JC.seq (fun K0 hK0 => ?_)
  refine JC.region ?_
  refine J.box rfl rfl rfl (fun b3 => ?_)
  refine J.box rfl rfl rfl (fun b5 => ?_)
  refine J.assign rfl rfl ?_
  refine J.nil ?_
  refine JX.thenN (hK0 _ _ ?_)
  refine JC.seq (fun K1 hK1 => ?_)
  refine JC.seq (fun K2 hK2 => ?_)
  refine JC.region ?_
  refine J.assign rfl rfl ?_
  refine J.nil ?_
  refine JX.thenN (hK2 _ _ ?_)
  refine JC.block ?_
  refine JC.conseq (JC.cov (f := (fun i => [(1, .slice af fs.length cf), (3, .pointer (some ⟨b3, 0, none⟩)), (5, .pointer (some ⟨b5, 0, none⟩)), (7, .int .i64 ((i : Nat) : Int))]) 0) ⟨rfl, rfl, rfl, rfl, trivial⟩ (JC.loop (α := Nat) (fun i => [(1, .slice af fs.length cf), (3, .pointer (some ⟨b3, 0, none⟩)), (5, .pointer (some ⟨b5, 0, none⟩)), (7, .int .i64 ((i : Nat) : Int))]) (fun i w' => (i ≤ fs.length ∧ ∀ k z, k < i → fs[k]? = some z → kN key self ≤ kN key z) ∧ St w [] [(b5, cb (cI key) 23), (b3, cb (cI self) 23)] w') (fun i => fs.length - i) 0 (fun i => ?_))) (fun w hw => ⟨⟨Nat.zero_le _, fun k z hk => by omega⟩, hw⟩)
  refine JC.pr (fun hI => ?_)
  obtain ⟨hi, hall⟩ := hI
  refine JC.seq (fun K3 hK3 => ?_)
  refine JC.seq (fun K4 hK4 => ?_)
  refine JC.region ?_
  refine J.move rfl rfl ?_
  refine J.move rfl rfl ?_
  refine J.lenS rfl Ty.u24 rfl rfl ?_
  refine J.bin rfl rfl rfl rfl ?_
  refine J.nil ?_
  refine JX.thenN (hK4 _ _ ?_)
  refine JC.cond rfl (fun h0 => ?_) (fun h0 => ?_)
  · skip
    have hlt : i < fs.length := by simp at h0; omega
    have hfl := fI_length fs
    obtain ⟨q1, o1, c9, hqe, _, _⟩ := Row.some hr (by omega)
    simp only [Value.slice.injEq] at hqe
    obtain ⟨ha, _, _⟩ := hqe
    have h1s : Row w (.slice (some ⟨q1, o1, none⟩) fs.length cf) fs.length (fI fs) := by rw [← ha]; exact hr
    obtain ⟨xa, hxa⟩ : ∃ x, fs[i]? = some x := ⟨_, List.getElem?_eq_getElem hlt⟩
    refine JC.skip ?_
    refine JX.thenN (hK3 _ _ ?_)
    refine JC.seq (fun K5 hK5 => ?_)
    refine JC.block ?_
    refine JC.seq (fun K6 hK6 => ?_)
    apply JC.drawL 7 [Eqv (.agg (cI key).toArray), Eqv (.slice (some ⟨q1, o1, none⟩) fs.length cf), Eqv (.int .i64 ((i : Nat) : Int)), Eqv (.pointer (some ⟨q1, o1 + (i : Int).toNat * 16, none⟩)), Eqv (.agg (cI xa).toArray), Eqv (.agg (cI self).toArray), Eqv (.bool (decide (kN key xa < kN key self)))] Ty.mixed rfl rfl rfl (by kernel_rfl) rfl rfl (fun w w' hw hb => hw.step hb) ⟨fun _ _ _ h _ => h, fun _ _ _ h _ => h, fun _ _ _ h _ => h, fun _ _ _ h _ => h, fun _ _ _ h _ => h, fun _ _ _ h _ => h, fun _ _ _ h _ => h, trivial⟩ ?hstep ?htail
    case hstep =>
      refine ⟨fun wi => ?_, fun wi => ?_, fun wi => ?_, fun wi => ?_, fun wi => ?_, fun wi => ?_, fun wi => ?_, trivial⟩
      · skip
        refine Fin.nil ?_
        refine J.loadA (vs := cI key) Ty.a23 Ty.s23 rfl rfl (fun w1 hw => Cells.of_block (hw.2.own ((b5, cb (cI key) 23)) (by repeat first | exact .head _ | apply List.Mem.tail | apply List.mem_append_right)) rfl) rfl ?_
        exact J.finP rfl
      · skip
        refine Fin.nil ?_
        refine J.move rfl rfl ?_
        refine J.name 15 rfl (show _ = Value.slice (some ⟨q1, o1, none⟩) fs.length cf by rw [ha]) ?_
        exact J.finP rfl
      · skip
        refine Fin.nil ?_
        refine J.move rfl rfl ?_
        exact J.finP rfl
      · skip
        refine Fin.consE rfl (Fin.consE rfl (Fin.nil ?_))
        refine J.indexAddrS Ty.el24 Ty.s23 rfl rfl (by omega) (by omega) rfl ?_
        exact J.finP rfl
      · skip
        refine Fin.consE rfl (Fin.nil ?_)
        refine J.loadA (vs := cI xa) Ty.a23 Ty.s23 rfl rfl (fun w1 hw => rowF_at (h1s.below (hw.2.drop (List.nil_sublist _)).below) hxa (by simp)) rfl ?_
        exact J.finP rfl
      · skip
        refine Fin.nil ?_
        refine J.loadA (vs := cI self) Ty.a23 Ty.s23 rfl rfl (fun w1 hw => Cells.of_block (hw.2.own ((b3, cb (cI self) 23)) (by repeat first | exact .head _ | apply List.Mem.tail | apply List.mem_append_right)) rfl) rfl ?_
        exact J.finP rfl
      · skip
        refine Fin.consE rfl (Fin.consE rfl (Fin.consE rfl (Fin.nil ?_)))
        refine J.callD (v := .bool (decide (kN key xa < kN key self))) Ty.bd23 rfl rfl (fun w1 hw => rnearer_spec key xa self w1) ?_
        exact J.finQ rfl
    case htail =>
      refine Fin.consE rfl (Fin.consE rfl (Fin.consE rfl (Fin.consE rfl (Fin.consE rfl (Fin.consE rfl (Fin.consE rfl (Fin.nil ?_)))))))
      refine J.nil ?_
      refine JX.thenN (hK6 _ _ ?_)
      refine JC.cond rfl (fun h1 => ?_) (fun h1 => ?_)
      · skip
        have hn : kN key xa < kN key self := by simpa using h1
        refine JC.seq (fun K7 hK7 => ?_)
        refine JC.region ?_
        refine J.assign rfl rfl ?_
        refine J.nil ?_
        refine JX.thenN (hK7 _ _ ?_)
        refine JC.ret ?_
        refine JX.blockR ?_
        refine JX.thenR ?_
        refine JX.thenR ?_
        refine JX.blockR ?_
        refine JX.thenR ?_
        refine JX.ret1 rfl rfl (fun w hw => ?_)
        have hroot : rootV self fs key = false := by
          cases h : rootV self fs key with
          | false => rfl
          | true => have := rootV_iff.1 h xa (List.mem_of_getElem? hxa); omega
        exact ⟨by rw [hroot], (hw.drop (List.nil_sublist _)).below⟩
      · skip
        have hn : ¬ kN key xa < kN key self := by simpa using h1
        refine JC.skip ?_
        refine JX.blockN ?_
        refine JX.thenN (hK5 _ _ ?_)
        refine JC.region ?_
        refine J.move rfl rfl ?_
        (first | refine J.addN rfl rfl (by omega) (by omega) rfl ?_ | refine J.bin rfl rfl rfl rfl ?_)
        refine J.assign rfl rfl ?_
        refine J.nil ?_
        refine JX.thenN ?_
        refine JX.again (i + 1) ?_ ?_ ?_
        · omega
        · exact ⟨rfl, rfl, rfl, rfl, trivial⟩
        · exact fun w1 hw => ⟨⟨hlt, fun k z hk hz => by
          rcases Nat.lt_or_ge k i with h | h
          · exact hall k z h hz
          · have : k = i := by omega
            subst this; rw [hxa] at hz; cases hz; omega⟩, hw⟩
  · skip
    have hge : i = fs.length := by simp at h0; omega
    refine JC.exit ?_
    refine JX.thenE ?_
    refine JX.thenE ?_
    refine JX.blockE ?_
    refine JX.thenN (hK1 _ _ ?_)
    refine JC.seq (fun K8 hK8 => ?_)
    refine JC.region ?_
    refine J.assign rfl rfl ?_
    refine J.nil ?_
    refine JX.thenN (hK8 _ _ ?_)
    refine JC.ret ?_
    refine JX.ret1 rfl rfl (fun w hw => ?_)
    have hroot : rootV self fs key = true := rootV_iff.2 (fun x hx => by
      obtain ⟨k, hk, rfl⟩ := List.getElem_of_mem hx
      exact hall k _ (by omega) (List.getElem?_eq_getElem hk))
    exact ⟨by rw [hroot], (hw.drop (List.nil_sublist _)).below⟩

set_option maxHeartbeats 1000000 in
theorem owed_spec (self : IDV) (v : Value) (fs : List IDV) (key : IDV) (w : World) (hr : Row w v fs.length (fI fs)) (hl : fs.length ≤ 1000000000) :
    Calls Try.prog 19 [.agg (cI self).toArray, v, .agg (cI key).toArray].toArray w fun r w' => ∃ x : Value × List (Nat × Obj), r = .returned x.1 ∧ Vec 23 16 x.1 (owedV self fs key).length (fI (owedV self fs key)) x.2 ∧ St w [] x.2 w' := by
  obtain ⟨af, cf, rfl, hcf, _⟩ := id hr
  refine calls_of_J (args := [.agg (cI self).toArray, .slice af fs.length cf, .agg (cI key).toArray]) (e := [(0, .agg (cI self).toArray), (1, .slice af fs.length cf), (2, .agg (cI key).toArray)]) Try.func19 rfl rfl ⟨rfl, rfl, rfl, trivial⟩ (St.start w) ?_
  refine JC.seq (fun K0 hK0 => ?_)
  refine JC.region ?_
  refine J.box rfl rfl rfl (fun b3 => ?_)
  refine J.box rfl rfl rfl (fun b5 => ?_)
  refine J.assign rfl rfl ?_
  refine J.nil ?_
  refine JX.thenN (hK0 _ _ ?_)
  refine JC.seq (fun K1 hK1 => ?_)
  refine JC.region ?_
  refine J.loadOA (vs := cI self) Ty.a23 Ty.s23 rfl (by repeat first | exact .head _ | apply List.Mem.tail | apply List.mem_append_right) (by exact rfl) rfl rfl ?_
  refine J.move rfl rfl ?_
  refine J.perm ([] ++ ((b5, cb (cI key) 23) :: (b3, cb (cI self) 23) :: [])) (.refl _) ?_
  refine J.callS (α := Value × List (Nat × Obj)) (V := (·.1)) (Pr := fun x => Vec 23 16 x.1 ((sortI fs self)).length (fI ((sortI fs self))) x.2) (L := (·.2)) (l1 := []) Ty.bd43 rfl rfl (fun w1 hw => sorted_spec self _ fs w1 (hr.below (hw.drop (List.nil_sublist _)).below) (by omega)) (fun x hvw => ?_)
  obtain ⟨vw, lw⟩ := x
  simp only at hvw ⊢
  obtain ⟨al, cl, rfl, hcl⟩ := hvw.form
  have hsl := sortI_le fs self
  refine J.assign rfl rfl ?_
  refine J.nil ?_
  refine JX.thenN (hK1 _ _ ?_)
  refine JC.seq (fun K2 hK2 => ?_)
  refine JC.seq (fun K3 hK3 => ?_)
  by_cases hl0 : (sortI fs self).length = 0
  · skip
    have hro : rootV self (sortI fs self) key = true := by rw [List.eq_nil_of_length_eq_zero hl0]; rfl
    refine JC.region ?_
    refine J.move rfl rfl ?_
    refine J.lenS rfl Ty.u24 rfl rfl ?_
    refine J.bin rfl rfl rfl rfl ?_
    refine J.name 13 rfl (show _ = Value.bool true by simp [hl0]) ?_
    refine J.move rfl rfl ?_
    first | refine J.skip rfl rfl rfl rfl rfl ?_ | refine J.skipU rfl rfl rfl rfl ?_ | (refine J.unguard rfl rfl rfl ?_; refine J.loadOA (vs := cI self) Ty.a23 Ty.s23 rfl (by repeat first | exact .head _ | apply List.Mem.tail | apply List.mem_append_right) (by exact rfl) rfl rfl ?_)
    first | refine J.skip rfl rfl rfl rfl rfl ?_ | refine J.skipU rfl rfl rfl rfl ?_ | (refine J.unguard rfl rfl rfl ?_; refine J.move rfl rfl ?_)
    first | refine J.skip rfl rfl rfl rfl rfl ?_ | refine J.skipU rfl rfl rfl rfl ?_ | (refine J.unguard rfl rfl rfl ?_; refine J.loadOA (vs := cI key) Ty.a23 Ty.s23 rfl (by repeat first | exact .head _ | apply List.Mem.tail | apply List.mem_append_right) (by exact rfl) rfl rfl ?_)
    first | refine J.skip rfl rfl rfl rfl rfl ?_ | refine J.skipU rfl rfl rfl rfl ?_ | (refine J.unguard rfl rfl rfl ?_; skip)
    (first | refine J.pickT rfl rfl rfl ?_ | refine J.pickF rfl rfl rfl ?_)
    refine J.nil ?_
    refine JX.thenN (hK3 _ _ ?_)
    first | refine JC.condT rfl ?_ | refine JC.cond rfl (fun _ => ?_) (fun h => by first | (exfalso; simp at h; omega) | (simp at h))
    refine JC.seq (fun K4 hK4 => ?_)
    refine JC.region ?_
    refine J.move rfl rfl ?_
    refine J.assign rfl rfl ?_
    refine J.nil ?_
    refine JX.thenN (hK4 _ _ ?_)
    refine JC.ret ?_
    refine JX.thenR ?_
    refine JX.ret1 rfl rfl (fun w hw => ?_)
    have ho : owedV self fs key = (sortI fs self) := if_pos hro
    exact ⟨(_, lw), rfl, by rw [ho]; exact hvw, hw.drop (List.sublist_append_left _ _)⟩
  · skip
    cases hro : rootV self (sortI fs self) key with
    | false =>
      have hne : (sortI fs self) ≠ [] := fun e => by rw [e] at hro; cases hro
      obtain ⟨i, hi1, hi2, hi3, hi4⟩ := minV_at (key := key) hne
      have hil : i < (sortI fs self).length := (List.getElem?_eq_some_iff.1 hi2).1
      obtain ⟨ql, rfl⟩ : ∃ q, al = some ⟨q, 0, none⟩ := by
        rcases hvw.2 with ⟨_, h9, _⟩ | ⟨q, c9, sp, h9, _⟩
        · omega
        · simp only [Value.slice.injEq] at h9; exact ⟨q, h9.1⟩
      refine JC.region ?_
      refine J.move rfl rfl ?_
      refine J.lenS rfl Ty.u24 rfl rfl ?_
      refine J.bin rfl rfl rfl rfl ?_
      refine J.name 13 rfl (show _ = Value.bool false by simp [hl0]) ?_
      refine J.move rfl rfl ?_
      first | refine J.skip rfl rfl rfl rfl rfl ?_ | refine J.skipU rfl rfl rfl rfl ?_ | (refine J.unguard rfl rfl rfl ?_; refine J.loadOA (vs := cI self) Ty.a23 Ty.s23 rfl (by repeat first | exact .head _ | apply List.Mem.tail | apply List.mem_append_right) (by exact rfl) rfl rfl ?_)
      first | refine J.skip rfl rfl rfl rfl rfl ?_ | refine J.skipU rfl rfl rfl rfl ?_ | (refine J.unguard rfl rfl rfl ?_; refine J.move rfl rfl ?_)
      first | refine J.skip rfl rfl rfl rfl rfl ?_ | refine J.skipU rfl rfl rfl rfl ?_ | (refine J.unguard rfl rfl rfl ?_; refine J.loadOA (vs := cI key) Ty.a23 Ty.s23 rfl (by repeat first | exact .head _ | apply List.Mem.tail | apply List.mem_append_right) (by exact rfl) rfl rfl ?_)
      refine J.unguard rfl rfl rfl ?_
      refine J.callB (v := .bool (rootV self (sortI fs self) key)) (fun w1 w2 hw hb => hw.step hb) Ty.bd16 rfl rfl (fun w1 hw => root_spec self _ (sortI fs self) key w1 (vec_rowM hvw hw (fun q hq => by first | (simp [hq]; done) | (simp at hq; simp [hq]; done) | (simp at hq; subst hq; simp))) (by omega)) ?_
      refine J.name 18 rfl (show _ = Value.bool false by rw [hro]) ?_
      (first | refine J.pickT rfl rfl rfl ?_ | refine J.pickF rfl rfl rfl ?_)
      refine J.nil ?_
      refine JX.thenN (hK3 _ _ ?_)
      first | refine JC.condF rfl ?_ | refine JC.cond rfl (fun h => by first | (exfalso; simp at h; omega) | (simp at h)) (fun _ => ?_)
      refine JC.skip ?_
      refine JX.thenN (hK2 _ _ ?_)
      refine JC.seq (fun K5 hK5 => ?_)
      refine JC.region ?_
      refine J.move rfl rfl ?_
      refine J.loadOA (vs := cI key) Ty.a23 Ty.s23 rfl (by repeat first | exact .head _ | apply List.Mem.tail | apply List.mem_append_right) (by exact rfl) rfl rfl ?_
      refine J.move rfl rfl ?_
      refine J.callB (v := .int .i64 (argI (kN key) (sortI fs self))) (fun w1 w2 hw hb => hw.step hb) Ty.bd42 rfl rfl (fun w1 hw => nearest_spec key _ (sortI fs self) w1 (vec_rowM hvw hw (fun q hq => by first | (simp [hq]; done) | (simp at hq; simp [hq]; done) | (simp at hq; subst hq; simp))) (by omega)) ?_
      refine J.name 24 rfl (show _ = Value.int .i64 ((i : Nat) : Int) by rw [hi1]) ?_
      refine J.indexAddrS Ty.el24 Ty.s23 rfl rfl (by omega) (by omega) rfl ?_
      refine J.loadA (vs := cI (minV key (sortI fs self))) Ty.a23 Ty.s23 rfl rfl (fun w1 hw => rowF_at (o := 0) (vec_rowM hvw hw (fun q hq => by first | (simp [hq]; done) | (simp at hq; simp [hq]; done) | (simp at hq; subst hq; simp))) hi2 (by simp)) rfl ?_
      refine J.buildSl (cs := cI (minV key (sortI fs self))) Ty.el24 Ty.s23 Ty.zID rfl rfl rfl rfl (by kernel_rfl) rfl rfl (fun b27 => ?_)
      refine J.assign rfl rfl ?_
      refine J.nil ?_
      refine JX.thenN (hK5 _ _ ?_)
      refine JC.ret ?_
      refine JX.ret1 rfl rfl (fun w hw => ?_)
      have ho : owedV self fs key = [(minV key (sortI fs self))] := if_neg (by rw [hro]; decide)
      exact ⟨(.slice (some ⟨b27, 0, none⟩) 1 1, [(b27, cb (cI (minV key (sortI fs self))) 23)]), rfl, by rw [ho]; exact ⟨rfl, .inr ⟨b27, 1, [], rfl, rfl, rfl, Nat.le_refl _⟩⟩, hw.drop (.cons_cons _ (List.nil_sublist _))⟩
    | true =>
      refine JC.region ?_
      refine J.move rfl rfl ?_
      refine J.lenS rfl Ty.u24 rfl rfl ?_
      refine J.bin rfl rfl rfl rfl ?_
      refine J.name 13 rfl (show _ = Value.bool false by simp [hl0]) ?_
      refine J.move rfl rfl ?_
      first | refine J.skip rfl rfl rfl rfl rfl ?_ | refine J.skipU rfl rfl rfl rfl ?_ | (refine J.unguard rfl rfl rfl ?_; refine J.loadOA (vs := cI self) Ty.a23 Ty.s23 rfl (by repeat first | exact .head _ | apply List.Mem.tail | apply List.mem_append_right) (by exact rfl) rfl rfl ?_)
      first | refine J.skip rfl rfl rfl rfl rfl ?_ | refine J.skipU rfl rfl rfl rfl ?_ | (refine J.unguard rfl rfl rfl ?_; refine J.move rfl rfl ?_)
      first | refine J.skip rfl rfl rfl rfl rfl ?_ | refine J.skipU rfl rfl rfl rfl ?_ | (refine J.unguard rfl rfl rfl ?_; refine J.loadOA (vs := cI key) Ty.a23 Ty.s23 rfl (by repeat first | exact .head _ | apply List.Mem.tail | apply List.mem_append_right) (by exact rfl) rfl rfl ?_)
      refine J.unguard rfl rfl rfl ?_
      refine J.callB (v := .bool (rootV self (sortI fs self) key)) (fun w1 w2 hw hb => hw.step hb) Ty.bd16 rfl rfl (fun w1 hw => root_spec self _ (sortI fs self) key w1 (vec_rowM hvw hw (fun q hq => by first | (simp [hq]; done) | (simp at hq; simp [hq]; done) | (simp at hq; subst hq; simp))) (by omega)) ?_
      refine J.name 18 rfl (show _ = Value.bool true by rw [hro]) ?_
      (first | refine J.pickT rfl rfl rfl ?_ | refine J.pickF rfl rfl rfl ?_)
      refine J.nil ?_
      refine JX.thenN (hK3 _ _ ?_)
      first | refine JC.condT rfl ?_ | refine JC.cond rfl (fun _ => ?_) (fun h => by first | (exfalso; simp at h; omega) | (simp at h))
      refine JC.seq (fun K6 hK6 => ?_)
      refine JC.region ?_
      refine J.move rfl rfl ?_
      refine J.assign rfl rfl ?_
      refine J.nil ?_
      refine JX.thenN (hK6 _ _ ?_)
      refine JC.ret ?_
      refine JX.thenR ?_
      refine JX.ret1 rfl rfl (fun w hw => ?_)
      have ho : owedV self fs key = (sortI fs self) := if_pos hro
      exact ⟨(_, lw), rfl, by rw [ho]; exact hvw, hw.drop (List.sublist_append_left _ _)⟩

set_option maxHeartbeats 1000000 in
theorem rowed_spec (self : IDV) (v : Value) (fs : List IDV) (key : IDV) (w : World) (hr : Row w v fs.length (fI fs)) (hl : fs.length ≤ 1000000000) :
    Calls Try.prog 20 [.agg (cI self).toArray, v, .agg (cI key).toArray].toArray w fun r w' => ∃ x : Value × List (Nat × Obj), r = .returned x.1 ∧ Vec 23 16 x.1 (owedV self fs key).length (fI (owedV self fs key)) x.2 ∧ St w [] x.2 w' := by
  obtain ⟨af, cf, rfl, hcf, _⟩ := id hr
  refine calls_of_J (args := [.agg (cI self).toArray, .slice af fs.length cf, .agg (cI key).toArray]) (e := [(0, .agg (cI self).toArray), (1, .slice af fs.length cf), (2, .agg (cI key).toArray)]) Try.func20 rfl rfl ⟨rfl, rfl, rfl, trivial⟩ (St.start w) ?_
  refine JC.seq (fun K0 hK0 => ?_)
  refine JC.region ?_
  refine J.box rfl rfl rfl (fun b3 => ?_)
  refine J.box rfl rfl rfl (fun b5 => ?_)
  refine J.assign rfl rfl ?_
  refine J.nil ?_
  refine JX.thenN (hK0 _ _ ?_)
  refine JC.seq (fun K1 hK1 => ?_)
  refine JC.region ?_
  refine J.loadOA (vs := cI self) Ty.a23 Ty.s23 rfl (by repeat first | exact .head _ | apply List.Mem.tail | apply List.mem_append_right) (by exact rfl) rfl rfl ?_
  refine J.move rfl rfl ?_
  refine J.perm ([] ++ ((b5, cb (cI key) 23) :: (b3, cb (cI self) 23) :: [])) (.refl _) ?_
  refine J.callS (α := Value × List (Nat × Obj)) (V := (·.1)) (Pr := fun x => Vec 23 16 x.1 ((sortI fs self)).length (fI ((sortI fs self))) x.2) (L := (·.2)) (l1 := []) Ty.bd44 rfl rfl (fun w1 hw => rsorted_spec self _ fs w1 (hr.below (hw.drop (List.nil_sublist _)).below) (by omega)) (fun x hvw => ?_)
  obtain ⟨vw, lw⟩ := x
  simp only at hvw ⊢
  obtain ⟨al, cl, rfl, hcl⟩ := hvw.form
  have hsl := sortI_le fs self
  refine J.assign rfl rfl ?_
  refine J.nil ?_
  refine JX.thenN (hK1 _ _ ?_)
  refine JC.seq (fun K2 hK2 => ?_)
  refine JC.seq (fun K3 hK3 => ?_)
  cases hro : rootV self (sortI fs self) key with
  | false =>
    have hne : (sortI fs self) ≠ [] := fun e => by rw [e] at hro; cases hro
    obtain ⟨i, hi1, hi2, hi3, hi4⟩ := minV_at (key := key) hne
    have hil : i < (sortI fs self).length := (List.getElem?_eq_some_iff.1 hi2).1
    obtain ⟨ql, rfl⟩ : ∃ q, al = some ⟨q, 0, none⟩ := by
      rcases hvw.2 with ⟨_, h9, _⟩ | ⟨q, c9, sp, h9, _⟩
      · omega
      · simp only [Value.slice.injEq] at h9; exact ⟨q, h9.1⟩
    refine JC.region ?_
    refine J.loadOA (vs := cI self) Ty.a23 Ty.s23 rfl (by repeat first | exact .head _ | apply List.Mem.tail | apply List.mem_append_right) (by exact rfl) rfl rfl ?_
    refine J.move rfl rfl ?_
    refine J.loadOA (vs := cI key) Ty.a23 Ty.s23 rfl (by repeat first | exact .head _ | apply List.Mem.tail | apply List.mem_append_right) (by exact rfl) rfl rfl ?_
    refine J.callB (v := .bool (rootV self (sortI fs self) key)) (fun w1 w2 hw hb => hw.step hb) Ty.bd17 rfl rfl (fun w1 hw => rroot_spec self _ (sortI fs self) key w1 (vec_rowM hvw hw (fun q hq => by first | (simp [hq]; done) | (simp at hq; simp [hq]; done) | (simp at hq; subst hq; simp))) (by omega)) ?_
    refine J.name 14 rfl (show _ = Value.bool false by rw [hro]) ?_
    refine J.nil ?_
    refine JX.thenN (hK3 _ _ ?_)
    first | refine JC.condF rfl ?_ | refine JC.cond rfl (fun h => by first | (exfalso; simp at h; omega) | (simp at h)) (fun _ => ?_)
    refine JC.skip ?_
    refine JX.thenN (hK2 _ _ ?_)
    refine JC.seq (fun K4 hK4 => ?_)
    refine JC.region ?_
    refine J.move rfl rfl ?_
    refine J.loadOA (vs := cI key) Ty.a23 Ty.s23 rfl (by repeat first | exact .head _ | apply List.Mem.tail | apply List.mem_append_right) (by exact rfl) rfl rfl ?_
    refine J.move rfl rfl ?_
    refine J.callB (v := .int .i64 (argI (kN key) (sortI fs self))) (fun w1 w2 hw hb => hw.step hb) Ty.bd22 rfl rfl (fun w1 hw => rnearest_spec key _ (sortI fs self) w1 (vec_rowM hvw hw (fun q hq => by first | (simp [hq]; done) | (simp at hq; simp [hq]; done) | (simp at hq; subst hq; simp))) (by omega)) ?_
    refine J.name 19 rfl (show _ = Value.int .i64 ((i : Nat) : Int) by rw [hi1]) ?_
    refine J.indexAddrS Ty.el24 Ty.s23 rfl rfl (by omega) (by omega) rfl ?_
    refine J.loadA (vs := cI (minV key (sortI fs self))) Ty.a23 Ty.s23 rfl rfl (fun w1 hw => rowF_at (o := 0) (vec_rowM hvw hw (fun q hq => by first | (simp [hq]; done) | (simp at hq; simp [hq]; done) | (simp at hq; subst hq; simp))) hi2 (by simp)) rfl ?_
    refine J.buildSl (cs := cI (minV key (sortI fs self))) Ty.el24 Ty.s23 Ty.zID rfl rfl rfl rfl (by kernel_rfl) rfl rfl (fun b27 => ?_)
    refine J.assign rfl rfl ?_
    refine J.nil ?_
    refine JX.thenN (hK4 _ _ ?_)
    refine JC.ret ?_
    refine JX.ret1 rfl rfl (fun w hw => ?_)
    have ho : owedV self fs key = [(minV key (sortI fs self))] := if_neg (by rw [hro]; decide)
    exact ⟨(.slice (some ⟨b27, 0, none⟩) 1 1, [(b27, cb (cI (minV key (sortI fs self))) 23)]), rfl, by rw [ho]; exact ⟨rfl, .inr ⟨b27, 1, [], rfl, rfl, rfl, Nat.le_refl _⟩⟩, hw.drop (.cons_cons _ (List.nil_sublist _))⟩
  | true =>
    refine JC.region ?_
    refine J.loadOA (vs := cI self) Ty.a23 Ty.s23 rfl (by repeat first | exact .head _ | apply List.Mem.tail | apply List.mem_append_right) (by exact rfl) rfl rfl ?_
    refine J.move rfl rfl ?_
    refine J.loadOA (vs := cI key) Ty.a23 Ty.s23 rfl (by repeat first | exact .head _ | apply List.Mem.tail | apply List.mem_append_right) (by exact rfl) rfl rfl ?_
    refine J.callB (v := .bool (rootV self (sortI fs self) key)) (fun w1 w2 hw hb => hw.step hb) Ty.bd17 rfl rfl (fun w1 hw => rroot_spec self _ (sortI fs self) key w1 (vec_rowM hvw hw (fun q hq => by first | (simp [hq]; done) | (simp at hq; simp [hq]; done) | (simp at hq; subst hq; simp))) (by omega)) ?_
    refine J.name 14 rfl (show _ = Value.bool true by rw [hro]) ?_
    refine J.nil ?_
    refine JX.thenN (hK3 _ _ ?_)
    first | refine JC.condT rfl ?_ | refine JC.cond rfl (fun _ => ?_) (fun h => by first | (exfalso; simp at h; omega) | (simp at h))
    refine JC.seq (fun K5 hK5 => ?_)
    refine JC.region ?_
    refine J.move rfl rfl ?_
    refine J.assign rfl rfl ?_
    refine J.nil ?_
    refine JX.thenN (hK5 _ _ ?_)
    refine JC.ret ?_
    refine JX.thenR ?_
    refine JX.ret1 rfl rfl (fun w hw => ?_)
    have ho : owedV self fs key = (sortI fs self) := if_pos hro
    exact ⟨(_, lw), rfl, by rw [ho]; exact hvw, hw.drop (List.sublist_append_left _ _)⟩

end Go.Proofs.Ytbafhclandendaa
/-
  Arguments: arrays of what can be decoded. Proved over any program.
-/
namespace Go.J
open Go.ChangeShapes Go.WideShapes Go.ChangeAt Go.RowKit
set_option linter.unusedVariables false
set_option linter.unusedSimpArgs false
def RArr {α : Type} (k sz : Nat) (R : World → List Value → α → Prop) : World → List Value → List α → Prop := fun w cs xs =>
  cs.length = k * sz ∧ xs.length = k ∧ ∀ i x, xs[i]? = some x → R w ((cs.drop (i * sz)).take sz) x
/-- an array of two -/
theorem RArr.two {α : Type} {sz : Nat} {R : World → List Value → α → Prop} {w : World} {cs : List Value} {xs : List α} (h : RArr 2 sz R w cs xs) : ∃ a b c1 c2, cs = c1 ++ c2 ∧ R w c1 a ∧ R w c2 b := by
  obtain ⟨h1, h2, h3⟩ := h
  match xs, h2 with
  | [a, b], _ =>
    refine ⟨a, b, cs.take sz, cs.drop sz, (List.take_append_drop _ _).symm, ?_, ?_⟩
    · have := h3 0 a rfl
      simpa using this
    · have := h3 1 b rfl
      rw [Nat.one_mul, List.take_of_length_le (by rw [List.length_drop]; omega)] at this
      exact this
end Go.J
/-
  The calculus: ranging over a map; a range over an iterator function, and its rounds. Proved over any program.
-/
namespace Go.J
open Go.RowKit
open Go.ChangeMaps (setBlock)
set_option linter.unusedVariables false
set_option linter.unusedSimpArgs false

/- ranging over a map -/
/-- where an iterator over a map stands: the stamps of the entries that came -/
def IterAt (b : Nat) (es : Array MapEntry) (clock : Nat) (sn : List Nat) (o : Obj) : Prop :=
  ∃ since c0, o = .mapIter (some b) since sn.toArray c0 ∧ since ≤ c0 ∧ since ≤ clock ∧ ∀ x, x ∈ es.toList → x.born < since
/-- it has just handed out an entry -/
def IterOn (b : Nat) (es : Array MapEntry) (clock : Nat) (sn : List Nat) (en : MapEntry) (o : Obj) : Prop :=
  ∃ since, o = .mapIter (some b) since (sn.toArray.push en.born) clock ∧ since ≤ clock ∧ ∀ x, x ∈ es.toList → x.born < since
theorem IterOn.at {b : Nat} {es : Array MapEntry} {clock : Nat} {sn : List Nat} {en : MapEntry} {o : Obj} (h : IterOn b es clock sn en o) : IterAt b es clock (sn ++ [en.born]) o := by
  obtain ⟨since, h1, h2, h3⟩ := h
  exact ⟨since, clock, by rw [h1]; simp, h2, h2, h3⟩
def nextA : Option MapEntry → Array Value
  | none => #[.bool false]
  | some e => #[.bool true, e.key, e.val]
theorem nextA_0 (eo : Option MapEntry) : (nextA eo)[0]? = some (.bool eo.isSome) := by cases eo <;> rfl
/-- what a step of it does -/
def NextTo (b : Nat) (es : Array MapEntry) (clock : Nat) (sn : List Nat) (o : Obj) : Option MapEntry → Obj → Prop
  | none, o' => o' = o ∧ ∀ x, x ∈ es.toList → x.born ∈ sn
  | some en, o' => en ∈ es.toList ∧ en.born ∉ sn ∧ IterOn b es clock sn en o'

section
variable {P : Program} {ops : Array Oper} {Q : Exit → Act → World → Prop} {n : Nat} {e : Env} {I I' : World → Prop} {rest : List Oper}
variable {d t : Nat} {p : String} {af : Array Edge} {x y z : Operand} {v v1 v2 : Value} {w0 : World} {S : List Nat} {l l' : List (Nat × Obj)}

theorem J.range {ty kt et b clock : Nat} {es : Array MapEntry} (hu : P.underlying ty = some (.map kt et)) (hx : ev e x = some (.map (some b))) (hb : ∀ w, St w0 S l w → w.heap[b]? = some (.map es clock))
    (hst : ∀ x, x ∈ es.toList → x.born < clock) (hd : Nat.blt d n = true)
    (h : ∀ r o, IterAt b es clock [] o → J P ops Q n rest ((d, .pointer (some ⟨r, 0, none⟩)) :: e) (St w0 S ((r, o) :: l))) :
    J P ops Q n (⟨some d, .range ty x, t, p, af, none⟩ :: rest) e (St w0 S l) := by
  refine J.valueEx (V := fun r => .pointer (some ⟨r, 0, none⟩)) (I' := fun r => St w0 S ((r, .mapIter (some b) clock #[] clock) :: l)) hd (fun T w ht hw => ⟨w.heap.size, w.alloc (.mapIter (some b) clock #[] clock), ?_, ?_⟩) (fun r => h r _ ⟨clock, clock, rfl, Nat.le_refl _, Nat.le_refl _, hst⟩)
  · simp [execOp, ht.eval hx, run_range_map w ty kt et b es clock hu (hb w hw)]
  · exact hw.new (below_alloc' w _) (Nat.le_refl _) (alloc_at w _)

theorem J.next {b r clock : Nat} {es : Array MapEntry} {sn : List Nat} {o : Obj} {l' : Obj → List (Nat × Obj)} (hx : ev e x = some (.pointer (some ⟨r, 0, none⟩))) (hu : ∀ o', Up l r o o' (l' o')) (hI : IterAt b es clock sn o)
    (hb : ∀ w, St w0 S l w → w.heap[b]? = some (.map es clock)) (hd : Nat.blt d n = true)
    (h : ∀ eo o', NextTo b es clock sn o eo o' → J P ops Q n rest ((d, .tuple (nextA eo)) :: e) (St w0 S (l' o'))) :
    J P ops Q n (⟨some d, .next x false, t, p, af, none⟩ :: rest) e (St w0 S l) := by
  refine J.valueEx (α := Option MapEntry × Obj) (V := fun q => .tuple (nextA q.1)) (I' := fun q w => NextTo b es clock sn o q.1 q.2 ∧ St w0 S (l' q.2) w) hd (fun T w ht hw => ?_) (fun q => J.pr fun hq => h q.1 q.2 hq)
  obtain ⟨since, c0, rfl, h1, h2, h3⟩ := hI
  have hr := hw.own _ (hu (.mapIter (some b) since sn.toArray c0)).mem
  rcases run_next_at (P := P) w t r b since c0 sn.toArray es clock hr (hb w hw) h3 h1 with ⟨h0, hrun⟩ | ⟨en, he, w1, hal, hrun⟩
  · refine ⟨(none, _), w, ?_, ⟨rfl, fun x hx => ?_⟩, hw.set (hu _) rfl rfl rfl (Nat.le_refl _) rfl hr (fun _ _ _ => rfl)⟩
    · simp [execOp, ht.eval hx, hrun, nextA]
    · have := all_seen es sn.toArray h0 x hx
      simpa using this
  · obtain ⟨hem, hes⟩ := mem_left he
    have hw1 : St w0 S l w1 := by
      rcases hal with rfl | rfl
      · exact hw
      · exact hw.step ((Bel.refl w).drew)
    have hr1 := hw1.own _ (hu (.mapIter (some b) since sn.toArray c0)).mem
    refine ⟨(some en, .mapIter (some b) since (sn.toArray.push en.born) clock), setBlock w1 r (.mapIter (some b) since (sn.toArray.push en.born) clock), ?_, ⟨hem, by simpa using hes, since, rfl, h2, h3⟩, hw1.wrote (hu _) (wrote_set hr1)⟩
    simp [execOp, ht.eval hx, hrun, nextA]
theorem J.entry {b r clock : Nat} {es : Array MapEntry} {sn : List Nat} {en : MapEntry} {o : Obj} (hx : ev e x = some (.pointer (some ⟨r, 0, none⟩))) (hm : (r, o) ∈ l) (hI : IterOn b es clock sn en o) (he : en ∈ es.toList) (hn : (es.toList.map (·.born)).Nodup)
    (hb : ∀ w, St w0 S l w → w.heap[b]? = some (.map es clock)) (hd : Nat.blt d n = true)
    (h : J P ops Q n rest ((d, .tuple #[en.key, en.val]) :: e) (St w0 S l)) :
    J P ops Q n (⟨some d, .entry x, t, p, af, none⟩ :: rest) e (St w0 S l) := by
  obtain ⟨since, rfl, h1, h2⟩ := hI
  refine J.value hd (fun T w ht hw => ⟨w, ?_, hw⟩) h
  have hrun := run_entry_at (P := P) w r b since sn.toArray es clock en (hw.own _ hm) (hb w hw) he hn
  simp [execOp, ht.eval hx, hrun]

end
/- taking an entry out of a map -/
theorem run_delete {P : Program} {w : World} {mt kt kt' et ty : TypeId} {b clock : Nat} {es : Array MapEntry} {k : Value} {lk : Lit} (hm : P.underlying mt = some (.map kt et)) (K : WideMaps.KeyLaw P kt)
    (hb : w.heap[b]? = some (.map es clock)) (hk : keyOf P kt k = some lk) (hes : ∀ e, e ∈ es.toList → ∃ l, keyOf P kt e.key = some l) :
    ∃ es', (Builtin.delete_ #[mt, kt'] ty #[.map (some b), k]).run P w = .ok (.tuple #[]) { w with heap := w.heap.setIfInBounds b (.map es' clock) } ∧
      ((es' = es ∧ ∀ e, e ∈ es.toList → e.key ≠ k) ∨ ∃ j e0, es.toList[j]? = some e0 ∧ e0.key = k ∧ es' = es.eraseIdxIfInBounds j ∧ es'.toList = es.toList.eraseIdx j) := by
  rcases K.find w hk es.toList hes with ⟨h1, h2⟩ | ⟨j, e0, h1, h2, h3⟩
  · refine ⟨es, ?_, .inl ⟨rfl, h2⟩⟩
    simp [Builtin.delete_, run_underlying' hm, run_key hb, K.check w _ hk, h1, run_keyset _ hb]
  · have hjl : j < es.toList.length := (List.getElem?_eq_some_iff.1 h2).1
    have hjs : j < es.size := by simpa using hjl
    have hsub : (es.eraseIdxIfInBounds j).toList = es.toList.eraseIdx j := by
      unfold Array.eraseIdxIfInBounds
      rw [dif_pos hjs]
      simp
    refine ⟨es.eraseIdxIfInBounds j, ?_, .inr ⟨j, e0, h2, h3, rfl, hsub⟩⟩
    simp [Builtin.delete_, run_underlying' hm, run_key hb, K.check w _ hk, h1, run_keyset _ hb]
theorem erase_filter : ∀ {L : List EV} {j : Nat} {x : EV}, L.Pairwise (fun x y => x.p ≠ y.p) → L[j]? = some x → L.eraseIdx j = L.filter (fun y => decide (y.p ≠ x.p))
  | [], j, x, _, h => by simp at h
  | a :: L, 0, x, hd, h => by
    simp only [List.getElem?_cons_zero, Option.some.injEq] at h
    subst h
    have hd' := List.pairwise_cons.1 hd
    rw [List.eraseIdx_cons_zero, List.filter_cons_of_neg (by simp)]
    exact (List.filter_eq_self.2 fun y hy => by
      have := hd'.1 y hy
      simp only [ne_eq, decide_not, Bool.not_eq_true', decide_eq_false_iff_not]
      exact fun e => this e.symm).symm
  | a :: L, j + 1, x, hd, h => by
    have hd' := List.pairwise_cons.1 hd
    simp only [List.getElem?_cons_succ] at h
    rw [List.eraseIdx_cons_succ, erase_filter hd'.2 h, List.filter_cons_of_pos]
    have := hd'.1 x (List.mem_of_getElem? h)
    simpa using this
theorem Tab.del {L : List EV} {es es' : Array MapEntry} {clock : Nat} {p : PV} (h : Tab L es clock)
    (hd : (es' = es ∧ ∀ e, e ∈ es.toList → e.key ≠ .agg (cP p).toArray) ∨ ∃ j e0, es.toList[j]? = some e0 ∧ e0.key = .agg (cP p).toArray ∧ es' = es.eraseIdxIfInBounds j ∧ es'.toList = es.toList.eraseIdx j) :
    Tab (L.filter (fun y => decide (y.p ≠ p))) es' clock := by
  rcases hd with ⟨rfl, hno⟩ | ⟨j, e0, h1, h2, rfl, h3⟩
  · have : L.filter (fun y => decide (y.p ≠ p)) = L := List.filter_eq_self.2 fun y hy => by
      obtain ⟨e, he, hk⟩ := h.mem' hy
      have := hno e he
      rw [hk] at this
      simp only [ne_eq, decide_not, Bool.not_eq_true', decide_eq_false_iff_not]
      exact fun e => this (by rw [e])
    rw [this]
    exact h
  · have hlen := congrArg List.length h.is_
    simp only [List.length_map] at hlen
    have hj := (List.getElem?_eq_some_iff.1 h1).1
    obtain ⟨x, hx⟩ : ∃ x, L[j]? = some x := ⟨L[j]'(by omega), List.getElem?_eq_getElem (by omega)⟩
    have hi := congrArg (fun l => l[j]?) h.is_
    simp only [List.getElem?_map, h1, hx, Option.map_some, Option.some.injEq, Prod.mk.injEq] at hi
    have hp : x.p = p := cP_eq.1 (agg_inj.1 (hi.1.symm.trans h2))
    rw [← hp, ← erase_filter h.dist hx]
    refine ⟨MapKept.stamped_erase h.st j, ?_, fun y hy => h.ok y ((List.eraseIdx_sublist _ _).subset hy), h.dist.sublist (List.eraseIdx_sublist _ _)⟩
    rw [h3, Go.ChangeMaps.map_eraseIdx, Go.ChangeMaps.map_eraseIdx, h.is_]
section
variable {P : Program} {ops : Array Oper} {Q : Exit → Act → World → Prop} {n : Nat} {e : Env} {I I' : World → Prop} {rest : List Oper}
variable {d t : Nat} {p : String} {af : Array Edge} {x y z : Operand} {v v1 v2 : Value} {w0 : World} {S : List Nat} {l l' : List (Nat × Obj)}
/- operations in a round's frame; yield -/
/-- a call of yield: its run, and the round -/
def YieldTo (F : Fence) (m : Nat) (P : Program) (l : Nat) (args : Array Value) (W : World) (R : Ending → World → Prop) : Prop :=
  ∃ fn tmps assign body, (Instr.yield l args).run P W = .ok (.round l fn tmps assign body) W ∧ RoundIn F m P l fn tmps assign body W R
abbrev FW (r : Option Nat) : Fence := { fn := fun _ => True, depth := none, alive := false, round := r }
def noDefB (o : Oper) : Bool := match o.op with
  | .defer _ => false
  | _ => true
def QX {α : Type} (n : Nat) (E : α → Env) (I' : α → World → Prop) : Exit → Act → World → Prop := fun x a w => x = .normal ∧ ∃ z, a.defers = [] ∧ Rep n a.tmps (E z) ∧ I' z w
theorem QX.normal {α : Type} {n : Nat} {E : α → Env} {I' : α → World → Prop} : ∀ x a w, QX n E I' x a w → x = .normal := fun _ _ _ h => h.1
def JI (P : Program) (r : Option Nat) (ops : Array Oper) (Q : Exit → Act → World → Prop) (n : Nat) (rest : List Oper) (e : Env) (I : World → Prop) : Prop := ∀ T w, Rep n T e → I w → wpListIn (FW r) 0 P ops Q rest (act T) w
theorem JI.nil {r : Option Nat} (h : JX Q n .normal e I) : JI P r ops Q n [] e I := fun T w ht hw => h T w ht hw
theorem JX.qx {α : Type} {E : α → Env} {I' : α → World → Prop} (z : α) (hc : Cov e (E z)) (hi : ∀ w, I w → I' z w) : JX (QX n E I') n .normal e I := fun T w ht hw => ⟨rfl, z, rfl, ht.cov hc, hi w hw⟩
/-- a call of yield -/
theorem JI.yield {lb : Nat} {xs : List Operand} {ats : Array TypeId} {vs : List Value} {R : Value → World → Prop} (hy : ev e y = some (.func (.yield lb) #[] #[])) (hx : evs e xs = some vs) (hd : Nat.blt d n = true)
    (hc : ∀ w, I w → YieldTo (FW none) 0 P lb vs.toArray w fun r w' => ∃ v, r = .returned v ∧ R v w')
    (h : ∀ v, JI P none ops Q n rest ((d, v) :: e) (R v)) : JI P none ops Q n (⟨some d, .call ⟨.value y, xs.toArray, ats⟩, t, p, af, none⟩ :: rest) e I := by
  intro T w ht hw
  obtain ⟨fn, tmps, assign, body, hyr, hR⟩ := hc w hw
  have hr : (execOp (act T).eval ⟨some d, .call ⟨.value y, xs.toArray, ats⟩, t, p, af, none⟩).run P w = .ok (.round lb fn tmps assign body) w := by
    have := ht.evals hx
    simp [execOp, resolve, ht.eval hy, Deferred.ofValue, invoke, this, hyr]
  show (if Region.wanted _ (yielded ops T) then Oper.wpIn (FW none) 0 P _ (act T) w (wpListIn (FW none) 0 P ops Q rest) Q else _)
  rw [if_pos (by simp [Region.wanted])]
  refine ⟨fun _ _ => trivial, ?_⟩
  rw [Oper.semAt_eq _ _ _ (fun c hc => by cases hc), hr]
  refine ⟨(fun h => by cases h), hR.mono fun r w' ⟨v, hv, hRv⟩ => ?_⟩
  subst hv
  exact h v _ w' (ht.put hd v) hRv
end

/- one round out of its two regions -/
/- the statement; what stands behind it -/
def markOf (D : Nat) : List Deferred := [{ target := .collected D, args := #[] }]
/-- the same, told by known blocks; the loop's record by its fields -/
structure RecIs (rec : Loop) (fn : FuncId) (T : Array Value) (ps : Array Tmp) (assign body : Code) (D : Nat) : Prop where
  state : rec.state = .ready
  pending : rec.pending = none
  fn : rec.fn = fn
  tmps : rec.tmps = T
  params : rec.params = ps
  assign : rec.assign = assign
  body : rec.body = body
def Act.more (a : Act) (ds : List Deferred) : Act := ⟨a.tmps, a.defers ++ ds⟩
end Go.J
/-
  The calculus: slices whose capacity may end ahead of their block; s[lo:hi:max]; rows of anything. Proved over any program.
-/
namespace Go.J
open Go.RowKit
set_option linter.unusedVariables false
set_option linter.unusedSimpArgs false
/-- a slice of the call's own of which the block may hold more than its capacity -/
def VecW (t sz : Nat) (v : Value) (k : Nat) (xs : List Value) (lp : List (Nat × Obj)) : Prop :=
  xs.length = k * sz ∧ ((v = .slice none 0 0 ∧ k = 0 ∧ lp = []) ∨ ∃ b c sp, v = .slice (some ⟨b, 0, none⟩) k c ∧ lp = [(b, cb (xs ++ sp) t)] ∧ c * sz ≤ (xs ++ sp).length ∧ k ≤ c)
theorem Vec.weak {t sz : Nat} {v : Value} {k : Nat} {xs : List Value} {lp : List (Nat × Obj)} (h : Vec t sz v k xs lp) : VecW t sz v k xs lp := by
  refine ⟨h.1, ?_⟩
  rcases h.2 with h | ⟨b, c, sp, h1, h2, h3, h4⟩
  · exact .inl h
  · exact .inr ⟨b, c, sp, h1, h2, Nat.le_of_eq h3.symm, h4⟩
theorem VecW.nil (t sz : Nat) : VecW t sz (.slice none 0 0) 0 [] [] := (Vec.nil t sz).weak
theorem VecW.row {w0 w : World} {S : List Nat} {l lp : List (Nat × Obj)} {t sz : Nat} {v : Value} {k : Nat} {xs : List Value} (h : VecW t sz v k xs lp) (hw : St w0 S (lp ++ l) w) : Row w v k xs := by
  obtain ⟨hl, h⟩ := h
  rcases h with ⟨rfl, rfl, rfl⟩ | ⟨b, c, sp, rfl, rfl, _, hk⟩
  · exact ⟨none, 0, rfl, Nat.le_refl _, .inl (List.eq_nil_of_length_eq_zero (by simpa using hl))⟩
  · exact Row.own (cs := xs ++ sp) (tb := t) (fr := (0, 0)) hw (.head _) (by simp) hk
theorem VecW.form {t sz : Nat} {v : Value} {k : Nat} {xs : List Value} {lp : List (Nat × Obj)} (h : VecW t sz v k xs lp) : ∃ a c, v = .slice a k c ∧ k ≤ c := by
  rcases h.2 with ⟨rfl, rfl, rfl⟩ | ⟨b, c, sp, rfl, rfl, _, hk⟩
  · exact ⟨none, 0, rfl, Nat.le_refl _⟩
  · exact ⟨_, c, rfl, hk⟩
/-- its first j elements, with no more room than that -/
theorem VecW.cut {t sz : Nat} {a : Option Addr} {k c j : Nat} {xs : List Value} {lp : List (Nat × Obj)} (h : VecW t sz (.slice a k c) k xs lp) (hj : j ≤ k) : VecW t sz (.slice a j j) j (xs.take (j * sz)) lp := by
  have hl := h.1
  have hle : j * sz ≤ xs.length := by rw [hl]; exact Nat.mul_le_mul_right _ hj
  refine ⟨by rw [List.length_take]; omega, ?_⟩
  rcases h.2 with ⟨h1, h2, h3⟩ | ⟨b, c', sp, h1, h2, h3, h4⟩
  · simp only [Value.slice.injEq] at h1
    obtain ⟨rfl, _, _⟩ := h1
    obtain rfl : j = 0 := by omega
    exact .inl ⟨rfl, rfl, h3⟩
  · simp only [Value.slice.injEq] at h1
    obtain ⟨rfl, _, _⟩ := h1
    refine .inr ⟨b, j, xs.drop (j * sz) ++ sp, rfl, ?_, ?_, Nat.le_refl _⟩
    · rw [h2, ← List.append_assoc, List.take_append_drop]
    · rw [← List.append_assoc, List.take_append_drop, List.length_append]; omega
section
variable {P : Program} {ops : Array Oper} {Q : Exit → Act → World → Prop} {n : Nat} {e : Env} {I I' : World → Prop} {rest : List Oper}
variable {d t : Nat} {p : String} {af : Array Edge} {x y z : Operand} {v v1 v2 : Value} {w0 : World} {S : List Nat} {l l' lp : List (Nat × Obj)}
end
/-- rows of anything -/
theorem fG_length {α : Type} {c : α → List Value} {sz : Nat} (hc : ∀ x, (c x).length = sz) : ∀ xs : List α, (xs.flatMap c).length = xs.length * sz
  | [] => by simp
  | x :: xs => by
    have := fG_length hc xs
    simp only [List.flatMap_cons, List.length_append, List.length_cons, this, hc, Nat.add_mul]
    omega
theorem fG_at {α : Type} {c : α → List Value} {sz : Nat} (hc : ∀ x, (c x).length = sz) : ∀ {xs : List α} {i : Nat} {a : α}, xs[i]? = some a → ((xs.flatMap c).drop (i * sz)).take sz = c a
  | [], i, a, h => by simp at h
  | x :: xs, 0, a, h => by
    simp only [List.getElem?_cons_zero, Option.some.injEq] at h
    subst h
    rw [Nat.zero_mul, List.drop_zero, List.flatMap_cons, ← hc x, List.take_left]
  | x :: xs, i + 1, a, h => by
    have ih := fG_at hc (xs := xs) (i := i) (by simpa using h)
    rw [Nat.add_mul, Nat.one_mul, Nat.add_comm, ← List.drop_drop, List.flatMap_cons]
    have : (c x ++ List.flatMap c xs).drop sz = List.flatMap c xs := by rw [← hc x, List.drop_left]
    rw [this]
    exact ih
theorem rowG_at {α : Type} {c : α → List Value} {sz : Nat} (hc : ∀ x, (c x).length = sz) {w : World} {b o k cc q i : Nat} {xs : List α} {a : α} (h : Row w (.slice (some ⟨b, o, none⟩) k cc) k (xs.flatMap c)) (hi : xs[i]? = some a) (hq : q = o + i * sz) : Cells w b q (c a) := by
  have hl : i < xs.length := (List.getElem?_eq_some_iff.1 hi).1
  have hlen := fG_length hc xs
  intro j hj
  rw [hc a] at hj
  have h1 : (i + 1) * sz ≤ xs.length * sz := Nat.mul_le_mul_right _ hl
  rw [Nat.add_mul, Nat.one_mul] at h1
  obtain ⟨b', o', c', hv, _, hcc⟩ := Row.some h (by omega)
  simp only [Value.slice.injEq, Option.some.injEq, Addr.mk.injEq] at hv
  obtain ⟨⟨rfl, rfl, _⟩, _, rfl⟩ := hv
  subst hq
  rw [Nat.add_assoc, hcc (i * sz + j) (by omega)]
  have e := fG_at hc hi
  have : (c a)[j]? = (((xs.flatMap c).drop (i * sz)).take sz)[j]? := by rw [e]
  rw [this, List.getElem?_take_of_lt hj, List.getElem?_drop]
theorem fG_cell {α : Type} {c : α → List Value} {sz : Nat} (hc : ∀ x, (c x).length = sz) {xs : List α} {i r : Nat} {a : α} (h : xs[i]? = some a) (hr : r < sz) : (xs.flatMap c)[i * sz + r]? = (c a)[r]? := by
  rw [← fG_at hc h, List.getElem?_take_of_lt hr, List.getElem?_drop]
end Go.J
/-
  Arguments: slices of what has fixed cells, as rows. Proved over any program.
-/
namespace Go.J
open Go.ChangeShapes Go.WideShapes Go.ChangeAt Go.RowKit
set_option linter.unusedVariables false
set_option linter.unusedSimpArgs false
theorem rslG {α : Type} {c : α → List Value} {sz by_ : Nat} (hc : ∀ x, (c x).length = sz) (hz : 0 < sz) {R : World → List Value → α → Prop} (hR : ∀ W cs x, R W cs x → cs = c x) {W : World} {s : Sl α} {cs : List Value} (h : RSl sz by_ R W cs s) : Row W s.v s.xs.length (s.xs.flatMap c) := by
  obtain ⟨_, h1, _, h2⟩ := h
  refine ⟨s.a, s.c, rfl, h1, ?_⟩
  rcases h2 with h2 | ⟨b, o, ha, h2⟩
  · left; rw [h2]; rfl
  · right
    refine ⟨b, o, ha, fun j hj => ?_⟩
    rw [fG_length hc] at hj
    have hi : j / sz < s.xs.length := Nat.div_lt_of_lt_mul (by rw [Nat.mul_comm]; exact hj)
    obtain ⟨cs', hl, hcc, hr⟩ := h2 (j / sz) s.xs[j / sz] (List.getElem?_eq_getElem hi)
    have hr' : cs' = c s.xs[j / sz] := hR _ _ _ hr
    subst hr'
    have hm := Nat.mod_lt j hz
    have := hcc (j % sz) (by rw [hc]; exact hm)
    have hdm : j / sz * sz + j % sz = j := by rw [Nat.mul_comm]; exact Nat.div_add_mod j sz
    rw [show o + j = o + j / sz * sz + j % sz by omega, this, ← fG_cell hc (List.getElem?_eq_getElem hi) hm, hdm]
end Go.J
/-
  The example of layer 19; CopiesOwes: the walk.
-/
namespace Go.Proofs.Ytbafhclandendaa
open Go.J Go.RowKit
set_option linter.unusedVariables false
set_option linter.unusedSimpArgs false
set_option maxRecDepth 8000
theorem valI_nIx (k : UInt8) : valI (nI k) = k.toNat := by simp [valI, bI, nI, valB]
theorem dI_nIx (a b : UInt8) : dI (nI a) (nI b) = (b.toNat + 2 ^ 128 - a.toNat) % 2 ^ 128 := by rw [dI_eq, valI_nIx, valI_nIx]
theorem near_nI (d a b : UInt8) : kN (nI d) (nI a) < kN (nI d) (nI b) ↔ ((if 2 ^ 128 < 2 * ((a.toNat + 2 ^ 128 - d.toNat) % 2 ^ 128) then 2 ^ 128 - (a.toNat + 2 ^ 128 - d.toNat) % 2 ^ 128 else (a.toNat + 2 ^ 128 - d.toNat) % 2 ^ 128) < (if 2 ^ 128 < 2 * ((b.toNat + 2 ^ 128 - d.toNat) % 2 ^ 128) then 2 ^ 128 - (b.toNat + 2 ^ 128 - d.toNat) % 2 ^ 128 else (b.toNat + 2 ^ 128 - d.toNat) % 2 ^ 128) ∨
    ((if 2 ^ 128 < 2 * ((a.toNat + 2 ^ 128 - d.toNat) % 2 ^ 128) then 2 ^ 128 - (a.toNat + 2 ^ 128 - d.toNat) % 2 ^ 128 else (a.toNat + 2 ^ 128 - d.toNat) % 2 ^ 128) = (if 2 ^ 128 < 2 * ((b.toNat + 2 ^ 128 - d.toNat) % 2 ^ 128) then 2 ^ 128 - (b.toNat + 2 ^ 128 - d.toNat) % 2 ^ 128 else (b.toNat + 2 ^ 128 - d.toNat) % 2 ^ 128) ∧ (a.toNat + 2 ^ 128 - d.toNat) % 2 ^ 128 < (b.toNat + 2 ^ 128 - d.toNat) % 2 ^ 128)) := by
  rw [← near_kN]
  unfold nearP
  rw [farI_of, farI_of, dI_nIx, dI_nIx]
theorem nI_ne {a b : UInt8} (h : a ≠ b) : nI a ≠ nI b := fun e => h (by have := congrFun e 15; simpa [nI] using this)
def fx19 : List IDV := [nI 9, nI 20]
theorem sort_fx : sortI fx19 (nI 5) = fx19 := by
  refine (sortI_of (l := fx19) ?_ (fun z => ?_)).symm
  · refine List.Pairwise.cons (fun y hy => ?_) (List.pairwise_singleton _ _)
    simp only [List.mem_singleton] at hy
    subst hy
    rw [valI_nIx, valI_nIx]; decide
  · constructor
    · intro h
      refine ⟨h, ?_⟩
      rcases List.mem_cons.1 h with rfl | h
      · exact nI_ne (by decide)
      · simp only [List.mem_singleton] at h; subst h; exact nI_ne (by decide)
    · exact fun h => h.1
theorem root_fx6 : rootV (nI 5) fx19 (nI 6) = true := by
  refine rootV_iff.2 (fun x hx => Nat.le_of_lt ?_)
  rcases List.mem_cons.1 hx with rfl | h
  · exact (near_nI _ _ _).2 (by decide +kernel)
  · simp only [List.mem_singleton] at h; subst h; exact (near_nI _ _ _).2 (by decide +kernel)
theorem owed_fx6 : owedV (nI 5) fx19 (nI 6) = fx19 := by
  unfold owedV
  rw [sort_fx, if_pos root_fx6]
theorem owed_fx10 : owedV (nI 5) fx19 (nI 10) = [nI 9] := by
  have h9 : kN (nI 10) (nI 9) < kN (nI 10) (nI 5) := (near_nI _ _ _).2 (by decide +kernel)
  have h20 : kN (nI 10) (nI 9) < kN (nI 10) (nI 20) := (near_nI _ _ _).2 (by decide +kernel)
  unfold owedV
  rw [sort_fx, if_neg (fun h => by have := rootV_iff.1 h (nI 9) (.head _); omega)]
  obtain ⟨i, h1, h2, h3, h4⟩ := minV_at (key := nI 10) (l := fx19) (by simp [fx19])
  rcases List.mem_cons.1 h3 with h | h
  · rw [h]
  · simp only [List.mem_singleton] at h
    have := h4 (nI 9) (.head _)
    rw [h] at this
    omega
theorem zBk : zeroT Try.prog 90 = some (.agg [.map none].toArray) := by kernel_rfl

theorem new19_spec (w : World) :
    Calls Try.prog 24 [].toArray w fun r w' => ∃ x : Nat × Nat, r = .returned (.pointer (some ⟨x.1, 0, none⟩)) ∧ St w [] [(x.1, cb [.map (some x.2)] 90), (x.2, .map #[] 0)] w' := by
  refine calls_of_J (args := []) (e := []) Try.func24 rfl rfl trivial (St.start w) ?_
  refine JC.seq (fun K0 hK0 => ?_)
  refine JC.region ?_
  refine J.assign rfl rfl ?_
  refine J.nil ?_
  refine JX.thenN (hK0 _ _ ?_)
  refine JC.seq (fun K1 hK1 => ?_)
  refine JC.region ?_
  refine J.makeMap rfl (fun b1 => ?_)
  refine J.buildS (cs := [.map (some b1)]) Ty.pl90 zBk rfl (by kernel_rfl) rfl ?_
  refine J.box rfl rfl rfl (fun b3 => ?_)
  refine J.assign rfl rfl ?_
  refine J.nil ?_
  refine JX.thenN (hK1 _ _ ?_)
  refine JC.ret ?_
  refine JX.ret1 rfl rfl (fun w hw => ?_)
  exact ⟨(b3, b1), rfl, hw⟩

set_option maxHeartbeats 1000000 in
theorem fixed19_spec (w : World) :
    Calls Try.prog 15 [].toArray w fun r w' => r = .returned (.bool true) ∧ Bel w w' := by
  refine calls_of_J (args := []) (e := []) Try.func15 rfl rfl trivial (St.start w) ?_
  refine JC.seq (fun K0 hK0 => ?_)
  refine JC.region ?_
  refine J.assign rfl rfl ?_
  refine J.nil ?_
  refine JX.thenN (hK0 _ _ ?_)
  refine JC.seq (fun K1 hK1 => ?_)
  refine JC.region ?_
  refine J.callB (v := .agg (cI (nI 9)).toArray) (fun w1 w2 hw hb => hw.step hb) Ty.bd33 rfl rfl (fun w1 hw => n19_spec 9 w1) ?_
  refine J.callB (v := .agg (cI (nI 20)).toArray) (fun w1 w2 hw hb => hw.step hb) Ty.bd33 rfl rfl (fun w1 hw => n19_spec 20 w1) ?_
  refine J.buildSl (cs := cI (nI 9) ++ cI (nI 20)) Ty.el24 Ty.s23 Ty.zID rfl rfl rfl rfl (by kernel_rfl) rfl rfl (fun b4 => ?_)
  refine J.assign rfl rfl ?_
  refine J.nil ?_
  refine JX.thenN (hK1 _ _ ?_)
  refine JC.seq (fun K2 hK2 => ?_)
  apply JC.drawX (α := Value × List (Nat × Obj) × Value × List (Nat × Obj) × Nat × Nat) 25 (fun x => match x with | ⟨v13, l13, v21, l21, bk, mm⟩ => [.agg (cI (nI 5)).toArray, .slice (some ⟨b4, 0, none⟩) 2 2, .agg (cI (nI 6)).toArray, .bool true, .bool true, .agg (cI (nI 5)).toArray, .slice (some ⟨b4, 0, none⟩) 2 2, .agg (cI (nI 6)).toArray, v13, .slice (some ⟨b4, 0, none⟩) 2 2, .bool true, .bool true, .bool true, .agg (cI (nI 5)).toArray, .slice (some ⟨b4, 0, none⟩) 2 2, .agg (cI (nI 10)).toArray, v21, .slice (some ⟨b4, 0, none⟩) 2 2, .slice (some ⟨b4, 0, none⟩) 1 2, .bool true, .bool true, .bool true, .pointer (some ⟨bk, 0, none⟩), .bool true, .bool true]) (fun m x => match x with | ⟨v13, l13, v21, l21, bk, mm⟩ => fun w1 => ((m 8 = true → Vec 23 16 v13 (owedV (nI 5) fx19 (nI 6)).length (fI (owedV (nI 5) fx19 (nI 6))) l13) ∧ (m 16 = true → Vec 23 16 v21 (owedV (nI 5) fx19 (nI 10)).length (fI (owedV (nI 5) fx19 (nI 10))) l21)) ∧ St w [] ((b4, cb (cI (nI 9) ++ cI (nI 20)) 23) :: ((bif m 8 then l13 else []) ++ ((bif m 16 then l21 else []) ++ (bif m 22 then [(bk, cb [.map (some mm)] 90), (mm, .map #[] 0)] else [])))) w1) Ty.mixed rfl rfl rfl (by kernel_rfl) rfl rfl ?hinit ?hstep ?htail
  case hinit => exact fun w1 hw => ⟨(.slice none 0 0, [], .slice none 0 0, [], 0, 0), ⟨fun h => (by cases h), fun h => (by cases h)⟩, hw.drew⟩
  case hstep =>
    refine ⟨fun m x hm hp => ?_, fun m x hm hp => ?_, fun m x hm hp => ?_, fun m x hm hp => ?_, fun m x hm hp => ?_, fun m x hm hp => ?_, fun m x hm hp => ?_, fun m x hm hp => ?_, fun m x hm hp => ?_, fun m x hm hp => ?_, fun m x hm hp => ?_, fun m x hm hp => ?_, fun m x hm hp => ?_, fun m x hm hp => ?_, fun m x hm hp => ?_, fun m x hm hp => ?_, fun m x hm hp => ?_, fun m x hm hp => ?_, fun m x hm hp => ?_, fun m x hm hp => ?_, fun m x hm hp => ?_, fun m x hm hp => ?_, fun m x hm hp => ?_, fun m x hm hp => ?_, fun m x hm hp => ?_, trivial⟩
    · skip
      obtain ⟨v13, l13, v21, l21, bk, mm⟩ := x
      show J _ _ _ _ _ (_) _
      refine J.pr (fun hF => ?_)
      refine J.callB (v := .agg (cI (nI 5)).toArray) (fun w1 w2 hw hb => hw.step hb) Ty.bd33 rfl rfl (fun w1 hw => n19_spec 5 w1) ?_
      exact J.finX rfl (fun _ hw => ⟨⟨v13, l13, v21, l21, bk, mm⟩, rfl, fun _ _ _ => rfl, hF, hw⟩)
    · skip
      obtain ⟨v13, l13, v21, l21, bk, mm⟩ := x
      show J _ _ _ _ _ (_) _
      refine J.pr (fun hF => ?_)
      refine J.move rfl rfl ?_
      exact J.finX rfl (fun _ hw => ⟨⟨v13, l13, v21, l21, bk, mm⟩, rfl, fun _ _ _ => rfl, hF, hw⟩)
    · skip
      obtain ⟨v13, l13, v21, l21, bk, mm⟩ := x
      show J _ _ _ _ _ ((5, .agg (cI (nI 5)).toArray) :: _) _
      refine J.pr (fun hF => ?_)
      refine J.callB (v := .agg (cI (nI 6)).toArray) (fun w1 w2 hw hb => hw.step hb) Ty.bd33 rfl rfl (fun w1 hw => n19_spec 6 w1) ?_
      exact J.finX rfl (fun _ hw => ⟨⟨v13, l13, v21, l21, bk, mm⟩, rfl, fun _ _ _ => rfl, hF, hw⟩)
    · skip
      obtain ⟨v13, l13, v21, l21, bk, mm⟩ := x
      show J _ _ _ _ _ ((7, .agg (cI (nI 6)).toArray) :: (7, .agg (cI (nI 6)).toArray) :: (6, .slice (some ⟨b4, 0, none⟩) 2 2) :: (5, .agg (cI (nI 5)).toArray) :: _) _
      refine J.pr (fun hF => ?_)
      refine J.callB (v := .bool (rootV (nI 5) fx19 (nI 6))) (fun w1 w2 hw hb => hw.step hb) Ty.bd16 rfl rfl (fun w1 hw => root_spec (nI 5) _ fx19 (nI 6) w1 (Row.own (cs := cI (nI 9) ++ cI (nI 20)) (tb := 23) (fr := (0, 0)) hw (.head _) rfl (Nat.le_refl _) : Row w1 (.slice (some ⟨b4, 0, none⟩) 2 2) 2 (fI fx19)) (by decide)) ?_
      refine J.name 8 rfl (show _ = Value.bool true by rw [root_fx6]) ?_
      exact J.finX rfl (fun _ hw => ⟨⟨v13, l13, v21, l21, bk, mm⟩, rfl, fun _ _ _ => rfl, hF, hw⟩)
    · skip
      obtain ⟨v13, l13, v21, l21, bk, mm⟩ := x
      show J _ _ _ _ _ ((8, .bool true) :: (8, .bool true) :: _) _
      refine J.pr (fun hF => ?_)
      refine J.move rfl rfl ?_
      exact J.finX rfl (fun _ hw => ⟨⟨v13, l13, v21, l21, bk, mm⟩, rfl, fun _ _ _ => rfl, hF, hw⟩)
    · skip
      obtain ⟨v13, l13, v21, l21, bk, mm⟩ := x
      show J _ _ _ _ _ ((9, .bool true) :: (9, .bool true) :: _) _
      refine J.pr (fun hF => ?_)
      refine J.unguard rfl rfl rfl ?_
      refine J.callB (v := .agg (cI (nI 5)).toArray) (fun w1 w2 hw hb => hw.step hb) Ty.bd33 rfl rfl (fun w1 hw => n19_spec 5 w1) ?_
      exact J.finX rfl (fun _ hw => ⟨⟨v13, l13, v21, l21, bk, mm⟩, rfl, fun _ _ _ => rfl, hF, hw⟩)
    · skip
      obtain ⟨v13, l13, v21, l21, bk, mm⟩ := x
      show J _ _ _ _ _ ((9, .bool true) :: _) _
      refine J.pr (fun hF => ?_)
      first | refine J.skip rfl rfl rfl rfl rfl ?_ | refine J.skipU rfl rfl rfl rfl ?_ | (refine J.unguard rfl rfl rfl ?_; refine J.move rfl rfl ?_)
      exact J.finX rfl (fun _ hw => ⟨⟨v13, l13, v21, l21, bk, mm⟩, rfl, fun _ _ _ => rfl, hF, hw⟩)
    · skip
      obtain ⟨v13, l13, v21, l21, bk, mm⟩ := x
      show J _ _ _ _ _ ((9, .bool true) :: (10, .agg (cI (nI 5)).toArray) :: _) _
      refine J.pr (fun hF => ?_)
      refine J.unguard rfl rfl rfl ?_
      refine J.callB (v := .agg (cI (nI 6)).toArray) (fun w1 w2 hw hb => hw.step hb) Ty.bd33 rfl rfl (fun w1 hw => n19_spec 6 w1) ?_
      exact J.finX rfl (fun _ hw => ⟨⟨v13, l13, v21, l21, bk, mm⟩, rfl, fun _ _ _ => rfl, hF, hw⟩)
    · skip
      obtain ⟨v13, l13, v21, l21, bk, mm⟩ := x
      show J _ _ _ _ _ ((9, .bool true) :: (12, .agg (cI (nI 6)).toArray) :: (12, .agg (cI (nI 6)).toArray) :: (11, .slice (some ⟨b4, 0, none⟩) 2 2) :: (10, .agg (cI (nI 5)).toArray) :: _) _
      refine J.pr (fun hF => ?_)
      refine J.conseq (I' := St w [] ((b4, cb (cI (nI 9) ++ cI (nI 20)) 23) :: ((bif m 16 then l21 else []) ++ (bif m 22 then [(bk, cb [.map (some mm)] 90), (mm, .map #[] 0)] else [])))) ?_ (fun w1 hw => by simp only [hm, cond_false, List.nil_append, List.append_nil] at hw; exact hw)
      refine J.unguard rfl rfl rfl ?_
      refine J.perm ([] ++ ((b4, cb (cI (nI 9) ++ cI (nI 20)) 23) :: ((bif m 16 then l21 else []) ++ (bif m 22 then [(bk, cb [.map (some mm)] 90), (mm, .map #[] 0)] else [])))) (.refl _) ?_
      refine J.callS (α := Value × List (Nat × Obj)) (V := (·.1)) (Pr := fun x => Vec 23 16 x.1 (owedV (nI 5) fx19 (nI 6)).length (fI (owedV (nI 5) fx19 (nI 6))) x.2) (L := (·.2)) (l1 := []) Ty.bd19 rfl rfl (fun w1 hw => owed_spec (nI 5) _ fx19 (nI 6) w1 (Row.own (cs := cI (nI 9) ++ cI (nI 20)) (tb := 23) (fr := (0, 0)) hw (.head _) rfl (Nat.le_refl _) : Row w1 (.slice (some ⟨b4, 0, none⟩) 2 2) 2 (fI fx19)) (by decide)) (fun q hvn => ?_)
      obtain ⟨vn, ln⟩ := q
      simp only at hvn ⊢
      refine J.nil (JX.finB rfl (fun w1 hw => ⟨⟨⟨vn, ln, v21, l21, bk, mm⟩, rfl, fun j h1 h2 => ?_, ?_⟩, trivial⟩))
      · match j, h1 with
        | 0, _ => (first | rfl | trivial)
        | 1, _ => (first | rfl | trivial)
        | 2, _ => (first | rfl | trivial)
        | 3, _ => (first | rfl | trivial)
        | 4, _ => (first | rfl | trivial)
        | 5, _ => (first | rfl | trivial)
        | 6, _ => (first | rfl | trivial)
        | 7, _ => (first | rfl | trivial)
        | 8, _ => exact absurd (h2.symm.trans hm) (by decide)
        | 9, _ => (first | rfl | trivial)
        | 10, _ => (first | rfl | trivial)
        | 11, _ => (first | rfl | trivial)
        | 12, _ => (first | rfl | trivial)
        | 13, _ => (first | rfl | trivial)
        | 14, _ => (first | rfl | trivial)
        | 15, _ => (first | rfl | trivial)
        | 16, _ => (first | rfl | trivial)
        | 17, _ => (first | rfl | trivial)
        | 18, _ => (first | rfl | trivial)
        | 19, _ => (first | rfl | trivial)
        | 20, _ => (first | rfl | trivial)
        | 21, _ => (first | rfl | trivial)
        | 22, _ => (first | rfl | trivial)
        | 23, _ => (first | rfl | trivial)
        | 24, _ => (first | rfl | trivial)
        | j + 25, h1 => omega
      show ((true = true → Vec 23 16 vn (owedV (nI 5) fx19 (nI 6)).length (fI (owedV (nI 5) fx19 (nI 6))) ln) ∧ (m 16 = true → Vec 23 16 v21 (owedV (nI 5) fx19 (nI 10)).length (fI (owedV (nI 5) fx19 (nI 10))) l21)) ∧ St w [] ((b4, cb (cI (nI 9) ++ cI (nI 20)) 23) :: ((bif true then ln else []) ++ ((bif m 16 then l21 else []) ++ (bif m 22 then [(bk, cb [.map (some mm)] 90), (mm, .map #[] 0)] else [])))) w1
      simp only [hm, cond_true, cond_false] at hw ⊢
      exact ⟨⟨fun _ => hvn, hF.2⟩, hw.perm (by (refine perm_cnt (fun _ => ?_)); simp only [cntB_append, cntB_cons, cntB_nil, Nat.add_zero, Nat.zero_add]; try ac_rfl)⟩
    · skip
      obtain ⟨v13, l13, v21, l21, bk, mm⟩ := x
      show J _ _ _ _ _ ((9, .bool true) :: _) _
      refine J.pr (fun hF => ?_)
      first | refine J.skip rfl rfl rfl rfl rfl ?_ | refine J.skipU rfl rfl rfl rfl ?_ | (refine J.unguard rfl rfl rfl ?_; refine J.move rfl rfl ?_)
      exact J.finX rfl (fun _ hw => ⟨⟨v13, l13, v21, l21, bk, mm⟩, rfl, fun _ _ _ => rfl, hF, hw⟩)
    · skip
      obtain ⟨v13, l13, v21, l21, bk, mm⟩ := x
      show J _ _ _ _ _ ((9, .bool true) :: (13, v13) :: (14, .slice (some ⟨b4, 0, none⟩) 2 2) :: (13, v13) :: _) _
      have hp8 : m 8 = true := predsT hp (by kernel_rfl)
      have hp8 : m 8 = true := predsT hp (by kernel_rfl)
      refine J.pr (fun hF => ?_)
      have hv13 := hF.1 hp8
      refine J.conseq (I' := St w [] ((b4, cb (cI (nI 9) ++ cI (nI 20)) 23) :: (l13 ++ ((bif m 16 then l21 else []) ++ (bif m 22 then [(bk, cb [.map (some mm)] 90), (mm, .map #[] 0)] else []))))) ?_ (fun w1 hw => by simp only [hp8, cond_true] at hw; exact hw)
      refine J.unguard rfl rfl rfl ?_
      refine J.callB (v := .bool (decide (owedV (nI 5) fx19 (nI 6) = fx19))) (fun w1 w2 hw hb => hw.step hb) Ty.bd18 rfl rfl (fun w1 hw => sameIDs_spec _ _ (owedV (nI 5) fx19 (nI 6)) (fx19) w1 (vec_rowM hv13 hw (fun q hq => by first | (simp [hq]; done) | (simp at hq; simp [hq]; done) | (simp at hq; subst hq; simp))) (Row.own (cs := cI (nI 9) ++ cI (nI 20)) (tb := 23) (fr := (0, 0)) hw (.head _) rfl (Nat.le_refl _) : Row w1 (.slice (some ⟨b4, 0, none⟩) 2 2) 2 (fI fx19)) (by rw [owed_fx6]; simp [fx19]) (by simp [fx19])) ?_
      refine J.name 15 rfl (show _ = Value.bool true by rw [owed_fx6]; simp [fx19]) ?_
      refine J.nil (JX.finB rfl (fun w1 hw => ⟨⟨⟨v13, l13, v21, l21, bk, mm⟩, rfl, fun j h1 h2 => ?_, ?_⟩, trivial⟩))
      · match j, h1 with
        | 0, _ => (first | rfl | trivial)
        | 1, _ => (first | rfl | trivial)
        | 2, _ => (first | rfl | trivial)
        | 3, _ => (first | rfl | trivial)
        | 4, _ => (first | rfl | trivial)
        | 5, _ => (first | rfl | trivial)
        | 6, _ => (first | rfl | trivial)
        | 7, _ => (first | rfl | trivial)
        | 8, _ => (first | rfl | trivial)
        | 9, _ => (first | rfl | trivial)
        | 10, _ => (first | rfl | trivial)
        | 11, _ => (first | rfl | trivial)
        | 12, _ => (first | rfl | trivial)
        | 13, _ => (first | rfl | trivial)
        | 14, _ => (first | rfl | trivial)
        | 15, _ => (first | rfl | trivial)
        | 16, _ => (first | rfl | trivial)
        | 17, _ => (first | rfl | trivial)
        | 18, _ => (first | rfl | trivial)
        | 19, _ => (first | rfl | trivial)
        | 20, _ => (first | rfl | trivial)
        | 21, _ => (first | rfl | trivial)
        | 22, _ => (first | rfl | trivial)
        | 23, _ => (first | rfl | trivial)
        | 24, _ => (first | rfl | trivial)
        | j + 25, h1 => omega
      show ((m 8 = true → Vec 23 16 v13 (owedV (nI 5) fx19 (nI 6)).length (fI (owedV (nI 5) fx19 (nI 6))) l13) ∧ (m 16 = true → Vec 23 16 v21 (owedV (nI 5) fx19 (nI 10)).length (fI (owedV (nI 5) fx19 (nI 10))) l21)) ∧ St w [] ((b4, cb (cI (nI 9) ++ cI (nI 20)) 23) :: ((bif m 8 then l13 else []) ++ ((bif m 16 then l21 else []) ++ (bif m 22 then [(bk, cb [.map (some mm)] 90), (mm, .map #[] 0)] else [])))) w1
      simp only [hp8, cond_true] at hw ⊢
      exact ⟨⟨fun _ => hv13, hF.2⟩, hw⟩
    · skip
      obtain ⟨v13, l13, v21, l21, bk, mm⟩ := x
      show J _ _ _ _ _ ((15, .bool true) :: (9, .bool true) :: _) _
      refine J.pr (fun hF => ?_)
      (first | refine J.pickT rfl rfl rfl ?_ | refine J.pickF rfl rfl rfl ?_)
      exact J.finX rfl (fun _ hw => ⟨⟨v13, l13, v21, l21, bk, mm⟩, rfl, fun _ _ _ => rfl, hF, hw⟩)
    · skip
      obtain ⟨v13, l13, v21, l21, bk, mm⟩ := x
      show J _ _ _ _ _ ((15, .bool true) :: (16, .bool true) :: _) _
      refine J.pr (fun hF => ?_)
      refine J.move rfl rfl ?_
      exact J.finX rfl (fun _ hw => ⟨⟨v13, l13, v21, l21, bk, mm⟩, rfl, fun _ _ _ => rfl, hF, hw⟩)
    · skip
      obtain ⟨v13, l13, v21, l21, bk, mm⟩ := x
      show J _ _ _ _ _ ((17, .bool true) :: (17, .bool true) :: _) _
      refine J.pr (fun hF => ?_)
      refine J.unguard rfl rfl rfl ?_
      refine J.callB (v := .agg (cI (nI 5)).toArray) (fun w1 w2 hw hb => hw.step hb) Ty.bd33 rfl rfl (fun w1 hw => n19_spec 5 w1) ?_
      exact J.finX rfl (fun _ hw => ⟨⟨v13, l13, v21, l21, bk, mm⟩, rfl, fun _ _ _ => rfl, hF, hw⟩)
    · skip
      obtain ⟨v13, l13, v21, l21, bk, mm⟩ := x
      show J _ _ _ _ _ ((17, .bool true) :: _) _
      refine J.pr (fun hF => ?_)
      first | refine J.skip rfl rfl rfl rfl rfl ?_ | refine J.skipU rfl rfl rfl rfl ?_ | (refine J.unguard rfl rfl rfl ?_; refine J.move rfl rfl ?_)
      exact J.finX rfl (fun _ hw => ⟨⟨v13, l13, v21, l21, bk, mm⟩, rfl, fun _ _ _ => rfl, hF, hw⟩)
    · skip
      obtain ⟨v13, l13, v21, l21, bk, mm⟩ := x
      show J _ _ _ _ _ ((17, .bool true) :: (18, .agg (cI (nI 5)).toArray) :: _) _
      refine J.pr (fun hF => ?_)
      refine J.unguard rfl rfl rfl ?_
      refine J.callB (v := .agg (cI (nI 10)).toArray) (fun w1 w2 hw hb => hw.step hb) Ty.bd33 rfl rfl (fun w1 hw => n19_spec 10 w1) ?_
      exact J.finX rfl (fun _ hw => ⟨⟨v13, l13, v21, l21, bk, mm⟩, rfl, fun _ _ _ => rfl, hF, hw⟩)
    · skip
      obtain ⟨v13, l13, v21, l21, bk, mm⟩ := x
      show J _ _ _ _ _ ((17, .bool true) :: (20, .agg (cI (nI 10)).toArray) :: (20, .agg (cI (nI 10)).toArray) :: (19, .slice (some ⟨b4, 0, none⟩) 2 2) :: (18, .agg (cI (nI 5)).toArray) :: _) _
      refine J.pr (fun hF => ?_)
      refine J.conseq (I' := St w [] ((b4, cb (cI (nI 9) ++ cI (nI 20)) 23) :: ((bif m 8 then l13 else []) ++ (bif m 22 then [(bk, cb [.map (some mm)] 90), (mm, .map #[] 0)] else [])))) ?_ (fun w1 hw => by simp only [hm, cond_false, List.nil_append, List.append_nil] at hw; exact hw)
      refine J.unguard rfl rfl rfl ?_
      refine J.perm ([] ++ ((b4, cb (cI (nI 9) ++ cI (nI 20)) 23) :: ((bif m 8 then l13 else []) ++ (bif m 22 then [(bk, cb [.map (some mm)] 90), (mm, .map #[] 0)] else [])))) (.refl _) ?_
      refine J.callS (α := Value × List (Nat × Obj)) (V := (·.1)) (Pr := fun x => Vec 23 16 x.1 (owedV (nI 5) fx19 (nI 10)).length (fI (owedV (nI 5) fx19 (nI 10))) x.2) (L := (·.2)) (l1 := []) Ty.bd19 rfl rfl (fun w1 hw => owed_spec (nI 5) _ fx19 (nI 10) w1 (Row.own (cs := cI (nI 9) ++ cI (nI 20)) (tb := 23) (fr := (0, 0)) hw (.head _) rfl (Nat.le_refl _) : Row w1 (.slice (some ⟨b4, 0, none⟩) 2 2) 2 (fI fx19)) (by decide)) (fun q hvn => ?_)
      obtain ⟨vn, ln⟩ := q
      simp only at hvn ⊢
      refine J.nil (JX.finB rfl (fun w1 hw => ⟨⟨⟨v13, l13, vn, ln, bk, mm⟩, rfl, fun j h1 h2 => ?_, ?_⟩, trivial⟩))
      · match j, h1 with
        | 0, _ => (first | rfl | trivial)
        | 1, _ => (first | rfl | trivial)
        | 2, _ => (first | rfl | trivial)
        | 3, _ => (first | rfl | trivial)
        | 4, _ => (first | rfl | trivial)
        | 5, _ => (first | rfl | trivial)
        | 6, _ => (first | rfl | trivial)
        | 7, _ => (first | rfl | trivial)
        | 8, _ => (first | rfl | trivial)
        | 9, _ => (first | rfl | trivial)
        | 10, _ => (first | rfl | trivial)
        | 11, _ => (first | rfl | trivial)
        | 12, _ => (first | rfl | trivial)
        | 13, _ => (first | rfl | trivial)
        | 14, _ => (first | rfl | trivial)
        | 15, _ => (first | rfl | trivial)
        | 16, _ => exact absurd (h2.symm.trans hm) (by decide)
        | 17, _ => (first | rfl | trivial)
        | 18, _ => (first | rfl | trivial)
        | 19, _ => (first | rfl | trivial)
        | 20, _ => (first | rfl | trivial)
        | 21, _ => (first | rfl | trivial)
        | 22, _ => (first | rfl | trivial)
        | 23, _ => (first | rfl | trivial)
        | 24, _ => (first | rfl | trivial)
        | j + 25, h1 => omega
      show ((m 8 = true → Vec 23 16 v13 (owedV (nI 5) fx19 (nI 6)).length (fI (owedV (nI 5) fx19 (nI 6))) l13) ∧ (true = true → Vec 23 16 vn (owedV (nI 5) fx19 (nI 10)).length (fI (owedV (nI 5) fx19 (nI 10))) ln)) ∧ St w [] ((b4, cb (cI (nI 9) ++ cI (nI 20)) 23) :: ((bif m 8 then l13 else []) ++ ((bif true then ln else []) ++ (bif m 22 then [(bk, cb [.map (some mm)] 90), (mm, .map #[] 0)] else [])))) w1
      simp only [hm, cond_true, cond_false] at hw ⊢
      exact ⟨⟨hF.1, fun _ => hvn⟩, hw.perm (by (refine perm_cnt (fun _ => ?_)); simp only [cntB_append, cntB_cons, cntB_nil, Nat.add_zero, Nat.zero_add]; try ac_rfl)⟩
    · skip
      obtain ⟨v13, l13, v21, l21, bk, mm⟩ := x
      show J _ _ _ _ _ ((17, .bool true) :: _) _
      refine J.pr (fun hF => ?_)
      first | refine J.skip rfl rfl rfl rfl rfl ?_ | refine J.skipU rfl rfl rfl rfl ?_ | (refine J.unguard rfl rfl rfl ?_; refine J.move rfl rfl ?_)
      exact J.finX rfl (fun _ hw => ⟨⟨v13, l13, v21, l21, bk, mm⟩, rfl, fun _ _ _ => rfl, hF, hw⟩)
    · skip
      obtain ⟨v13, l13, v21, l21, bk, mm⟩ := x
      show J _ _ _ _ _ ((17, .bool true) :: (22, .slice (some ⟨b4, 0, none⟩) 2 2) :: _) _
      refine J.pr (fun hF => ?_)
      refine J.unguard rfl rfl rfl ?_
      refine J.sliceS (i := 0) (j := 1) Ty.el24 Ty.s23 rfl rfl rfl rfl rfl (by decide) (by decide) (by decide) rfl ?_
      refine J.name 23 rfl (show _ = Value.slice (some ⟨b4, 0, none⟩) 1 2 by rfl) ?_
      exact J.finX rfl (fun _ hw => ⟨⟨v13, l13, v21, l21, bk, mm⟩, rfl, fun _ _ _ => rfl, hF, hw⟩)
    · skip
      obtain ⟨v13, l13, v21, l21, bk, mm⟩ := x
      show J _ _ _ _ _ ((17, .bool true) :: (21, v21) :: (23, .slice (some ⟨b4, 0, none⟩) 1 2) :: (21, v21) :: _) _
      have hp16 : m 16 = true := predsT hp (by kernel_rfl)
      have hp16 : m 16 = true := predsT hp (by kernel_rfl)
      refine J.pr (fun hF => ?_)
      have hv21 := hF.2 hp16
      refine J.conseq (I' := St w [] ((b4, cb (cI (nI 9) ++ cI (nI 20)) 23) :: ((bif m 8 then l13 else []) ++ (l21 ++ (bif m 22 then [(bk, cb [.map (some mm)] 90), (mm, .map #[] 0)] else []))))) ?_ (fun w1 hw => by simp only [hp16, cond_true] at hw; exact hw)
      refine J.unguard rfl rfl rfl ?_
      refine J.callB (v := .bool (decide (owedV (nI 5) fx19 (nI 10) = [nI 9]))) (fun w1 w2 hw hb => hw.step hb) Ty.bd18 rfl rfl (fun w1 hw => sameIDs_spec _ _ (owedV (nI 5) fx19 (nI 10)) ([nI 9]) w1 (vec_rowM hv21 hw (fun q hq => by first | (simp [hq]; done) | (simp at hq; simp [hq]; done) | (simp at hq; subst hq; simp))) (Row.own (cs := cI (nI 9) ++ cI (nI 20)) (tb := 23) (fr := (0, 0)) hw (.head _) rfl (by decide) : Row w1 (.slice (some ⟨b4, 0, none⟩) 1 2) 1 (fI [nI 9])) (by rw [owed_fx10]; simp [fx19]) (by simp [fx19])) ?_
      refine J.name 24 rfl (show _ = Value.bool true by rw [owed_fx10]; simp [fx19]) ?_
      refine J.nil (JX.finB rfl (fun w1 hw => ⟨⟨⟨v13, l13, v21, l21, bk, mm⟩, rfl, fun j h1 h2 => ?_, ?_⟩, trivial⟩))
      · match j, h1 with
        | 0, _ => (first | rfl | trivial)
        | 1, _ => (first | rfl | trivial)
        | 2, _ => (first | rfl | trivial)
        | 3, _ => (first | rfl | trivial)
        | 4, _ => (first | rfl | trivial)
        | 5, _ => (first | rfl | trivial)
        | 6, _ => (first | rfl | trivial)
        | 7, _ => (first | rfl | trivial)
        | 8, _ => (first | rfl | trivial)
        | 9, _ => (first | rfl | trivial)
        | 10, _ => (first | rfl | trivial)
        | 11, _ => (first | rfl | trivial)
        | 12, _ => (first | rfl | trivial)
        | 13, _ => (first | rfl | trivial)
        | 14, _ => (first | rfl | trivial)
        | 15, _ => (first | rfl | trivial)
        | 16, _ => (first | rfl | trivial)
        | 17, _ => (first | rfl | trivial)
        | 18, _ => (first | rfl | trivial)
        | 19, _ => (first | rfl | trivial)
        | 20, _ => (first | rfl | trivial)
        | 21, _ => (first | rfl | trivial)
        | 22, _ => (first | rfl | trivial)
        | 23, _ => (first | rfl | trivial)
        | 24, _ => (first | rfl | trivial)
        | j + 25, h1 => omega
      show ((m 8 = true → Vec 23 16 v13 (owedV (nI 5) fx19 (nI 6)).length (fI (owedV (nI 5) fx19 (nI 6))) l13) ∧ (m 16 = true → Vec 23 16 v21 (owedV (nI 5) fx19 (nI 10)).length (fI (owedV (nI 5) fx19 (nI 10))) l21)) ∧ St w [] ((b4, cb (cI (nI 9) ++ cI (nI 20)) 23) :: ((bif m 8 then l13 else []) ++ ((bif m 16 then l21 else []) ++ (bif m 22 then [(bk, cb [.map (some mm)] 90), (mm, .map #[] 0)] else [])))) w1
      simp only [hp16, cond_true] at hw ⊢
      exact ⟨⟨hF.1, fun _ => hv21⟩, hw⟩
    · skip
      obtain ⟨v13, l13, v21, l21, bk, mm⟩ := x
      show J _ _ _ _ _ ((24, .bool true) :: (17, .bool true) :: _) _
      refine J.pr (fun hF => ?_)
      (first | refine J.pickT rfl rfl rfl ?_ | refine J.pickF rfl rfl rfl ?_)
      exact J.finX rfl (fun _ hw => ⟨⟨v13, l13, v21, l21, bk, mm⟩, rfl, fun _ _ _ => rfl, hF, hw⟩)
    · skip
      obtain ⟨v13, l13, v21, l21, bk, mm⟩ := x
      show J _ _ _ _ _ ((24, .bool true) :: (25, .bool true) :: _) _
      refine J.pr (fun hF => ?_)
      refine J.move rfl rfl ?_
      exact J.finX rfl (fun _ hw => ⟨⟨v13, l13, v21, l21, bk, mm⟩, rfl, fun _ _ _ => rfl, hF, hw⟩)
    · skip
      obtain ⟨v13, l13, v21, l21, bk, mm⟩ := x
      show J _ _ _ _ _ ((26, .bool true) :: (26, .bool true) :: _) _
      refine J.pr (fun hF => ?_)
      refine J.conseq (I' := St w [] ((b4, cb (cI (nI 9) ++ cI (nI 20)) 23) :: ((bif m 8 then l13 else []) ++ (bif m 16 then l21 else [])))) ?_ (fun w1 hw => by simp only [hm, cond_false, List.nil_append, List.append_nil] at hw; exact hw)
      refine J.unguard rfl rfl rfl ?_
      refine J.perm ([] ++ ((b4, cb (cI (nI 9) ++ cI (nI 20)) 23) :: ((bif m 8 then l13 else []) ++ (bif m 16 then l21 else [])))) (.refl _) ?_
      refine J.callS (α := Nat × Nat) (V := fun x => .pointer (some ⟨x.1, 0, none⟩)) (Pr := fun _ => True) (L := fun x => [(x.1, cb [.map (some x.2)] 90), (x.2, .map #[] 0)]) (l1 := []) Ty.bd24 rfl rfl (fun w1 hw => (new19_spec w1).mono fun _ _ ⟨q, h1, h2⟩ => ⟨q, h1, trivial, h2⟩) (fun q _ => ?_)
      obtain ⟨bkn, mmn⟩ := q
      simp only
      refine J.nil (JX.finB rfl (fun w1 hw => ⟨⟨⟨v13, l13, v21, l21, bkn, mmn⟩, rfl, fun j h1 h2 => ?_, ?_⟩, trivial⟩))
      · match j, h1 with
        | 0, _ => (first | rfl | trivial)
        | 1, _ => (first | rfl | trivial)
        | 2, _ => (first | rfl | trivial)
        | 3, _ => (first | rfl | trivial)
        | 4, _ => (first | rfl | trivial)
        | 5, _ => (first | rfl | trivial)
        | 6, _ => (first | rfl | trivial)
        | 7, _ => (first | rfl | trivial)
        | 8, _ => (first | rfl | trivial)
        | 9, _ => (first | rfl | trivial)
        | 10, _ => (first | rfl | trivial)
        | 11, _ => (first | rfl | trivial)
        | 12, _ => (first | rfl | trivial)
        | 13, _ => (first | rfl | trivial)
        | 14, _ => (first | rfl | trivial)
        | 15, _ => (first | rfl | trivial)
        | 16, _ => (first | rfl | trivial)
        | 17, _ => (first | rfl | trivial)
        | 18, _ => (first | rfl | trivial)
        | 19, _ => (first | rfl | trivial)
        | 20, _ => (first | rfl | trivial)
        | 21, _ => (first | rfl | trivial)
        | 22, _ => exact absurd (h2.symm.trans hm) (by decide)
        | 23, _ => (first | rfl | trivial)
        | 24, _ => (first | rfl | trivial)
        | j + 25, h1 => omega
      show ((m 8 = true → Vec 23 16 v13 (owedV (nI 5) fx19 (nI 6)).length (fI (owedV (nI 5) fx19 (nI 6))) l13) ∧ (m 16 = true → Vec 23 16 v21 (owedV (nI 5) fx19 (nI 10)).length (fI (owedV (nI 5) fx19 (nI 10))) l21)) ∧ St w [] ((b4, cb (cI (nI 9) ++ cI (nI 20)) 23) :: ((bif m 8 then l13 else []) ++ ((bif m 16 then l21 else []) ++ (bif true then [(bkn, cb [.map (some mmn)] 90), (mmn, .map #[] 0)] else [])))) w1
      simp only [hm, cond_true, cond_false] at hw ⊢
      exact ⟨hF, hw.perm (by (refine perm_cnt (fun _ => ?_)); simp only [cntB_append, cntB_cons, cntB_nil, Nat.add_zero, Nat.zero_add]; try ac_rfl)⟩
    · skip
      obtain ⟨v13, l13, v21, l21, bk, mm⟩ := x
      show J _ _ _ _ _ ((26, .bool true) :: (27, .pointer (some ⟨bk, 0, none⟩)) :: _) _
      have hp22 : m 22 = true := predsT hp (by kernel_rfl)
      refine J.pr (fun hF => ?_)
      first | refine J.skip rfl rfl rfl rfl rfl ?_ | refine J.skipU rfl rfl rfl rfl ?_ | (refine J.unguard rfl rfl rfl ?_; refine J.neNil Ty.u39 rfl rfl rfl ?_)
      exact J.finX rfl (fun _ hw => ⟨⟨v13, l13, v21, l21, bk, mm⟩, rfl, fun _ _ _ => rfl, hF, hw⟩)
    · skip
      obtain ⟨v13, l13, v21, l21, bk, mm⟩ := x
      show J _ _ _ _ _ ((28, .bool true) :: (26, .bool true) :: _) _
      refine J.pr (fun hF => ?_)
      (first | refine J.pickT rfl rfl rfl ?_ | refine J.pickF rfl rfl rfl ?_)
      exact J.finX rfl (fun _ hw => ⟨⟨v13, l13, v21, l21, bk, mm⟩, rfl, fun _ _ _ => rfl, hF, hw⟩)
  case htail =>
    intro x
    obtain ⟨v13, l13, v21, l21, bk, mm⟩ := x
    show J _ _ _ _ _ ((29, .bool true) :: (28, .bool true) :: (27, .pointer (some ⟨bk, 0, none⟩)) :: (26, .bool true) :: (25, .bool true) :: (24, .bool true) :: (23, .slice (some ⟨b4, 0, none⟩) 1 2) :: (22, .slice (some ⟨b4, 0, none⟩) 2 2) :: (21, v21) :: (20, .agg (cI (nI 10)).toArray) :: (19, .slice (some ⟨b4, 0, none⟩) 2 2) :: (18, .agg (cI (nI 5)).toArray) :: (17, .bool true) :: (16, .bool true) :: (15, .bool true) :: (14, .slice (some ⟨b4, 0, none⟩) 2 2) :: (13, v13) :: (12, .agg (cI (nI 6)).toArray) :: (11, .slice (some ⟨b4, 0, none⟩) 2 2) :: (10, .agg (cI (nI 5)).toArray) :: (9, .bool true) :: (8, .bool true) :: (7, .agg (cI (nI 6)).toArray) :: (6, .slice (some ⟨b4, 0, none⟩) 2 2) :: (5, .agg (cI (nI 5)).toArray) :: _) (fun w1 => ((true = true → Vec 23 16 v13 (owedV (nI 5) fx19 (nI 6)).length (fI (owedV (nI 5) fx19 (nI 6))) l13) ∧ (true = true → Vec 23 16 v21 (owedV (nI 5) fx19 (nI 10)).length (fI (owedV (nI 5) fx19 (nI 10))) l21)) ∧ St w [] ((b4, cb (cI (nI 9) ++ cI (nI 20)) 23) :: ((bif true then l13 else []) ++ ((bif true then l21 else []) ++ (bif true then [(bk, cb [.map (some mm)] 90), (mm, .map #[] 0)] else [])))) w1)
    refine J.pr (fun hF => ?_)
    refine J.assign rfl rfl ?_
    refine J.nil ?_
    refine JX.thenN (hK2 _ _ ?_)
    refine JC.ret ?_
    refine JX.ret1 rfl rfl (fun w hw => ?_)
    exact ⟨rfl, (hw.drop (List.nil_sublist _)).below⟩

end Go.Proofs.Ytbafhclandendaa
/-
  CopiesRises, CopiesComes: plain laws and walks.
-/
namespace Go.Proofs.Ytbafhclandendaa
open Go.J Go.RowKit
set_option linter.unusedVariables false
set_option linter.unusedSimpArgs false
set_option maxRecDepth 8000
end Go.Proofs.Ytbafhclandendaa
/-
  CopiesComes: the walk.
-/
namespace Go.Proofs.Ytbafhclandendaa
open Go.J Go.RowKit
set_option linter.unusedVariables false
set_option linter.unusedSimpArgs false
set_option maxRecDepth 8000
/-- how many are nearer -/
noncomputable def cntN (key a : IDV) (fs : List IDV) : Nat := fs.countP (fun x => decide (kN key x < kN key a))
theorem rslI {W : World} {s : Sl IDV} {cs : List Value} (h : RSl 16 16 RId W cs s) : Row W s.v s.xs.length (fI s.xs) := rslG (c := cI) (sz := 16) (fun _ => rfl) (by omega) (fun _ _ _ h => h) h
end Go.Proofs.Ytbafhclandendaa
/-
  CopiesNil: contracts at nil, the walk.
-/
namespace Go.Proofs.Ytbafhclandendaa
open Go.J Go.RowKit
set_option linter.unusedVariables false
set_option linter.unusedSimpArgs false
set_option maxRecDepth 8000
def RAny : World → List Value → Unit → Prop := fun _ _ _ => True
end Go.Proofs.Ytbafhclandendaa
/-
  A map from two identities to a number and an identity. Proved over any program.
-/
namespace Go.J
open Go.RowKit
set_option linter.unusedVariables false
set_option linter.unusedSimpArgs false
/-- a version -/
structure WV where
  n : Int
  who : IDV
deriving instance DecidableEq for WV
abbrev cV (x : WV) : List Value := Value.int .i64 x.n :: cI x.who
abbrev cM (a k : IDV) : List Value := cI a ++ cI k
def zV : WV := ⟨0, fun _ => 0⟩
theorem cM_eq {a k b j : IDV} : cM a k = cM b j ↔ a = b ∧ k = j := by
  show cI a ++ cI k = cI b ++ cI j ↔ _
  rw [app_iff (by rfl), cI_eq, cI_eq]
theorem cV_eq {x y : WV} : cV x = cV y ↔ x = y := by
  obtain ⟨n, a⟩ := x
  obtain ⟨m, b⟩ := y
  show Value.int .i64 n :: cI a = Value.int .i64 m :: cI b ↔ _
  rw [List.cons.injEq, cI_eq]
  simp
abbrev BF := IDV → IDV → WV
def updF (F : BF) (a k : IDV) (x : WV) : BF := fun b j => if b = a ∧ j = k then x else F b j
def retF (F : BF) (l : List IDV) : BF := fun b j => if b ∈ l then F b j else zV
/-- what a book's map holds: F's versions, where they aren't zero at least -/
structure Bk (F : BF) (es : Array MapEntry) (clock : Nat) : Prop where
  st : MapKept.Stamped es clock
  at_ : ∀ e, e ∈ es.toList → ∃ a k, e.key = .agg (cM a k).toArray ∧ e.val = .agg (cV (F a k)).toArray
  no : ∀ a k, (∀ e, e ∈ es.toList → e.key ≠ .agg (cM a k).toArray) → F a k = zV
  ok : ∀ a k, okN (F a k).n
theorem okZ : okN zV.n := by decide
theorem Bk.nil : Bk (fun _ _ => zV) #[] 0 := ⟨⟨by simp, by simp, by simp⟩, by simp, fun _ _ _ => rfl, fun _ _ => okZ⟩
theorem Bk.keys {P : Program} {kt : TypeId} {F : BF} {es : Array MapEntry} {clock : Nat} (h : Bk F es clock) (kp : ∀ a k : IDV, ∃ l, keyOf P kt (.agg (cM a k).toArray) = some l) : ∀ e, e ∈ es.toList → ∃ l, keyOf P kt e.key = some l := by
  intro e he
  obtain ⟨a, k, h1, _⟩ := h.at_ e he
  rw [h1]
  exact kp a k
theorem Bk.look {F : BF} {es : Array MapEntry} {clock : Nat} (h : Bk F es clock) {a k : IDV} {v : Value} {ok : Bool} (hl : Look es.toList (.agg (cM a k).toArray) (.agg (cV zV).toArray) v ok) : v = .agg (cV (F a k)).toArray := by
  generalize hk : Value.agg (cM a k).toArray = q at hl
  generalize hz : Value.agg (cV zV).toArray = z at hl
  cases hl with
  | no hno => rw [h.no a k (fun e he => by rw [hk]; exact hno e he), hz]
  | yes j e h1 h2 =>
    obtain ⟨b, i, h3, h4⟩ := h.at_ e (List.mem_of_getElem? h1)
    have h5 := h3.symm.trans (h2.trans hk.symm)
    obtain ⟨rfl, rfl⟩ := cM_eq.1 (agg_inj.1 h5)
    exact h4
theorem run_update_any {P : Program} {w : World} {mt kt et : TypeId} {b clock : Nat} {es : Array MapEntry} {k v : Value} {l : Lit} (hm : P.underlying mt = some (.map kt et)) (K : WideMaps.KeyLaw P kt)
    (hb : w.heap[b]? = some (.map es clock)) (hk : keyOf P kt k = some l) (hes : ∀ e, e ∈ es.toList → ∃ l, keyOf P kt e.key = some l) :
    ∃ es' clock', (Instr.mapUpdate mt (.map (some b)) k v).run P w = .ok () { w with heap := w.heap.setIfInBounds b (.map es' clock') } ∧
      ((es' = es.push { key := k, val := v, born := clock } ∧ clock' = clock + 1 ∧ ∀ e, e ∈ es.toList → e.key ≠ k) ∨ ∃ j e0, es.toList[j]? = some e0 ∧ e0.key = k ∧ es' = es.modify j (fun e => { e with key := k, val := v }) ∧ clock' = clock) := by
  rcases K.find w hk es.toList hes with ⟨h1, h2⟩ | ⟨j, e0, h1, h2, h3⟩
  · exact ⟨_, _, by simp [Instr.mapUpdate, run_underlying' hm, run_key hb, K.check w _ hk, h1, run_keyset _ hb], .inl ⟨rfl, rfl, h2⟩⟩
  · have hj : es[j]? = some e0 := by simpa using h2
    exact ⟨es.modify j (fun e => { e with key := k, val := v }), clock, by simp [Instr.mapUpdate, run_underlying' hm, run_key hb, K.check w _ hk, h1, hj, h3, K.stays w hk, run_keyset _ hb], .inr ⟨j, e0, h2, h3, rfl, rfl⟩⟩
theorem Bk.upd {F : BF} {es es' : Array MapEntry} {clock clock' : Nat} {a k : IDV} {x : WV} (h : Bk F es clock) (hx : okN x.n)
    (hc : (es' = es.push { key := .agg (cM a k).toArray, val := .agg (cV x).toArray, born := clock } ∧ clock' = clock + 1 ∧ ∀ e, e ∈ es.toList → e.key ≠ .agg (cM a k).toArray) ∨ ∃ j e0, es.toList[j]? = some e0 ∧ e0.key = .agg (cM a k).toArray ∧ es' = es.modify j (fun e => { e with key := .agg (cM a k).toArray, val := .agg (cV x).toArray }) ∧ clock' = clock) :
    Bk (updF F a k x) es' clock' := by
  have hok : ∀ b j, okN (updF F a k x b j).n := fun b j => by
    unfold updF
    split
    · exact hx
    · exact h.ok b j
  rcases hc with ⟨rfl, rfl, hno⟩ | ⟨j, e0, h1, h2, rfl, rfl⟩
  · refine ⟨MapKept.stamped_push h.st hno, fun e he => ?_, fun b j hn => ?_, hok⟩
    · simp only [Array.toList_push, List.mem_append, List.mem_singleton] at he
      rcases he with he | rfl
      · obtain ⟨b, j, h3, h4⟩ := h.at_ e he
        refine ⟨b, j, h3, ?_⟩
        have : ¬ (b = a ∧ j = k) := fun hq => hno e he (by rw [h3, hq.1, hq.2])
        unfold updF
        rw [if_neg this]
        exact h4
      · exact ⟨a, k, rfl, by unfold updF; rw [if_pos ⟨rfl, rfl⟩]⟩
    · have h5 : ¬ (b = a ∧ j = k) := fun hq => hn { key := .agg (cM a k).toArray, val := .agg (cV x).toArray, born := clock } (by simp) (by rw [hq.1, hq.2])
      unfold updF
      rw [if_neg h5]
      exact h.no b j (fun e he => hn e (by simp [he]))
  · have hj : j < es.size := by simpa using (List.getElem?_eq_some_iff.1 h1).1
    have hmem : ∀ e, e ∈ (es.modify j (fun e => { e with key := .agg (cM a k).toArray, val := .agg (cV x).toArray })).toList → (e ∈ es.toList ∧ e.key ≠ .agg (cM a k).toArray) ∨ (e.key = .agg (cM a k).toArray ∧ e.val = .agg (cV x).toArray) := by
      intro e he
      obtain ⟨i, hi⟩ := List.mem_iff_getElem?.1 he
      rw [Array.getElem?_toList, Array.getElem?_modify] at hi
      by_cases hij : j = i
      · subst hij
        rw [if_pos rfl, ← Array.getElem?_toList, h1] at hi
        simp only [Option.map_some, Option.some.injEq] at hi
        subst hi
        exact .inr ⟨rfl, rfl⟩
      · rw [if_neg hij, ← Array.getElem?_toList] at hi
        refine .inl ⟨List.mem_of_getElem? hi, fun hk => hij ?_⟩
        have hnd := h.st.2.2
        have hji : (es.toList.map (·.key))[j]? = (es.toList.map (·.key))[i]? := by rw [List.getElem?_map, List.getElem?_map, h1, hi]; simp [h2, hk]
        have hjl : j < (es.toList.map (·.key)).length := by simpa using hj
        exact (List.getElem?_inj hjl hnd).1 hji
    refine ⟨MapKept.stamped_modify h.st j _ (fun _ _ => rfl) (fun e he hje => by rw [← Array.getElem?_toList, h1] at hje; cases hje; exact h2.symm), fun e he => ?_, fun b i hn => ?_, hok⟩
    · rcases hmem e he with ⟨he, hne⟩ | ⟨hk, hv⟩
      · obtain ⟨b, i, h3, h4⟩ := h.at_ e he
        refine ⟨b, i, h3, ?_⟩
        have : ¬ (b = a ∧ i = k) := fun hq => hne (by rw [h3, hq.1, hq.2])
        unfold updF
        rw [if_neg this]
        exact h4
      · exact ⟨a, k, hk, by unfold updF; rw [if_pos ⟨rfl, rfl⟩]; exact hv⟩
    · have hkeys : ∀ e, e ∈ es.toList → e.key ≠ .agg (cM b i).toArray := by
        intro e he hk
        obtain ⟨q, hq⟩ := List.mem_iff_getElem?.1 he
        have hq2 : (es.modify j (fun e => { e with key := .agg (cM a k).toArray, val := .agg (cV x).toArray })).toList[q]? = some (if j = q then { e with key := .agg (cM a k).toArray, val := .agg (cV x).toArray } else e) := by
          rw [Array.getElem?_toList, Array.getElem?_modify, ← Array.getElem?_toList, hq]
          split <;> rfl
        refine hn _ (List.mem_of_getElem? hq2) ?_
        split
        · rename_i hjq
          subst hjq
          rw [h1] at hq
          cases hq
          exact h2.symm.trans hk
        · exact hk
      have h5 : ¬ (b = a ∧ i = k) := fun hq => hkeys e0 (List.mem_of_getElem? h1) (by rw [h2, hq.1, hq.2])
      unfold updF
      rw [if_neg h5]
      exact h.no b i hkeys
section
variable {P : Program} {ops : Array Oper} {Q : Exit → Act → World → Prop} {n : Nat} {e : Env} {I I' : World → Prop} {rest : List Oper}
variable {d t yt : Nat} {p : String} {af : Array Edge} {x y z : Operand} {v v1 v2 : Value} {w0 : World} {S : List Nat} {l l' : List (Nat × Obj)}
theorem J.lookB {mt kt et : TypeId} {b clock : Nat} {es : Array MapEntry} {F : BF} {a k : IDV} (hm : P.underlying mt = some (.map kt et)) (K : WideMaps.KeyLaw P kt) (kp : ∀ a k : IDV, ∃ l, keyOf P kt (.agg (cM a k).toArray) = some l) (hz : zeroT P et = some (.agg (cV zV).toArray))
    (hx : ev e x = some (.map (some b))) (hy : ev e y = some (.agg (cM a k).toArray)) (hT : Bk F es clock) (hb : ∀ w, I w → w.heap[b]? = some (.map es clock)) (hd : Nat.blt d n = true)
    (h : J P ops Q n rest ((d, .agg (cV (F a k)).toArray) :: e) I) : J P ops Q n (⟨some d, .lookup mt x y false, t, p, af, none⟩ :: rest) e I := by
  obtain ⟨_, k1⟩ := kp a k
  obtain ⟨kv, hkv⟩ : ∃ kv, kv = Value.agg (cM a k).toArray := ⟨_, rfl⟩
  refine J.lookup1 hm K hz hx hy hb k1 (hT.keys kp) hd fun u ok hl => ?_
  rw [hT.look hl]
  exact h
theorem J.updB {mt kt et : TypeId} {b clock : Nat} {es : Array MapEntry} {F : BF} {a k : IDV} {xv : WV} {l' : Array MapEntry → Nat → List (Nat × Obj)} (hm : P.underlying mt = some (.map kt et)) (K : WideMaps.KeyLaw P kt) (kp : ∀ a k : IDV, ∃ l, keyOf P kt (.agg (cM a k).toArray) = some l)
    (hx : ev e x = some (.map (some b))) (hy : ev e y = some (.agg (cM a k).toArray)) (hz : ev e z = some (.agg (cV xv).toArray)) (hT : Bk F es clock) (hxv : okN xv.n) (hu : ∀ es' c', Up l b (.map es clock) (.map es' c') (l' es' c'))
    (h : ∀ es' c', Bk (updF F a k xv) es' c' → J P ops Q n rest e (St w0 S (l' es' c'))) : J P ops Q n (⟨none, .mapUpdate mt x y z, t, p, af, none⟩ :: rest) e (St w0 S l) := by
  obtain ⟨lk, hlk⟩ := kp a k
  obtain ⟨kv, hkv⟩ : ∃ kv, kv = Value.agg (cM a k).toArray := ⟨_, rfl⟩
  obtain ⟨uv, huv⟩ : ∃ uv, uv = Value.agg (cV xv).toArray := ⟨_, rfl⟩
  rw [← hkv] at hy hlk
  rw [← huv] at hz
  refine J.skipN (I' := fun w => ∃ q : Array MapEntry × Nat, Bk (updF F a k xv) q.1 q.2 ∧ St w0 S (l' q.1 q.2) w) (fun T w ht hw => ?_) (J.ex fun q => J.pr fun hq => h q.1 q.2 hq)
  have hb := hw.own _ (hu es clock).mem
  obtain ⟨es', c', hrun, hcase⟩ := run_update_any (v := uv) hm K hb hlk (hT.keys kp)
  rw [hkv, huv] at hcase
  exact ⟨_, by simp [execOp, ht.eval hx, ht.eval hy, ht.eval hz, hrun], (es', c'), hT.upd hxv hcase, hw.wrote (hu es' c') (wrote_set hb)⟩
/-- an entry is taken out of a book's map -/
theorem Bk.del {F : BF} {es es' : Array MapEntry} {clock : Nat} {a k : IDV} (h : Bk F es clock)
    (hd : (es' = es ∧ ∀ e, e ∈ es.toList → e.key ≠ .agg (cM a k).toArray) ∨ ∃ j e0, es.toList[j]? = some e0 ∧ e0.key = .agg (cM a k).toArray ∧ es' = es.eraseIdxIfInBounds j ∧ es'.toList = es.toList.eraseIdx j) :
    Bk (updF F a k zV) es' clock ∧ ∀ e, e ∈ es'.toList → e ∈ es.toList ∧ e.key ≠ .agg (cM a k).toArray := by
  have hok : ∀ b j, okN (updF F a k zV b j).n := fun b j => by
    unfold updF
    split
    · exact okZ
    · exact h.ok b j
  have key : ∀ es' : Array MapEntry, MapKept.Stamped es' clock → (∀ e, e ∈ es'.toList → e ∈ es.toList ∧ e.key ≠ .agg (cM a k).toArray) → (∀ e, e ∈ es.toList → e.key ≠ .agg (cM a k).toArray → e ∈ es'.toList) → Bk (updF F a k zV) es' clock := by
    intro es' hst h1 h2
    refine ⟨hst, fun e he => ?_, fun b j hn => ?_, hok⟩
    · obtain ⟨he1, he2⟩ := h1 e he
      obtain ⟨b, j, h3, h4⟩ := h.at_ e he1
      refine ⟨b, j, h3, ?_⟩
      have : ¬ (b = a ∧ j = k) := fun hq => he2 (by rw [h3, hq.1, hq.2])
      unfold updF
      rw [if_neg this]
      exact h4
    · unfold updF
      split
      · rfl
      · rename_i hne
        exact h.no b j (fun e he hk => hn e (h2 e he (fun hk2 => hne (cM_eq.1 (agg_inj.1 (hk.symm.trans hk2))))) hk)
  rcases hd with ⟨rfl, hno⟩ | ⟨j, e0, h1, h2, rfl, h3⟩
  · have hs : ∀ e, e ∈ es'.toList → e ∈ es'.toList ∧ e.key ≠ .agg (cM a k).toArray := fun e he => ⟨he, hno e he⟩
    exact ⟨key es' h.st hs (fun e he _ => he), hs⟩
  · have hj : j < es.toList.length := (List.getElem?_eq_some_iff.1 h1).1
    have hnd := h.st.2.2
    have hs : ∀ e, e ∈ (es.eraseIdxIfInBounds j).toList → e ∈ es.toList ∧ e.key ≠ .agg (cM a k).toArray := by
      intro e he
      rw [h3] at he
      refine ⟨(List.eraseIdx_sublist _ _).subset he, fun hk => ?_⟩
      obtain ⟨i, hi⟩ := List.mem_iff_getElem?.1 he
      rw [List.getElem?_eraseIdx] at hi
      have hij : ∃ q, q ≠ j ∧ es.toList[q]? = some e := by
        split at hi
        · exact ⟨i, by omega, hi⟩
        · exact ⟨i + 1, by omega, hi⟩
      obtain ⟨q, hq1, hq2⟩ := hij
      have hji : (es.toList.map (·.key))[j]? = (es.toList.map (·.key))[q]? := by rw [List.getElem?_map, List.getElem?_map, h1, hq2]; simp [h2, hk]
      exact hq1 ((List.getElem?_inj (by simpa using hj) hnd).1 hji).symm
    refine ⟨key _ (MapKept.stamped_erase h.st j) hs (fun e he hne => ?_), hs⟩
    rw [h3]
    obtain ⟨i, hi⟩ := List.mem_iff_getElem?.1 he
    have hij : i ≠ j := fun e1 => hne (by subst e1; rw [h1] at hi; cases hi; exact h2)
    rcases Nat.lt_or_gt_of_ne hij with hlt | hgt
    · exact List.mem_of_getElem? (i := i) (by rw [List.getElem?_eraseIdx, if_pos hlt]; exact hi)
    · exact List.mem_of_getElem? (i := i - 1) (by rw [List.getElem?_eraseIdx, if_neg (by omega), show i - 1 + 1 = i by omega]; exact hi)
theorem J.delB {mt kt kt' et : TypeId} {b clock : Nat} {es : Array MapEntry} {F : BF} {a k : IDV} {l' : Array MapEntry → List (Nat × Obj)} (hm : P.underlying mt = some (.map kt et)) (K : WideMaps.KeyLaw P kt) (kp : ∀ a k : IDV, ∃ l, keyOf P kt (.agg (cM a k).toArray) = some l)
    (hx : ev e x = some (.map (some b))) (hy : ev e y = some (.agg (cM a k).toArray)) (hT : Bk F es clock) (hu : ∀ es', Up l b (.map es clock) (.map es' clock) (l' es'))
    (h : ∀ es', Bk (updF F a k zV) es' clock → (∀ e, e ∈ es'.toList → e ∈ es.toList ∧ e.key ≠ .agg (cM a k).toArray) → J P ops Q n rest e (St w0 S (l' es'))) : J P ops Q n (⟨none, .call ⟨.builtin .delete, #[x, y], #[mt, kt']⟩, t, p, af, none⟩ :: rest) e (St w0 S l) := by
  obtain ⟨lk, hlk⟩ := kp a k
  obtain ⟨kv, hkv⟩ : ∃ kv, kv = Value.agg (cM a k).toArray := ⟨_, rfl⟩
  rw [← hkv] at hy hlk
  refine J.valueN (I' := fun w => ∃ es', (Bk (updF F a k zV) es' clock ∧ ∀ e, e ∈ es'.toList → e ∈ es.toList ∧ e.key ≠ .agg (cM a k).toArray) ∧ St w0 S (l' es') w) (fun T w ht hw => ?_) (J.ex fun es' => J.pr fun hT' => h es' hT'.1 hT'.2)
  have hb := hw.own _ (hu es).mem
  obtain ⟨es', hrun, hcase⟩ := run_delete (kt' := kt') (ty := t) hm K hb hlk (hT.keys kp)
  rw [hkv] at hcase
  exact ⟨.tuple #[], _, by simp [execOp, resolve, invoke, builtin, ht.eval hx, ht.eval hy, hrun], es', hT.del hcase, hw.wrote (hu es') (wrote_set hb)⟩
/-- where a round over a book's map stands that takes entries out -/
structure RetS where
  es : Array MapEntry
  F : BF
  sn : List Nat
  o : Obj
structure RetI (es0 : Array MapEntry) (F : BF) (fs : List IDV) (b clock : Nat) (s : RetS) : Prop where
  bk : Bk s.F s.es clock
  it : IterAt b s.es clock s.sn s.o
  sub : ∀ e, e ∈ s.es.toList → e ∈ es0.toList
  nd : s.sn.Nodup
  old : ∀ x, x ∈ s.sn → x ∈ es0.toList.map (·.born)
  same : ∀ a k, a ∈ fs → s.F a k = F a k
  seen : ∀ e, e ∈ s.es.toList → e.born ∈ s.sn → ∀ a k, e.key = .agg (cM a k).toArray → a ∈ fs
theorem born_inj {es : Array MapEntry} {clock : Nat} (h : MapKept.Stamped es clock) {x y : MapEntry} (hx : x ∈ es.toList) (hy : y ∈ es.toList) (he : x.born = y.born) : x = y := by
  obtain ⟨i, hi⟩ := List.mem_iff_getElem?.1 hx
  obtain ⟨j, hj⟩ := List.mem_iff_getElem?.1 hy
  have h1 : (es.toList.map (·.born))[i]? = (es.toList.map (·.born))[j]? := by rw [List.getElem?_map, List.getElem?_map, hi, hj]; simp [he]
  have h2 := (List.getElem?_inj (by simpa using (List.getElem?_eq_some_iff.1 hi).1) h.2.1).1 h1
  subst h2
  rw [hi] at hj
  exact Option.some.inj hj
theorem nodup_le {l m : List Nat} (hl : l.Nodup) (hs : ∀ x, x ∈ l → x ∈ m) : l.length ≤ m.length := by
  induction l generalizing m with
  | nil => simp
  | cons a l ih =>
    have h1 := List.nodup_cons.1 hl
    have h2 := ih (m := m.erase a) h1.2 (fun x hx => (List.mem_erase_of_ne (fun e => h1.1 (by rw [← e]; exact hx))).2 (hs x (.tail _ hx)))
    have h3 := List.length_erase_of_mem (hs a (.head _))
    have h4 := List.length_pos_of_mem (hs a (.head _))
    simp only [List.length_cons]
    omega
theorem IterOn.sub {b : Nat} {es es' : Array MapEntry} {clock : Nat} {sn : List Nat} {en : MapEntry} {o : Obj} (h : IterOn b es clock sn en o) (hs : ∀ e, e ∈ es'.toList → e ∈ es.toList) : IterOn b es' clock sn en o := by
  obtain ⟨since, h1, h2, h3⟩ := h
  exact ⟨since, h1, h2, fun x hx => h3 x (hs x hx)⟩
section
variable {es0 : Array MapEntry} {F : BF} {fs : List IDV} {b clock : Nat} {s : RetS} {en : MapEntry} {o' : Obj}
theorem RetI.more (h : RetI es0 F fs b clock s) (hm : en ∈ s.es.toList) (hn : en.born ∉ s.sn) : (s.sn ++ [en.born]).Nodup ∧ (∀ x, x ∈ s.sn ++ [en.born] → x ∈ es0.toList.map (·.born)) ∧ s.sn.length + 1 ≤ es0.size := by
  have h1 : (s.sn ++ [en.born]).Nodup := List.nodup_append.2 ⟨h.nd, by simp, fun x hx y hy e => hn (by simp at hy; rw [← hy, ← e]; exact hx)⟩
  have h2 : ∀ x, x ∈ s.sn ++ [en.born] → x ∈ es0.toList.map (·.born) := fun x hx => (List.mem_append.1 hx).elim (h.old x) (fun hx => by rw [List.mem_singleton.1 hx]; exact List.mem_map.2 ⟨en, h.sub en hm, rfl⟩)
  have h3 := nodup_le h1 h2
  simp at h3
  exact ⟨h1, h2, h3⟩
theorem RetI.keep (h : RetI es0 F fs b clock s) (hm : en ∈ s.es.toList) (hn : en.born ∉ s.sn) (ho : IterOn b s.es clock s.sn en o') {a k : IDV} (hk : en.key = .agg (cM a k).toArray) (ha : a ∈ fs) : RetI es0 F fs b clock ⟨s.es, s.F, s.sn ++ [en.born], o'⟩ := by
  obtain ⟨h1, h2, _⟩ := h.more hm hn
  refine ⟨h.bk, ho.at, h.sub, h1, h2, h.same, fun e he hb a' k' hk' => ?_⟩
  rcases List.mem_append.1 hb with hb | hb
  · exact h.seen e he hb a' k' hk'
  · have : e = en := born_inj h.bk.st he hm (List.mem_singleton.1 hb)
    subst this
    have := cM_eq.1 (agg_inj.1 (hk'.symm.trans hk))
    rw [this.1]; exact ha
theorem RetI.del (h : RetI es0 F fs b clock s) (hm : en ∈ s.es.toList) (hn : en.born ∉ s.sn) (ho : IterOn b s.es clock s.sn en o') {a k : IDV} (hk : en.key = .agg (cM a k).toArray) (ha : a ∉ fs) {es' : Array MapEntry}
    (hb : Bk (updF s.F a k zV) es' clock) (hs : ∀ e, e ∈ es'.toList → e ∈ s.es.toList ∧ e.key ≠ .agg (cM a k).toArray) : RetI es0 F fs b clock ⟨es', updF s.F a k zV, s.sn ++ [en.born], o'⟩ := by
  obtain ⟨h1, h2, _⟩ := h.more hm hn
  refine ⟨hb, (ho.sub fun e he => (hs e he).1).at, fun e he => h.sub e (hs e he).1, h1, h2, fun a' k' ha' => ?_, fun e he hbn a' k' hk' => ?_⟩
  · have : ¬ (a' = a ∧ k' = k) := fun hq => ha (by rw [← hq.1]; exact ha')
    show updF s.F a k zV a' k' = _
    unfold updF
    rw [if_neg this]
    exact h.same a' k' ha'
  · rcases List.mem_append.1 hbn with hbn | hbn
    · exact h.seen e (hs e he).1 hbn a' k' hk'
    · have : e = en := born_inj h.bk.st (hs e he).1 hm (List.mem_singleton.1 hbn)
      subst this
      exact absurd hk (hs e he).2
theorem RetI.done (h : RetI es0 F fs b clock s) (hall : ∀ x, x ∈ s.es.toList → x.born ∈ s.sn) : Bk (retF F fs) s.es clock := by
  have : s.F = retF F fs := by
    funext a k
    unfold retF
    by_cases ha : a ∈ fs
    · rw [if_pos ha]; exact h.same a k ha
    · rw [if_neg ha]
      exact h.bk.no a k (fun e he hk => ha (h.seen e he (hall e he) a k hk))
  rw [← this]
  exact h.bk
theorem RetI.start {F : BF} {es : Array MapEntry} {o : Obj} (hb : Bk F es clock) (ho : IterAt b es clock [] o) : RetI es F fs b clock ⟨es, F, [], o⟩ :=
  ⟨hb, ho, fun _ h => h, .nil, by simp, fun _ _ _ => rfl, by simp⟩
end
end
end Go.J
/-
  The program's book: what Mark and Retain do: contracts.
-/
namespace Go.Proofs.Ytbafhclandendaa
open Go.J Go.RowKit
set_option linter.unusedVariables false
set_option linter.unusedSimpArgs false
set_option maxRecDepth 8000
namespace Ty
theorem cMk : Try.prog.cellsOf 92 = 32 := by kernel_rfl
theorem cVr : Try.prog.cellsOf 46 = 17 := by kernel_rfl
theorem cL64 : Try.prog.cellsOf 2 = 1 := by kernel_rfl
theorem fkMk : fieldsK Try.prog 92 = some [(23, 0), (23, 16)] := by kernel_rfl
theorem fkVr : fieldsK Try.prog 46 = some [(2, 0), (23, 1)] := by kernel_rfl
theorem litsM (a k : IDV) (d : Nat) : Try.prog.keyLits (d + 3) 92 (cM a k) = some [(Go.J.lI a).flatten, (Go.J.lI k).flatten].flatten := by
  refine lits_struct (d := d + 2) fkMk (by rw [cMk]; rfl) ?_
  have h1 := litsI a d
  have h2 := litsI k d
  simp only [List.mapM_cons, List.mapM_nil, cID]
  rw [show ((cM a k).drop 0).take 16 = cI a from rfl, show ((cM a k).drop 16).take 16 = cI k from rfl, h1, h2]; rfl
theorem litsV (x : WV) (hx : okN x.n) (d : Nat) : Try.prog.keyLits (d + 3) 46 (cV x) = some [[.int .i64 x.n], (Go.J.lI x.who).flatten].flatten := by
  refine lits_struct (d := d + 2) fkVr (by rw [cVr]; rfl) ?_
  have h1 : Try.prog.keyLits (d + 2) 2 [.int .i64 x.n] = some [.int .i64 x.n] := lits_int (d := d + 1) u2 hx
  have h2 := litsI x.who d
  simp only [List.mapM_cons, List.mapM_nil, cL64, cID]
  rw [show ((cV x).drop 0).take 1 = [.int .i64 x.n] from rfl, show ((cV x).drop 1).take 16 = cI x.who from rfl, h1, h2]; rfl
theorem keyM (a k : IDV) : ∃ l, keyOf Try.prog 92 (.agg (cM a k).toArray) = some l := key_of size_ (by kernel_rfl) (by kernel_rfl) (by rw [cMk]; rfl) (litsM a k _)
theorem keyV (x : WV) (hx : okN x.n) : ∃ l, keyOf Try.prog 46 (.agg (cV x).toArray) = some l := key_of size_ (by kernel_rfl) (by kernel_rfl) (by rw [cVr]; rfl) (litsV x hx _)
theorem KM : WideMaps.KeyLaw Try.prog 92 := deep_law (m := 5) (by omega) (by kernel_rfl) (by kernel_rfl) (by kernel_rfl)
theorem QV : EqL Try.prog 46 := EqL.of (m := 5) (by kernel_rfl) (by omega) (by kernel_rfl) (by kernel_rfl) (by kernel_rfl)
theorem zMk : zeroT Try.prog 92 = some (.agg (cM zI zI).toArray) := by kernel_rfl
theorem zVr : zeroT Try.prog 46 = some (.agg (cV zV).toArray) := by kernel_rfl
end Ty
theorem one_cI (a : IDV) : ∀ v, v ∈ cI a → v.oneCell' = true := fun v hv => one_fI (xs := [a]) (by simpa using hv)
theorem one_cV (x : WV) : ∀ v, v ∈ cV x → v.oneCell' = true := by
  intro v hv
  rcases List.mem_cons.1 hv with rfl | hv
  · rfl
  · exact one_cI _ v hv
theorem one_cM (a k : IDV) : ∀ v, v ∈ cM a k → v.oneCell' = true := by
  intro v hv
  rcases List.mem_append.1 hv with hv | hv
  · exact one_cI _ v hv
  · exact one_cI _ v hv
theorem J.neV {ops : Array Oper} {Q : Exit → Act → World → Prop} {n : Nat} {e : Env} {I : World → Prop} {rest : List Oper} {d t yt : Nat} {p : String} {af : Array Edge} {x y : Operand} {a b : WV} (hx : ev e x = some (.agg (cV a).toArray)) (hy : ev e y = some (.agg (cV b).toArray)) (ha : okN a.n) (hb : okN b.n) (hd : Nat.blt d n = true)
    (h : J Try.prog ops Q n rest ((d, .bool (!decide (a = b))) :: e) I) : J Try.prog ops Q n (⟨some d, .binOp .neq 46 x y yt, t, p, af, none⟩ :: rest) e I := by
  obtain ⟨_, k1⟩ := Ty.keyV a ha
  obtain ⟨_, k2⟩ := Ty.keyV b hb
  refine J.neA Ty.QV hx hy k1 k2 hd fun r hr => ?_
  rw [arr_inj, cV_eq] at hr
  rw [dec_of hr]; exact h
set_option maxHeartbeats 1000000 in
theorem mark_spec (bk mb : Nat) (F : BF) (es : Array MapEntry) (ck : Nat) (a k : IDV) (xv : WV) (hxv : okN xv.n) (w : World) (hw0 : Own w [(bk, cb [.map (some mb)] 90), (mb, .map es ck)]) (hT : Bk F es ck) :
    Calls Try.prog 26 [.pointer (some ⟨bk, 0, none⟩), .agg (cI a).toArray, .agg (cI k).toArray, .agg (cV xv).toArray].toArray w fun r w' => ∃ y : Array MapEntry × Nat, r = .returned (.tuple #[]) ∧ Bk (updF F a k xv) y.1 y.2 ∧ St w [bk, mb] [(bk, cb [.map (some mb)] 90), (mb, .map y.1 y.2)] w' := by
  refine calls_of_J (args := [.pointer (some ⟨bk, 0, none⟩), .agg (cI a).toArray, .agg (cI k).toArray, .agg (cV xv).toArray]) (e := [(0, .pointer (some ⟨bk, 0, none⟩)), (1, .agg (cI a).toArray), (2, .agg (cI k).toArray), (3, .agg (cV xv).toArray)]) Try.func26 rfl rfl ⟨rfl, rfl, rfl, rfl, trivial⟩ (hw0.st) ?_
  refine JC.seq (fun K0 hK0 => ?_)
  refine JC.region ?_
  refine J.box rfl rfl rfl (fun b5 => ?_)
  refine J.box rfl rfl rfl (fun b6 => ?_)
  refine J.box rfl rfl rfl (fun b7 => ?_)
  refine J.nil ?_
  refine JX.thenN (hK0 _ _ ?_)
  refine JC.seq (fun K1 hK1 => ?_)
  refine JC.region ?_
  refine J.move rfl rfl ?_
  refine J.neNil Ty.u39 rfl rfl rfl ?_
  refine J.nil ?_
  refine JX.thenN (hK1 _ _ ?_)
  first | refine JC.condT rfl ?_ | refine JC.cond rfl (fun _ => ?_) (fun h => by first | (exfalso; simp at h; omega) | (simp at h))
  apply JC.drawL 8 [Eqv (.pointer (some ⟨bk, 0, none⟩)), Eqv (.pointer (some ⟨bk, 0, none⟩)), Eqv (.pointer (some ⟨bk, 0 + 0, none⟩)), Eqv (.map (some mb)), Eqv (.agg (cI a).toArray), Eqv (.agg (cI k).toArray), Eqv (.agg (cM a k).toArray), Eqv (.agg (cV xv).toArray)] Ty.mixed rfl rfl rfl (by kernel_rfl) rfl rfl (fun w w' hw hb => hw.step hb) ⟨fun _ _ _ h _ => h, fun _ _ _ h _ => h, fun _ _ _ h _ => h, fun _ _ _ h _ => h, fun _ _ _ h _ => h, fun _ _ _ h _ => h, fun _ _ _ h _ => h, fun _ _ _ h _ => h, trivial⟩ ?hstep ?htail
  case hstep =>
    refine ⟨fun wi => ?_, fun wi => ?_, fun wi => ?_, fun wi => ?_, fun wi => ?_, fun wi => ?_, fun wi => ?_, fun wi => ?_, trivial⟩
    · skip
      refine Fin.nil ?_
      refine J.move rfl rfl ?_
      exact J.finP rfl
    · skip
      refine Fin.consE rfl (Fin.nil ?_)
      refine J.nilCheck rfl rfl ?_
      exact J.finP rfl
    · skip
      refine Fin.consE rfl (Fin.nil ?_)
      refine J.fieldAddr Ty.fd90_0 rfl rfl ?_
      exact J.finP rfl
    · skip
      refine Fin.consE rfl (Fin.nil ?_)
      refine J.load1 (v := .map (some mb)) Ty.a88 rfl (fun w1 hw => by rw [cell_of (hw.2.own ((bk, cb [.map (some mb)] 90)) (by repeat first | exact .head _ | apply List.Mem.tail | apply List.mem_append_right))]; rfl) rfl ?_
      exact J.finP rfl
    · skip
      refine Fin.nil ?_
      refine J.loadA (vs := cI a) Ty.a23 Ty.s23 rfl rfl (fun w1 hw => Cells.of_block (hw.2.own ((b5, cb (cI a) 23)) (by repeat first | exact .head _ | apply List.Mem.tail | apply List.mem_append_right)) rfl) rfl ?_
      exact J.finP rfl
    · skip
      refine Fin.nil ?_
      refine J.loadA (vs := cI k) Ty.a23 Ty.s23 rfl rfl (fun w1 hw => Cells.of_block (hw.2.own ((b6, cb (cI k) 23)) (by repeat first | exact .head _ | apply List.Mem.tail | apply List.mem_append_right)) rfl) rfl ?_
      exact J.finP rfl
    · skip
      refine Fin.consE rfl (Fin.consE rfl (Fin.nil ?_))
      refine J.buildS (cs := cM a k) Ty.pl92 Ty.zMk rfl (by kernel_rfl) rfl ?_
      exact J.finP rfl
    · skip
      refine Fin.nil ?_
      refine J.loadA (vs := cV xv) Ty.a46 Ty.s46 rfl rfl (fun w1 hw => Cells.of_block (hw.2.own ((b7, cb (cV xv) 46)) (by repeat first | exact .head _ | apply List.Mem.tail | apply List.mem_append_right)) rfl) rfl ?_
      exact J.finP rfl
  case htail =>
    refine Fin.consE rfl (Fin.consE rfl (Fin.consE rfl (Fin.consE rfl (Fin.consE rfl (Fin.consE rfl (Fin.consE rfl (Fin.consE rfl (Fin.nil ?_))))))))
    refine J.updB (l' := fun es' c' => (b7, cb (cV xv) 46) :: (b6, cb (cI k) 23) :: (b5, cb (cI a) 23) :: (bk, cb [.map (some mb)] 90) :: (mb, .map es' c') :: []) Ty.u88 Ty.KM Ty.keyM rfl rfl rfl hT hxv (fun es' c' => (by repeat first | exact .here | apply Up.there)) (fun es2 ck2 hT2 => ?_)
    refine J.nil ?_
    refine JX.end0 rfl (fun w1 hw => ?_)
    exact ⟨(es2, ck2), rfl, hT2, (hw.perm (l' := [(b7, cb (cV xv) 46), (b6, cb (cI k) 23), (b5, cb (cI a) 23)] ++ [(bk, cb [.map (some mb)] 90), (mb, .map es2 ck2)]) (by (refine perm_cnt (fun _ => ?_)); simp only [cntB_append, cntB_cons, cntB_nil, Nat.add_zero, Nat.zero_add]; try ac_rfl)).drop (List.sublist_append_right _ _)⟩

set_option maxHeartbeats 1000000 in
theorem retain_spec (bk mb : Nat) (F : BF) (es : Array MapEntry) (ck : Nat) (v : Value) (fs : List IDV) (w : World) (hr : Row w v fs.length (fI fs)) (hoff : Off [bk, mb] v (fI fs)) (hl : fs.length < 4611686018427387904) (hw0 : Own w [(bk, cb [.map (some mb)] 90), (mb, .map es ck)]) (hT : Bk F es ck) :
    Calls Try.prog 28 [.pointer (some ⟨bk, 0, none⟩), v].toArray w fun r w' => ∃ es' : Array MapEntry, r = .returned (.tuple #[]) ∧ Bk (retF F fs) es' ck ∧ St w [bk, mb] [(bk, cb [.map (some mb)] 90), (mb, .map es' ck)] w' := by
  refine calls_of_J (args := [.pointer (some ⟨bk, 0, none⟩), v]) (e := [(0, .pointer (some ⟨bk, 0, none⟩)), (1, v)]) Try.func28 rfl rfl ⟨rfl, rfl, trivial⟩ (hw0.st) ?_
  refine JC.seq (fun K0 hK0 => ?_)
  refine JC.seq (fun K1 hK1 => ?_)
  refine JC.region ?_
  refine J.move rfl rfl ?_
  refine J.eqNil Ty.u39 rfl rfl rfl ?_
  refine J.nil ?_
  refine JX.thenN (hK1 _ _ ?_)
  first | refine JC.condF rfl ?_ | refine JC.cond rfl (fun h => by first | (exfalso; simp at h; omega) | (simp at h)) (fun _ => ?_)
  refine JC.skip ?_
  refine JX.thenN (hK0 _ _ ?_)
  refine JC.seq (fun K2 hK2 => ?_)
  refine JC.region ?_
  refine J.move rfl rfl ?_
  refine J.nilCheck rfl rfl ?_
  refine J.fieldAddr Ty.fd90_0 rfl rfl ?_
  refine J.loadO (v := .map (some mb)) Ty.a88 rfl (.head _) rfl rfl ?_
  refine J.range Ty.u88 rfl (fun w1 hw => hw.own _ (.tail _ (.head _))) hT.st.1 rfl (fun r0 o0 ho0 => ?_)
  refine J.nil ?_
  refine JX.thenN (hK2 _ _ ?_)
  refine JC.block ?_
  refine JC.conseq (JC.cov (f := (fun st => [(0, .pointer (some ⟨bk, 0, none⟩)), (1, v), (11, .pointer (some ⟨r0, 0, none⟩))]) (⟨es, F, [], o0⟩ : RetS)) ⟨rfl, rfl, rfl, trivial⟩ (JC.loop (α := RetS) (fun st => [(0, .pointer (some ⟨bk, 0, none⟩)), (1, v), (11, .pointer (some ⟨r0, 0, none⟩))]) (fun st w' => RetI es F fs mb ck st ∧ St w [bk, mb] ((r0, st.o) :: (bk, cb [.map (some mb)] 90) :: (mb, .map st.es ck) :: []) w') (fun st => es.size - st.sn.length) (⟨es, F, [], o0⟩ : RetS) (fun st => ?_))) (fun w hw => ⟨.start hT ho0, hw⟩)
  refine JC.pr (fun hI => ?_)
  refine JC.seq (fun K3 hK3 => ?_)
  refine JC.region ?_
  refine J.next (l' := fun o1 => (r0, o1) :: (bk, cb [.map (some mb)] 90) :: (mb, .map st.es ck) :: []) rfl (fun _ => .here) hI.it (fun w1 hw => hw.own _ (.tail _ (.tail _ (.head _)))) rfl (fun eo o1 hN => ?_)
  refine J.extract rfl (nextA_0 eo) rfl ?_
  refine J.nil ?_
  refine JX.thenN (hK3 _ _ ?_)
  refine JC.seq (fun K4 hK4 => ?_)
  refine JC.cond rfl (fun h1 => ?_) (fun h1 => ?_)
  · skip
    obtain ⟨en, rfl⟩ := Option.isSome_iff_exists.1 h1
    obtain ⟨hem, hnb, hon⟩ := hN
    obtain ⟨a, k, hk, hv⟩ := hI.bk.at_ en hem
    have hlen := (hI.more hem hnb).2.2
    refine JC.skip ?_
    refine JX.thenN (hK4 _ _ ?_)
    refine JC.block ?_
    refine JC.seq (fun K5 hK5 => ?_)
    refine JC.region ?_
    refine J.entry rfl (.head _) hon hem hI.bk.st.2.1 (fun w1 hw => hw.own _ (.tail _ (.tail _ (.head _)))) rfl ?_
    refine J.extract rfl rfl rfl ?_
    refine J.name 15 rfl hk ?_
    refine J.alloc Ty.zMk rfl rfl (fun b4 => ?_)
    refine J.storeW (cs := cM zI zI) (vs := cM a k) Ty.s92 rfl rfl rfl rfl rfl (one_cM a k) .here ?_
    refine J.nil ?_
    refine JX.thenN (hK5 _ _ ?_)
    refine JC.seq (fun K6 hK6 => ?_)
    refine JC.region ?_
    refine J.move rfl rfl ?_
    refine J.fieldAddr Ty.fd92_0 rfl rfl ?_
    refine J.loadOA (vs := cI a) Ty.a23 Ty.s23 rfl (.head _) rfl rfl rfl ?_
    refine J.callB (v := .bool (decide (a ∈ fs))) (fun w1 w2 hw hb => hw.step hb) Ty.bd47 rfl rfl (fun w1 hw => contains_spec v fs a w1 (hr.st hoff hw) hl) ?_
    refine J.not rfl rfl ?_
    refine J.nil ?_
    refine JX.thenN (hK6 _ _ ?_)
    refine JC.cond rfl (fun h2 => ?_) (fun h2 => ?_)
    · skip
      have ha : a ∉ fs := by simpa using h2
      apply JC.drawL 5 [Eqv (.pointer (some ⟨bk, 0, none⟩)), Eqv (.pointer (some ⟨bk, 0, none⟩)), Eqv (.pointer (some ⟨bk, 0 + 0, none⟩)), Eqv (.map (some mb)), Eqv (.agg (cM a k).toArray)] Ty.mixed rfl rfl rfl (by kernel_rfl) rfl rfl (fun w w' hw hb => hw.step hb) ⟨fun _ _ _ h _ => h, fun _ _ _ h _ => h, fun _ _ _ h _ => h, fun _ _ _ h _ => h, fun _ _ _ h _ => h, trivial⟩ ?hstep ?htail
      case hstep =>
        refine ⟨fun wi => ?_, fun wi => ?_, fun wi => ?_, fun wi => ?_, fun wi => ?_, trivial⟩
        · skip
          refine Fin.nil ?_
          refine J.move rfl rfl ?_
          exact J.finP rfl
        · skip
          refine Fin.consE rfl (Fin.nil ?_)
          refine J.nilCheck rfl rfl ?_
          exact J.finP rfl
        · skip
          refine Fin.consE rfl (Fin.nil ?_)
          refine J.fieldAddr Ty.fd90_0 rfl rfl ?_
          exact J.finP rfl
        · skip
          refine Fin.consE rfl (Fin.nil ?_)
          refine J.load1 (v := .map (some mb)) Ty.a88 rfl (fun w1 hw => by rw [cell_of (hw.2.own ((bk, cb [.map (some mb)] 90)) (by repeat first | exact .head _ | apply List.Mem.tail | apply List.mem_append_right))]; rfl) rfl ?_
          exact J.finP rfl
        · skip
          refine Fin.nil ?_
          refine J.loadA (vs := cM a k) Ty.a92 Ty.s92 rfl rfl (fun w1 hw => Cells.of_block (hw.2.own ((b4, cb (cM a k) 92)) (by repeat first | exact .head _ | apply List.Mem.tail | apply List.mem_append_right)) rfl) rfl ?_
          exact J.finP rfl
      case htail =>
        refine Fin.consE rfl (Fin.consE rfl (Fin.consE rfl (Fin.consE rfl (Fin.consE rfl (Fin.nil ?_)))))
        refine J.delB (l' := fun es' => (b4, cb (cM a k) 92) :: (r0, o1) :: (bk, cb [.map (some mb)] 90) :: (mb, .map es' ck) :: []) Ty.u88 Ty.KM Ty.keyM rfl rfl hI.bk (fun es' => (by repeat first | exact .here | apply Up.there)) (fun es2 hT2 hs2 => ?_)
        refine J.nil ?_
        refine JX.blockN ?_
        refine JX.thenN ?_
        refine JX.again (⟨es2, updF st.F a k zV, st.sn ++ [en.born], o1⟩ : RetS) ?_ ?_ ?_
        · simp only [List.length_append, List.length_singleton]; omega
        · exact ⟨rfl, rfl, rfl, trivial⟩
        · exact fun w1 hw => ⟨hI.del hem hnb hon hk ha hT2 hs2, hw.drop (List.sublist_cons_self _ _)⟩
    · skip
      have ha : a ∈ fs := by simpa using h2
      refine JC.skip ?_
      refine JX.blockN ?_
      refine JX.thenN ?_
      refine JX.again (⟨st.es, st.F, st.sn ++ [en.born], o1⟩ : RetS) ?_ ?_ ?_
      · simp only [List.length_append, List.length_singleton]; omega
      · exact ⟨rfl, rfl, rfl, trivial⟩
      · exact fun w1 hw => ⟨hI.keep hem hnb hon hk ha, hw.drop (List.sublist_cons_self _ _)⟩
  · skip
    have hnone : eo = none := by cases eo with | none => rfl | some e => cases h1
    subst hnone
    obtain ⟨rfl, hall⟩ := hN
    have hfin := hI.done hall
    refine JC.exit ?_
    refine JX.thenE ?_
    refine JX.thenE ?_
    refine JX.blockE ?_
    refine JX.end0 rfl (fun w1 hw => ?_)
    exact ⟨st.es, rfl, hfin, hw.drop (List.sublist_cons_self _ _)⟩

end Go.Proofs.Ytbafhclandendaa
/-
  What is due: the program's book: contract.
-/
namespace Go.Proofs.Ytbafhclandendaa
open Go.J Go.RowKit
set_option linter.unusedVariables false
set_option linter.unusedSimpArgs false
set_option maxRecDepth 8000
structure ItV where
  key : IDV
  ver : WV
  val : List UInt8
/-- an item, and where its value lies -/
structure IX where
  it : ItV
  a : Option Addr
  c : Nat
abbrev IX.v (x : IX) : Value := .slice x.a x.it.val.length x.c
abbrev cIT (x : ItV) (v : Value) : List Value := cI x.key ++ cV x.ver ++ [v]
abbrev cIX (x : IX) : List Value := cIT x.it x.v
abbrev fIX (xs : List IX) : List Value := xs.flatMap cIX
/-- what is due, and the blocks of its value -/
structure DX where
  to : IDV
  it : ItV
  a : Option Addr
  c : Nat
  lp : List (Nat × Obj)
abbrev DX.v (x : DX) : Value := .slice x.a x.it.val.length x.c
abbrev cDX (d : DX) : List Value := cI d.to ++ cIT d.it d.v
abbrev fDX (ds : List DX) : List Value := ds.flatMap cDX
def DX.ok (d : DX) : Prop := Vec 5 1 d.v d.it.val.length (d.it.val.map u8) d.lp
def lpsD (ds : List DX) : List (Nat × Obj) := ds.flatMap (·.lp)
theorem lps_snoc (ds : List DX) (d : DX) : lpsD (ds ++ [d]) = lpsD ds ++ d.lp := by simp [lpsD]
noncomputable def dueOf (F : BF) (x : IX) (l : List IDV) : List (IDV × IX) := (l.filter (fun id => decide (F id x.it.key ≠ x.it.ver))).map (fun id => (id, x))
noncomputable def dueOne (F : BF) (self : IDV) (fs : List IDV) (x : IX) : List (IDV × IX) := dueOf F x (owedV self fs x.it.key)
noncomputable def dueL (F : BF) (self : IDV) (fs : List IDV) (xs : List IX) : List (IDV × IX) := xs.flatMap (dueOne F self fs)
theorem due_snoc {F : BF} {x : IX} {l : List IDV} {k : Nat} {id : IDV} (h : l[k]? = some id) : dueOf F x (l.take (k + 1)) = dueOf F x (l.take k) ++ (if F id x.it.key = x.it.ver then [] else [(id, x)]) := by
  rw [List.take_add_one, h]
  unfold dueOf
  by_cases hv : F id x.it.key = x.it.ver
  · simp [hv]
  · simp [hv]
theorem dueL_snoc {F : BF} {self : IDV} {fs : List IDV} {xs : List IX} {i : Nat} {x : IX} (h : xs[i]? = some x) : dueL F self fs (xs.take (i + 1)) = dueL F self fs (xs.take i) ++ dueOne F self fs x := by
  rw [List.take_add_one, h]
  simp [dueL]
theorem dueOf_len (F : BF) (x : IX) (l : List IDV) : (dueOf F x l).length ≤ l.length := by
  unfold dueOf
  rw [List.length_map]
  exact List.length_filter_le _ _
theorem dueL_len {F : BF} {self : IDV} {fs : List IDV} (hf : fs.length ≤ 12) : ∀ xs : List IX, (dueL F self fs xs).length ≤ xs.length * 12
  | [] => by simp [dueL]
  | x :: xs => by
    have h1 := dueL_len (F := F) (self := self) hf xs
    have h2 := dueOf_len F x (owedV self fs x.it.key)
    have h3 := owed_len self fs x.it.key
    unfold dueL at h1 ⊢
    rw [List.flatMap_cons, List.length_append]
    show (dueOf F x (owedV self fs x.it.key)).length + _ ≤ _
    simp only [List.length_cons]
    omega
/-- two lists of what is due say the same -/
def Sh (ds : List DX) (l : List (IDV × IX)) : Prop := ds.map (fun d => (d.to, d.it)) = l.map (fun p => (p.1, p.2.it))
theorem Sh.len {ds : List DX} {l : List (IDV × IX)} (h : Sh ds l) : ds.length = l.length := by
  have := congrArg List.length h
  simpa using this
theorem Sh.snoc {ds : List DX} {l : List (IDV × IX)} (h : Sh ds l) (d : DX) (p : IDV × IX) (h1 : d.to = p.1) (h2 : d.it = p.2.it) : Sh (ds ++ [d]) (l ++ [p]) := by
  unfold Sh at h ⊢
  rw [List.map_append, List.map_append, h]
  simp [h1, h2]
structure DuS where
  i : Nat
  v : Value
  ds : List DX
  lp : List (Nat × Obj)
def DInv (l : List (IDV × IX)) (s : DuS) : Prop := Sh s.ds l ∧ (∀ d, d ∈ s.ds → d.ok) ∧ Vec 61 50 s.v s.ds.length (fDX s.ds) s.lp
theorem one_cIT (x : ItV) (a : Option Addr) (n c : Nat) : ∀ v, v ∈ cIT x (.slice a n c) → v.oneCell' = true := by
  intro v hv
  rcases List.mem_append.1 hv with hv | hv
  · rcases List.mem_append.1 hv with hv | hv
    · exact one_cI _ v hv
    · exact one_cV _ v hv
  · rw [List.mem_singleton.1 hv]; rfl
theorem one_cDX (d : DX) : ∀ v, v ∈ cDX d → v.oneCell' = true := by
  intro v hv
  rcases List.mem_append.1 hv with hv | hv
  · exact one_cI _ v hv
  · exact one_cIT _ _ _ _ v hv
theorem DInv.snoc {l : List (IDV × IX)} {i j : Nat} {v v' : Value} {ds : List DX} {lp lp' : List (Nat × Obj)} (h : DInv l ⟨i, v, ds, lp⟩) (d : DX) (p : IDV × IX) (h1 : d.to = p.1) (h2 : d.it = p.2.it) (hd : d.ok) (hv : Vec 61 50 v' (ds.length + 1) (fDX ds ++ cDX d) lp') : DInv (l ++ [p]) ⟨j, v', ds ++ [d], lp'⟩ := by
  obtain ⟨a, b, c⟩ := h
  refine ⟨a.snoc d p h1 h2, fun e he => (List.mem_append.1 he).elim (b e) (fun h => by rw [List.mem_singleton.1 h]; exact hd), ?_⟩
  show Vec 61 50 v' (ds ++ [d]).length (fDX (ds ++ [d])) lp'
  rw [List.length_append, show fDX (ds ++ [d]) = fDX ds ++ cDX d by simp only [fDX, List.flatMap_append, List.flatMap_cons, List.flatMap_nil, List.append_nil]]
  exact hv
theorem DInv.at {l : List (IDV × IX)} {i j : Nat} {v : Value} {ds : List DX} {lp : List (Nat × Obj)} (h : DInv l ⟨i, v, ds, lp⟩) : DInv l ⟨j, v, ds, lp⟩ := h
theorem st_snoc {w w1 : World} {S : List Nat} {A B : List (Nat × Obj)} {ds : List DX} {d : DX} (h : St w S (A ++ ((lpsD ds ++ d.lp) ++ B)) w1) : St w S (A ++ (lpsD (ds ++ [d]) ++ B)) w1 := by
  rw [lps_snoc]
  exact h
theorem due_no {F : BF} {x : IX} {l : List IDV} {k : Nat} {id : IDV} {s : DuS} {q : List (IDV × IX)} (h : l[k]? = some id) (hv : F id x.it.key = x.it.ver) (hs : DInv (q ++ dueOf F x (l.take k)) s) : DInv (q ++ dueOf F x (l.take (k + 1))) s := by
  rw [due_snoc h, if_pos hv, List.append_nil]
  exact hs
theorem due_yes {F : BF} {x : IX} {l : List IDV} {k : Nat} {id : IDV} {s : DuS} {q : List (IDV × IX)} (h : l[k]? = some id) (hv : ¬ F id x.it.key = x.it.ver) (hs : DInv ((q ++ dueOf F x (l.take k)) ++ [(id, x)]) s) : DInv (q ++ dueOf F x (l.take (k + 1))) s := by
  rw [due_snoc h, if_neg hv, ← List.append_assoc]
  exact hs
theorem cDX_len (d : DX) : (cDX d).length = 1 * 50 := rfl
theorem zItm : zeroT Try.prog 53 = some (.agg (cIT ⟨zI, zV, []⟩ (.slice none 0 0)).toArray) := by kernel_rfl
theorem zDue : zeroT Try.prog 61 = some (.agg (cI zI ++ cIT ⟨zI, zV, []⟩ (.slice none 0 0)).toArray) := by kernel_rfl

set_option maxHeartbeats 2000000 in
theorem due_spec (bk mb : Nat) (F : BF) (es : Array MapEntry) (ck : Nat) (self : IDV) (v : Value) (fs : List IDV) (v2 : Value) (xs : List IX) (w : World) (hr : Row w v fs.length (fI fs)) (hl : fs.length ≤ 12) (hr2 : Row w v2 xs.length (fIX xs)) (hl2 : xs.length ≤ 12) (hrows : ∀ x, x ∈ xs → Row w x.v x.it.val.length (x.it.val.map u8)) (hokx : ∀ x, x ∈ xs → okN x.it.ver.n) (hlen : ∀ x, x ∈ xs → x.it.val.length ≤ 140737488355328) (hbk : w.heap[bk]? = some (cb [.map (some mb)] 90)) (hmb : w.heap[mb]? = some (.map es ck)) (hT : Bk F es ck) :
    Calls Try.prog 30 [.pointer (some ⟨bk, 0, none⟩), .agg (cI self).toArray, v, v2].toArray w fun r w' => ∃ s : DuS, r = .returned s.v ∧ DInv (dueL F self fs xs) s ∧ St w [] (s.lp ++ lpsD s.ds) w' := by
  obtain ⟨ai, ci, rfl, hci, _⟩ := _root_.id hr2
  refine calls_of_J (args := [.pointer (some ⟨bk, 0, none⟩), .agg (cI self).toArray, v, .slice ai xs.length ci]) (e := [(0, .pointer (some ⟨bk, 0, none⟩)), (1, .agg (cI self).toArray), (2, v), (3, .slice ai xs.length ci)]) Try.func30 rfl rfl ⟨rfl, rfl, rfl, rfl, trivial⟩ (St.start w) ?_
  refine JC.seq (fun K0 hK0 => ?_)
  refine JC.region ?_
  refine J.box rfl rfl rfl (fun b5 => ?_)
  refine J.assign rfl rfl ?_
  refine J.nil ?_
  refine JX.thenN (hK0 _ _ ?_)
  refine JC.seq (fun K1 hK1 => ?_)
  refine JC.seq (fun K2 hK2 => ?_)
  refine JC.region ?_
  refine J.move rfl rfl ?_
  refine J.eqNil Ty.u39 rfl rfl rfl ?_
  refine J.nil ?_
  refine JX.thenN (hK2 _ _ ?_)
  first | refine JC.condF rfl ?_ | refine JC.cond rfl (fun h => by first | (exfalso; simp at h; omega) | (simp at h)) (fun _ => ?_)
  refine JC.skip ?_
  refine JX.thenN (hK1 _ _ ?_)
  refine JC.seq (fun K3 hK3 => ?_)
  refine JC.region ?_
  refine J.assign rfl rfl ?_
  refine J.nil ?_
  refine JX.thenN (hK3 _ _ ?_)
  refine JC.seq (fun K4 hK4 => ?_)
  refine JC.seq (fun K5 hK5 => ?_)
  refine JC.region ?_
  refine J.move rfl rfl ?_
  refine J.lenS rfl Ty.u47 rfl rfl ?_
  refine J.move rfl rfl ?_
  refine J.nil ?_
  refine JX.thenN (hK5 _ _ ?_)
  refine JC.block ?_
  refine JC.conseq (JC.cov (f := (fun st => [(0, .pointer (some ⟨bk, 0, none⟩)), (2, v), (5, .pointer (some ⟨b5, 0, none⟩)), (9, st.v), (17, .slice ai xs.length ci), (18, .int .i64 ((xs.length : Nat) : Int)), (19, .int .i64 ((st.i : Nat) : Int))]) (⟨0, .slice none 0 0, [], []⟩ : DuS)) ⟨rfl, rfl, rfl, rfl, rfl, rfl, rfl, trivial⟩ (JC.loop (α := DuS) (fun st => [(0, .pointer (some ⟨bk, 0, none⟩)), (2, v), (5, .pointer (some ⟨b5, 0, none⟩)), (9, st.v), (17, .slice ai xs.length ci), (18, .int .i64 ((xs.length : Nat) : Int)), (19, .int .i64 ((st.i : Nat) : Int))]) (fun st w' => (st.i ≤ xs.length ∧ DInv (dueL F self fs (xs.take st.i)) st) ∧ St w [] (st.lp ++ (lpsD st.ds ++ ((b5, cb (cI self) 23) :: []))) w') (fun st => xs.length - st.i) (⟨0, .slice none 0 0, [], []⟩ : DuS) (fun st => ?_))) (fun w hw => ⟨⟨Nat.zero_le _, rfl, by simp, Vec.nil _ _⟩, hw⟩)
  obtain ⟨i, vo, ds, lp⟩ := st
  simp only
  refine JC.pr (fun hI => ?_)
  obtain ⟨hi, hsh, hok, hvd⟩ := hI
  simp only at hi hsh hok hvd ⊢
  refine JC.seq (fun K6 hK6 => ?_)
  refine JC.region ?_
  refine J.bin rfl rfl rfl rfl ?_
  refine J.nil ?_
  refine JX.thenN (hK6 _ _ ?_)
  refine JC.seq (fun K7 hK7 => ?_)
  refine JC.cond rfl (fun h1 => ?_) (fun h1 => ?_)
  · skip
    have hlt : i < xs.length := by simp at h1; omega
    have hflx : (fIX xs).length = xs.length * 34 := fG_length (c := cIX) (sz := 34) (fun _ => rfl) xs
    obtain ⟨qx, ox, cx', hqe, _, _⟩ := Row.some hr2 (by omega)
    simp only [Value.slice.injEq] at hqe
    obtain ⟨hax, _, _⟩ := hqe
    obtain ⟨xt, hx⟩ : ∃ x, xs[i]? = some x := ⟨_, List.getElem?_eq_getElem hlt⟩
    have hxm := List.mem_of_getElem? hx
    have h2s : Row w (.slice (some ⟨qx, ox, none⟩) xs.length ci) xs.length (fIX xs) := by rw [← hax]; exact hr2
    refine JC.skip ?_
    refine JX.thenN (hK7 _ _ ?_)
    refine JC.seq (fun K8 hK8 => ?_)
    refine JC.block ?_
    refine JC.seq (fun K9 hK9 => ?_)
    refine JC.region ?_
    refine J.indexAddrS Ty.el47 Ty.s53 ((rfl : ev _ _ = some (.slice ai xs.length ci)).trans (congrArg (fun a => some (Value.slice a xs.length ci)) hax)) rfl (by omega) (by omega) rfl ?_
    refine J.loadA (vs := cIX xt) Ty.a53 Ty.s53 rfl rfl (fun w1 hw => rowG_at (c := cIX) (sz := 34) (fun _ => rfl) (h2s.below (hw.drop (List.nil_sublist _)).below) hx (by simp)) rfl ?_
    refine J.alloc zItm rfl rfl (fun b11 => ?_)
    refine J.storeW (cs := cIT ⟨zI, zV, []⟩ (.slice none 0 0)) (vs := cIX xt) Ty.s53 rfl rfl rfl rfl rfl (one_cIT _ _ _ _) .here ?_
    refine J.nil ?_
    refine JX.thenN (hK9 _ _ ?_)
    refine JC.seq (fun K10 hK10 => ?_)
    refine JC.region ?_
    refine J.loadA (vs := cI self) Ty.a23 Ty.s23 rfl rfl (fun w1 hw => Cells.of_block (hw.own ((b5, cb (cI self) 23)) (by repeat first | exact .head _ | apply List.Mem.tail | apply List.mem_append_right)) rfl) rfl ?_
    refine J.move rfl rfl ?_
    refine J.fieldAddr Ty.fd53_0 rfl rfl ?_
    refine J.loadA (vs := cI xt.it.key) Ty.a23 Ty.s23 rfl rfl (fun w1 hw => Cells.of_block (hw.own ((b11, cb (cIX xt) 53)) (by repeat first | exact .head _ | apply List.Mem.tail | apply List.mem_append_right)) rfl) rfl ?_
    refine J.perm ([] ++ ((b11, cb (cIX xt) 53) :: (lp ++ (lpsD ds ++ ((b5, cb (cI self) 23) :: []))))) (.refl _) ?_
    refine J.callS (α := Value × List (Nat × Obj)) (V := (·.1)) (Pr := fun x => Vec 23 16 x.1 (owedV self fs xt.it.key).length (fI (owedV self fs xt.it.key)) x.2) (L := (·.2)) (l1 := []) Ty.bd19 rfl rfl (fun w1 hw => owed_spec self _ fs xt.it.key w1 (hr.below (hw.drop (List.nil_sublist _)).below) (by omega)) (fun x hvw => ?_)
    obtain ⟨vw, lo⟩ := x
    simp only at hvw ⊢
    obtain ⟨ao, co_, rfl, hco⟩ := hvw.form
    have hvo := hvw
    refine J.lenS rfl Ty.u24 rfl rfl ?_
    refine J.move rfl rfl ?_
    refine J.nil ?_
    refine JX.thenN (hK10 _ _ ?_)
    refine JC.block ?_
    refine JC.conseq (JC.cov (f := (fun st => [(0, .pointer (some ⟨bk, 0, none⟩)), (2, v), (5, .pointer (some ⟨b5, 0, none⟩)), (9, st.v), (17, .slice ai xs.length ci), (18, .int .i64 ((xs.length : Nat) : Int)), (19, .int .i64 ((i : Nat) : Int)), (11, .pointer (some ⟨b11, 0, none⟩)), (27, .slice ao (owedV self fs xt.it.key).length co_), (28, .int .i64 (((owedV self fs xt.it.key).length : Nat) : Int)), (29, .int .i64 ((st.i : Nat) : Int))]) (⟨0, vo, ds, lp⟩ : DuS)) ⟨rfl, rfl, rfl, rfl, rfl, rfl, rfl, rfl, rfl, rfl, rfl, trivial⟩ (JC.loop (α := DuS) (fun st => [(0, .pointer (some ⟨bk, 0, none⟩)), (2, v), (5, .pointer (some ⟨b5, 0, none⟩)), (9, st.v), (17, .slice ai xs.length ci), (18, .int .i64 ((xs.length : Nat) : Int)), (19, .int .i64 ((i : Nat) : Int)), (11, .pointer (some ⟨b11, 0, none⟩)), (27, .slice ao (owedV self fs xt.it.key).length co_), (28, .int .i64 (((owedV self fs xt.it.key).length : Nat) : Int)), (29, .int .i64 ((st.i : Nat) : Int))]) (fun st w' => (st.i ≤ (owedV self fs xt.it.key).length ∧ DInv (dueL F self fs (xs.take i) ++ dueOf F xt ((owedV self fs xt.it.key).take st.i)) st) ∧ St w [] (st.lp ++ (lpsD st.ds ++ (lo ++ ((b11, cb (cIX xt) 53) :: (b5, cb (cI self) 23) :: [])))) w') (fun st => (owedV self fs xt.it.key).length - st.i) (⟨0, vo, ds, lp⟩ : DuS) (fun st => ?_))) (fun w hw => ⟨⟨Nat.zero_le _, by show Sh ds _; rw [show dueOf F xt ((owedV self fs xt.it.key).take 0) = [] by rfl, List.append_nil]; exact hsh, hok, hvd⟩, hw.perm (by (refine perm_cnt (fun _ => ?_)); simp only [cntB_append, cntB_cons, cntB_nil, Nat.add_zero, Nat.zero_add]; try ac_rfl)⟩)
    obtain ⟨k, vk, dk, lk⟩ := st
    simp only
    refine JC.pr (fun hI => ?_)
    obtain ⟨hk, hshk, hokk, hvk⟩ := hI
    simp only at hk hshk hokk hvk ⊢
    refine JC.seq (fun K11 hK11 => ?_)
    refine JC.region ?_
    refine J.bin rfl rfl rfl rfl ?_
    refine J.nil ?_
    refine JX.thenN (hK11 _ _ ?_)
    refine JC.seq (fun K12 hK12 => ?_)
    refine JC.cond rfl (fun h2 => ?_) (fun h2 => ?_)
    · skip
      have hlk : k < (owedV self fs xt.it.key).length := by simp at h2; omega
      obtain ⟨id, hid⟩ : ∃ y, (owedV self fs xt.it.key)[k]? = some y := ⟨_, List.getElem?_eq_getElem hlk⟩
      obtain ⟨qo, rfl⟩ : ∃ q, ao = some ⟨q, 0, none⟩ := by
        rcases hvo.2 with ⟨_, h9, _⟩ | ⟨q, c9, sp, h9, _⟩
        · omega
        · simp only [Value.slice.injEq] at h9; exact ⟨q, h9.1⟩
      have hbd := dueL_len (F := F) (self := self) hl (xs.take i)
      have hbd2 := dueOf_len F xt ((owedV self fs xt.it.key).take k)
      have hol := owed_len self fs xt.it.key
      have hdl := hshk.len
      rw [List.length_append] at hdl
      rw [List.length_take] at hbd hbd2
      refine JC.skip ?_
      refine JX.thenN (hK12 _ _ ?_)
      refine JC.seq (fun K13 hK13 => ?_)
      refine JC.block ?_
      refine JC.seq (fun K14 hK14 => ?_)
      refine JC.region ?_
      refine J.indexAddrS Ty.el24 Ty.s23 rfl rfl (by omega) (by omega) rfl ?_
      refine J.loadA (vs := cI id) Ty.a23 Ty.s23 rfl rfl (fun w1 hw => rowF_at (o := 0) (vec_rowM hvo hw (fun q hq => by first | (simp [hq]; done) | (simp at hq; simp [hq]; done) | (simp at hq; subst hq; simp))) hid (by simp)) rfl ?_
      refine J.alloc Ty.zID rfl rfl (fun b13 => ?_)
      refine J.storeW (cs := cI zI) (vs := cI id) Ty.s23 rfl rfl rfl rfl rfl (one_cI _) .here ?_
      refine J.nil ?_
      refine JX.thenN (hK14 _ _ ?_)
      refine JC.seq (fun K15 hK15 => ?_)
      apply JC.drawL 12 [Eqv (.pointer (some ⟨bk, 0, none⟩)), Eqv (.pointer (some ⟨bk, 0, none⟩)), Eqv (.pointer (some ⟨bk, 0 + 0, none⟩)), Eqv (.map (some mb)), Eqv (.agg (cI id).toArray), Eqv (.pointer (some ⟨b11, 0 + 0, none⟩)), Eqv (.agg (cI xt.it.key).toArray), Eqv (.agg (cM id xt.it.key).toArray), Eqv (.agg (cV (F id xt.it.key)).toArray), Eqv (.pointer (some ⟨b11, 0 + 16, none⟩)), Eqv (.agg (cV xt.it.ver).toArray), Eqv (.bool (!decide (F id xt.it.key = xt.it.ver)))] Ty.mixed rfl rfl rfl (by kernel_rfl) rfl rfl (fun w w' hw hb => hw.step hb) ⟨fun _ _ _ h _ => h, fun _ _ _ h _ => h, fun _ _ _ h _ => h, fun _ _ _ h _ => h, fun _ _ _ h _ => h, fun _ _ _ h _ => h, fun _ _ _ h _ => h, fun _ _ _ h _ => h, fun _ _ _ h _ => h, fun _ _ _ h _ => h, fun _ _ _ h _ => h, fun _ _ _ h _ => h, trivial⟩ ?hstep ?htail
      case hstep =>
        refine ⟨fun wi => ?_, fun wi => ?_, fun wi => ?_, fun wi => ?_, fun wi => ?_, fun wi => ?_, fun wi => ?_, fun wi => ?_, fun wi => ?_, fun wi => ?_, fun wi => ?_, fun wi => ?_, trivial⟩
        · skip
          refine Fin.nil ?_
          refine J.move rfl rfl ?_
          exact J.finP rfl
        · skip
          refine Fin.consE rfl (Fin.nil ?_)
          refine J.nilCheck rfl rfl ?_
          exact J.finP rfl
        · skip
          refine Fin.consE rfl (Fin.nil ?_)
          refine J.fieldAddr Ty.fd90_0 rfl rfl ?_
          exact J.finP rfl
        · skip
          refine Fin.consE rfl (Fin.nil ?_)
          refine J.load1 (v := .map (some mb)) Ty.a88 rfl (fun w1 hw => by rw [cell_of (by rw [hw.2.keep bk (lt_of_some hbk) (by simp)]; exact hbk)]; rfl) rfl ?_
          exact J.finP rfl
        · skip
          refine Fin.nil ?_
          refine J.loadA (vs := cI id) Ty.a23 Ty.s23 rfl rfl (fun w1 hw => Cells.of_block (hw.2.own ((b13, cb (cI id) 23)) (by repeat first | exact .head _ | apply List.Mem.tail | apply List.mem_append_right)) rfl) rfl ?_
          exact J.finP rfl
        · skip
          refine Fin.nil ?_
          refine J.fieldAddr Ty.fd53_0 rfl rfl ?_
          exact J.finP rfl
        · skip
          refine Fin.consE rfl (Fin.nil ?_)
          refine J.loadA (vs := cI xt.it.key) Ty.a23 Ty.s23 rfl rfl (fun w1 hw => Cells.of_block (hw.2.own ((b11, cb (cIX xt) 53)) (by repeat first | exact .head _ | apply List.Mem.tail | apply List.mem_append_right)) rfl) rfl ?_
          exact J.finP rfl
        · skip
          refine Fin.consE rfl (Fin.consE rfl (Fin.nil ?_))
          refine J.buildS (cs := cM id xt.it.key) Ty.pl92 Ty.zMk rfl (by kernel_rfl) rfl ?_
          exact J.finP rfl
        · skip
          refine Fin.consE rfl (Fin.consE rfl (Fin.nil ?_))
          refine J.lookB Ty.u88 Ty.KM Ty.keyM Ty.zVr rfl rfl hT (fun w1 hw => (by rw [hw.2.keep mb (lt_of_some hmb) (by simp)]; exact hmb)) rfl ?_
          exact J.finP rfl
        · skip
          refine Fin.nil ?_
          refine J.fieldAddr Ty.fd53_1 rfl rfl ?_
          exact J.finP rfl
        · skip
          refine Fin.consE rfl (Fin.nil ?_)
          refine J.loadA (vs := cV xt.it.ver) Ty.a46 Ty.s46 rfl rfl (fun w1 hw => Cells.of_block (hw.2.own ((b11, cb (cIX xt) 53)) (by repeat first | exact .head _ | apply List.Mem.tail | apply List.mem_append_right)) rfl) rfl ?_
          exact J.finP rfl
        · skip
          refine Fin.consE rfl (Fin.consE rfl (Fin.nil ?_))
          refine J.neV rfl rfl (hT.ok _ _) (hokx xt hxm) rfl ?_
          exact J.finP rfl
      case htail =>
        refine Fin.consE rfl (Fin.consE rfl (Fin.consE rfl (Fin.consE rfl (Fin.consE rfl (Fin.consE rfl (Fin.consE rfl (Fin.consE rfl (Fin.consE rfl (Fin.consE rfl (Fin.consE rfl (Fin.consE rfl (Fin.nil ?_))))))))))))
        refine J.nil ?_
        refine JX.thenN (hK15 _ _ ?_)
        refine JC.cond rfl (fun h3 => ?_) (fun h3 => ?_)
        · skip
          have hne : ¬ F id xt.it.key = xt.it.ver := by simpa using h3
          refine JC.seq (fun K16 hK16 => ?_)
          refine JC.region ?_
          refine J.loadA (vs := cIX xt) Ty.a53 Ty.s53 rfl rfl (fun w1 hw => Cells.of_block (hw.own ((b11, cb (cIX xt) 53)) (by repeat first | exact .head _ | apply List.Mem.tail | apply List.mem_append_right)) rfl) rfl ?_
          refine J.alloc zItm rfl rfl (fun b14 => ?_)
          refine J.storeW (cs := cIT ⟨zI, zV, []⟩ (.slice none 0 0)) (vs := cIX xt) Ty.s53 rfl rfl rfl rfl rfl (one_cIT _ _ _ _) .here ?_
          refine J.nil ?_
          refine JX.thenN (hK16 _ _ ?_)
          refine JC.seq (fun K17 hK17 => ?_)
          refine JC.region ?_
          refine J.fieldAddr Ty.fd53_2 rfl rfl ?_
          refine J.load1 (v := .slice xt.a xt.it.val.length xt.c) Ty.a51 rfl (fun w1 hw => by rw [cell_of (hw.own ((b11, cb (cIX xt) 53)) (by repeat first | exact .head _ | apply List.Mem.tail | apply List.mem_append_right))]; rfl) rfl ?_
          refine J.append (lp := []) (xs := []) (ys := xt.it.val.map u8) (k := 0) (m := xt.it.val.length) Ty.el51 Ty.s5 Ty.b5 Ty.z5 rfl (.inl ⟨5, Ty.u51⟩) rfl rfl (Vec.nil _ _) (fun w1 hw => .inl ((hrows xt hxm).below (hw.drop (List.nil_sublist _)).below)) (by simp) (by simp [Value.oneCell']) (by have := hlen xt hxm; omega) (by have := hlen xt hxm; omega) rfl (fun v8n lp8 hv8 => ?_)
          rw [Nat.zero_add, List.nil_append] at hv8
          obtain ⟨a8, c8, rfl, hc8⟩ := hv8.form
          refine J.perm ((b14, cb (cIT xt.it (.slice xt.a xt.it.val.length xt.c)) 53) :: (b13, cb (cI id) 23) :: (lp8 ++ (lk ++ (lpsD dk ++ (lo ++ ((b11, cb (cIX xt) 53) :: (b5, cb (cI self) 23) :: [])))))) (by (refine perm_cnt (fun _ => ?_)); simp only [cntB_append, cntB_cons, cntB_nil, Nat.add_zero, Nat.zero_add]; try ac_rfl) ?_
          refine J.fieldAddr Ty.fd53_2 rfl rfl ?_
          refine J.storeO (cs := cIX xt) (vs := [.slice a8 xt.it.val.length c8]) Ty.s51 rfl rfl rfl rfl (by simp [Value.oneCell']) .here (by simp) ?_
          refine J.perm ((b14, cb (cIT xt.it (.slice a8 xt.it.val.length c8)) 53) :: (b13, cb (cI id) 23) :: (lp8 ++ (lk ++ (lpsD dk ++ (lo ++ ((b11, cb (cIX xt) 53) :: (b5, cb (cI self) 23) :: [])))))) (.refl _) ?_
          refine J.nil ?_
          refine JX.thenN (hK17 _ _ ?_)
          refine JC.region ?_
          refine J.move rfl rfl ?_
          refine J.loadA (vs := cI id) Ty.a23 Ty.s23 rfl rfl (fun w1 hw => Cells.of_block (hw.own ((b13, cb (cI id) 23)) (by repeat first | exact .head _ | apply List.Mem.tail | apply List.mem_append_right)) rfl) rfl ?_
          refine J.loadA (vs := cIT xt.it (.slice a8 xt.it.val.length c8)) Ty.a53 Ty.s53 rfl rfl (fun w1 hw => Cells.of_block (hw.own ((b14, cb (cIT xt.it (.slice a8 xt.it.val.length c8)) 53)) (by repeat first | exact .head _ | apply List.Mem.tail | apply List.mem_append_right)) rfl) rfl ?_
          refine J.buildS (cs := cDX (⟨id, xt.it, a8, c8, lp8⟩ : DX)) Ty.pl61 zDue rfl (by kernel_rfl) rfl ?_
          refine J.buildSl (cs := cDX (⟨id, xt.it, a8, c8, lp8⟩ : DX)) Ty.el56 Ty.s61 zDue rfl rfl rfl rfl (by kernel_rfl) rfl rfl (fun b54 => ?_)
          refine J.perm (lk ++ ((b54, cb (cDX (⟨id, xt.it, a8, c8, lp8⟩ : DX)) 61) :: (b14, cb (cIT xt.it (.slice a8 xt.it.val.length c8)) 53) :: (b13, cb (cI id) 23) :: (lp8 ++ (lpsD dk ++ (lo ++ ((b11, cb (cIX xt) 53) :: (b5, cb (cI self) 23) :: [])))))) (by (refine perm_cnt (fun _ => ?_)); simp only [cntB_append, cntB_cons, cntB_nil, Nat.add_zero, Nat.zero_add]; try ac_rfl) ?_
          refine J.append (lp := lk) (xs := fDX dk) (ys := cDX (⟨id, xt.it, a8, c8, lp8⟩ : DX)) (k := dk.length) (m := 1) Ty.el56 Ty.s61 Ty.b61 zDue rfl (.inl ⟨61, Ty.u56⟩) rfl rfl hvk (fun w1 hw => .inl (Row.own (cs := cDX (⟨id, xt.it, a8, c8, lp8⟩ : DX)) (tb := 61) (fr := (0, 0)) hw (List.mem_append_right _ (.head _)) (List.take_of_length_le (Nat.le_refl _)) (Nat.le_refl _))) (cDX_len _) (one_cDX _) (by omega) (by omega) rfl (fun v9 lp9 hv9 => ?_)
          refine J.assign rfl rfl ?_
          refine J.nil ?_
          refine JX.blockN ?_
          refine JX.thenN (hK13 _ _ ?_)
          refine JC.region ?_
          (first | refine J.addN rfl rfl (by omega) (by omega) rfl ?_ | refine J.bin rfl rfl rfl rfl ?_)
          refine J.move rfl rfl ?_
          refine J.nil ?_
          have hI2 : DInv (dueL F self fs (xs.take i) ++ dueOf F xt ((owedV self fs xt.it.key).take (k + 1))) ⟨k + 1, v9, dk ++ [(⟨id, xt.it, a8, c8, lp8⟩ : DX)], lp9⟩ := due_yes hid hne (DInv.snoc (i := k) ⟨hshk, hokk, hvk⟩ (⟨id, xt.it, a8, c8, lp8⟩ : DX) (id, xt) rfl rfl hv8 hv9)
          refine JX.thenN ?_
          refine JX.again (⟨k + 1, v9, dk ++ [(⟨id, xt.it, a8, c8, lp8⟩ : DX)], lp9⟩ : DuS) ?_ ?_ ?_
          · simp only; omega
          · exact ⟨rfl, rfl, rfl, rfl, rfl, rfl, rfl, rfl, rfl, rfl, rfl, trivial⟩
          · exact fun w1 hw => ⟨⟨hlk, hI2⟩, st_snoc ((hw.perm (l' := [(b54, cb (cDX (⟨id, xt.it, a8, c8, lp8⟩ : DX)) 61), (b14, cb (cIT xt.it (.slice a8 xt.it.val.length c8)) 53), (b13, cb (cI id) 23)] ++ (lp9 ++ ((lpsD dk ++ lp8) ++ (lo ++ ((b11, cb (cIX xt) 53) :: (b5, cb (cI self) 23) :: []))))) (by (refine perm_cnt (fun _ => ?_)); simp only [cntB_append, cntB_cons, cntB_nil, Nat.add_zero, Nat.zero_add]; try ac_rfl)).drop (List.sublist_append_right _ _))⟩
        · skip
          have hne : F id xt.it.key = xt.it.ver := by simpa using h3
          refine JC.skip ?_
          refine JX.blockN ?_
          refine JX.thenN (hK13 _ _ ?_)
          refine JC.region ?_
          (first | refine J.addN rfl rfl (by omega) (by omega) rfl ?_ | refine J.bin rfl rfl rfl rfl ?_)
          refine J.move rfl rfl ?_
          refine J.nil ?_
          have hI2 : DInv (dueL F self fs (xs.take i) ++ dueOf F xt ((owedV self fs xt.it.key).take (k + 1))) ⟨k + 1, vk, dk, lk⟩ := due_no hid hne ⟨hshk, hokk, hvk⟩
          refine JX.thenN ?_
          refine JX.again (⟨k + 1, vk, dk, lk⟩ : DuS) ?_ ?_ ?_
          · simp only; omega
          · exact ⟨rfl, rfl, rfl, rfl, rfl, rfl, rfl, rfl, rfl, rfl, rfl, trivial⟩
          · exact fun w1 hw => ⟨⟨hlk, hI2⟩, hw.drop (List.sublist_cons_self _ _)⟩
    · skip
      have hge : k = (owedV self fs xt.it.key).length := by simp at h2; omega
      rw [hge, List.take_of_length_le (Nat.le_refl _)] at hshk
      refine JC.exit ?_
      refine JX.thenE ?_
      refine JX.thenE ?_
      refine JX.blockE ?_
      refine JX.blockN ?_
      refine JX.thenN (hK8 _ _ ?_)
      refine JC.region ?_
      (first | refine J.addN rfl rfl (by omega) (by omega) rfl ?_ | refine J.bin rfl rfl rfl rfl ?_)
      refine J.move rfl rfl ?_
      refine J.nil ?_
      refine JX.thenN ?_
      refine JX.again (⟨i + 1, vk, dk, lk⟩ : DuS) ?_ ?_ ?_
      · simp only; omega
      · exact ⟨rfl, rfl, rfl, rfl, rfl, rfl, rfl, trivial⟩
      · exact fun w1 hw => ⟨⟨hlt, by show Sh dk _; rw [dueL_snoc hx]; exact hshk, hokk, hvk⟩, (hw.perm (l' := (lo ++ [(b11, cb (cIX xt) 53)]) ++ (lk ++ (lpsD dk ++ ((b5, cb (cI self) 23) :: [])))) (by (refine perm_cnt (fun _ => ?_)); simp only [cntB_append, cntB_cons, cntB_nil, Nat.add_zero, Nat.zero_add]; try ac_rfl)).drop (List.sublist_append_right _ _)⟩
  · skip
    have hge : i = xs.length := by simp at h1; omega
    rw [hge, List.take_of_length_le (Nat.le_refl _)] at hsh
    refine JC.exit ?_
    refine JX.thenE ?_
    refine JX.thenE ?_
    refine JX.blockE ?_
    refine JX.thenN (hK4 _ _ ?_)
    refine JC.seq (fun K18 hK18 => ?_)
    refine JC.region ?_
    refine J.move rfl rfl ?_
    refine J.assign rfl rfl ?_
    refine J.nil ?_
    refine JX.thenN (hK18 _ _ ?_)
    refine JC.ret ?_
    refine JX.ret1 rfl rfl (fun w hw => ?_)
    exact ⟨⟨xs.length, vo, ds, lp⟩, rfl, ⟨hsh, hok, hvd⟩, (hw.perm (l' := [(b5, cb (cI self) 23)] ++ (lp ++ lpsD ds)) (by (refine perm_cnt (fun _ => ?_)); simp only [cntB_append, cntB_cons, cntB_nil, Nat.add_zero, Nat.zero_add]; try ac_rfl)).drop (List.sublist_append_right _ _)⟩

end Go.Proofs.Ytbafhclandendaa
/-
  The document's book: what Mark and Retain do: contracts.
-/
namespace Go.Proofs.Ytbafhclandendaa
open Go.J Go.RowKit
set_option linter.unusedVariables false
set_option linter.unusedSimpArgs false
set_option maxRecDepth 8000
structure NV where
  id : IDV
  key : IDV
  ver : WV
abbrev cN (x : NV) : List Value := cI x.id ++ cI x.key ++ cV x.ver
abbrev fN (xs : List NV) : List Value := xs.flatMap cN
theorem zNt : zeroT Try.prog 94 = some (.agg (cN ⟨zI, zI, zV⟩).toArray) := by kernel_rfl
theorem one_cN (x : NV) : ∀ v, v ∈ cN x → v.oneCell' = true := by
  intro v hv
  rcases List.mem_append.1 hv with hv | hv
  · rcases List.mem_append.1 hv with hv | hv
    · exact one_cI _ v hv
    · exact one_cI _ v hv
  · exact one_cV _ v hv
theorem noteF_at {w : World} {b o c i q r : Nat} {R : List NV} {x : NV} {vs : List Value} (h : Row w (.slice (some ⟨b, o, none⟩) R.length c) R.length (fN R)) (hx : R[i]? = some x) (hv : ((cN x).drop r).take vs.length = vs) (hq : q = o + i * 49 + r) : Cells w b q vs := by
  have h1 := rowG_at (c := cN) (sz := 49) (fun _ => rfl) h hx (q := o + i * 49) rfl
  intro j hj
  have h2 : (((cN x).drop r).take vs.length)[j]? = vs[j]? := by rw [hv]
  rw [List.getElem?_take_of_lt hj, List.getElem?_drop] at h2
  have hlt : r + j < (cN x).length := by
    rcases Nat.lt_or_ge (r + j) (cN x).length with h | h
    · exact h
    · rw [List.getElem?_eq_none h, List.getElem?_eq_getElem hj] at h2
      cases h2
  have h3 := h1 (r + j) hlt
  rw [hq, show o + i * 49 + r + j = o + i * 49 + (r + j) by omega, h3, h2]
def keepN (id key : IDV) (n : NV) : Bool := !(decide (n.id = id) && decide (n.key = key))
def markR (R : List NV) (id key : IDV) (v : WV) : List NV := R.filter (keepN id key) ++ [⟨id, key, v⟩]
def keepF (fs : List IDV) (n : NV) : Bool := decide (n.id ∈ fs)
def retR (R : List NV) (fs : List IDV) : List NV := R.filter (keepF fs)
theorem vecN_snoc {v : Value} {l : List NV} {x : NV} {lp : List (Nat × Obj)} (h : Vec 94 49 v (l.length + 1) (fN l ++ cN x) lp) : Vec 94 49 v (l ++ [x]).length (fN (l ++ [x])) lp := by
  rw [List.length_append, show fN (l ++ [x]) = fN l ++ cN x by simp only [fN, List.flatMap_append, List.flatMap_cons, List.flatMap_nil, List.append_nil]]
  exact h
theorem filt_snoc {p : NV → Bool} {R : List NV} {i : Nat} {x : NV} (h : R[i]? = some x) : (R.take (i + 1)).filter p = (R.take i).filter p ++ (if p x then [x] else []) := by
  rw [List.take_add_one, h]
  by_cases hp : p x = true
  · simp [hp]
  · simp [hp]
theorem vec_yes {p : NV → Bool} {R : List NV} {i : Nat} {x : NV} {v : Value} {lp : List (Nat × Obj)} (h : R[i]? = some x) (hp : p x = true) (hv : Vec 94 49 v (((R.take i).filter p).length + 1) (fN ((R.take i).filter p) ++ cN x) lp) : Vec 94 49 v ((R.take (i + 1)).filter p).length (fN ((R.take (i + 1)).filter p)) lp := by
  rw [filt_snoc h, if_pos hp]
  exact vecN_snoc hv
theorem vec_no {p : NV → Bool} {R : List NV} {i : Nat} {x : NV} {v : Value} {lp : List (Nat × Obj)} (h : R[i]? = some x) (hp : ¬ p x = true) (hv : Vec 94 49 v ((R.take i).filter p).length (fN ((R.take i).filter p)) lp) : Vec 94 49 v ((R.take (i + 1)).filter p).length (fN ((R.take (i + 1)).filter p)) lp := by
  rw [filt_snoc h, if_neg hp, List.append_nil]
  exact hv

set_option maxHeartbeats 2000000 in
theorem rmark_spec (rb : Nat) (vL : Value) (R : List NV) (lr : List (Nat × Obj)) (id key : IDV) (xv : WV) (w : World) (hw0 : Own w ((rb, cb [vL] 44) :: lr)) (hvr : Vec 94 49 vL R.length (fN R) lr) (hR : R.length ≤ 1000) :
    Calls Try.prog 27 [.pointer (some ⟨rb, 0, none⟩), .agg (cI id).toArray, .agg (cI key).toArray, .agg (cV xv).toArray].toArray w fun r w' => ∃ y : Value × List (Nat × Obj), r = .returned (.tuple #[]) ∧ Vec 94 49 y.1 (markR R id key xv).length (fN (markR R id key xv)) y.2 ∧ St w (rb :: lr.map (·.1)) ((rb, cb [y.1] 44) :: y.2) w' := by
  obtain ⟨aL, cL, rfl, hcL⟩ := hvr.form
  refine calls_of_J (args := [.pointer (some ⟨rb, 0, none⟩), .agg (cI id).toArray, .agg (cI key).toArray, .agg (cV xv).toArray]) (e := [(0, .pointer (some ⟨rb, 0, none⟩)), (1, .agg (cI id).toArray), (2, .agg (cI key).toArray), (3, .agg (cV xv).toArray)]) Try.func27 rfl rfl ⟨rfl, rfl, rfl, rfl, trivial⟩ (hw0.st) ?_
  refine JC.seq (fun K0 hK0 => ?_)
  refine JC.region ?_
  refine J.box rfl rfl rfl (fun b5 => ?_)
  refine J.box rfl rfl rfl (fun b6 => ?_)
  refine J.box rfl rfl rfl (fun b7 => ?_)
  refine J.nil ?_
  refine JX.thenN (hK0 _ _ ?_)
  refine JC.seq (fun K1 hK1 => ?_)
  refine JC.region ?_
  refine J.assign rfl rfl ?_
  refine J.nil ?_
  refine JX.thenN (hK1 _ _ ?_)
  refine JC.seq (fun K2 hK2 => ?_)
  refine JC.seq (fun K3 hK3 => ?_)
  refine JC.region ?_
  refine J.assign rfl rfl ?_
  refine J.nil ?_
  refine JX.thenN (hK3 _ _ ?_)
  refine JC.block ?_
  refine JC.conseq (JC.cov (f := (fun st => [(0, .pointer (some ⟨rb, 0, none⟩)), (5, .pointer (some ⟨b5, 0, none⟩)), (6, .pointer (some ⟨b6, 0, none⟩)), (7, .pointer (some ⟨b7, 0, none⟩)), (8, st.2.1), (9, .int .i64 ((st.1 : Nat) : Int))]) ((0, .slice none 0 0, []) : Nat × Value × List (Nat × Obj))) ⟨rfl, rfl, rfl, rfl, rfl, rfl, trivial⟩ (JC.loop (α := Nat × Value × List (Nat × Obj)) (fun st => [(0, .pointer (some ⟨rb, 0, none⟩)), (5, .pointer (some ⟨b5, 0, none⟩)), (6, .pointer (some ⟨b6, 0, none⟩)), (7, .pointer (some ⟨b7, 0, none⟩)), (8, st.2.1), (9, .int .i64 ((st.1 : Nat) : Int))]) (fun st w' => (st.1 ≤ R.length ∧ Vec 94 49 st.2.1 ((R.take st.1).filter (keepN id key)).length (fN ((R.take st.1).filter (keepN id key))) st.2.2) ∧ St w (rb :: lr.map (·.1)) (st.2.2 ++ ((b7, cb (cV xv) 46) :: (b6, cb (cI key) 23) :: (b5, cb (cI id) 23) :: (rb, cb [.slice aL R.length cL] 44) :: lr)) w') (fun st => R.length - st.1) ((0, .slice none 0 0, []) : Nat × Value × List (Nat × Obj)) (fun st => ?_))) (fun w hw => ⟨⟨Nat.zero_le _, Vec.nil _ _⟩, hw⟩)
  obtain ⟨i, vo, lo⟩ := st
  refine JC.pr (fun hI => ?_)
  obtain ⟨hi, hvo⟩ := hI
  try simp only at hi hvo ⊢
  have hfl := List.length_filter_le (keepN id key) (R.take i)
  rw [List.length_take] at hfl
  refine JC.seq (fun K4 hK4 => ?_)
  refine JC.seq (fun K5 hK5 => ?_)
  refine JC.region ?_
  refine J.move rfl rfl ?_
  refine J.move rfl rfl ?_
  refine J.nilCheck rfl rfl ?_
  refine J.fieldAddr Ty.fd44_0 rfl rfl ?_
  refine J.load1 (v := .slice aL R.length cL) Ty.a42 rfl (fun w1 hw => by rw [cell_of (hw.own ((rb, cb [.slice aL R.length cL] 44)) (by repeat first | exact .head _ | apply List.Mem.tail | apply List.mem_append_right))]; rfl) rfl ?_
  refine J.lenS rfl Ty.u42 rfl rfl ?_
  refine J.bin rfl rfl rfl rfl ?_
  refine J.nil ?_
  refine JX.thenN (hK5 _ _ ?_)
  refine JC.cond rfl (fun h0 => ?_) (fun h0 => ?_)
  · skip
    have hlt : i < R.length := by simp at h0; omega
    obtain ⟨nn, hnn⟩ : ∃ y, R[i]? = some y := ⟨_, List.getElem?_eq_getElem hlt⟩
    obtain ⟨ql, rfl⟩ : ∃ q, aL = some ⟨q, 0, none⟩ := by
      rcases hvr.2 with ⟨_, h9, _⟩ | ⟨q, c9, sp, h9, _⟩
      · omega
      · simp only [Value.slice.injEq] at h9; exact ⟨q, h9.1⟩
    refine JC.skip ?_
    refine JX.thenN (hK4 _ _ ?_)
    refine JC.seq (fun K6 hK6 => ?_)
    refine JC.block ?_
    refine JC.seq (fun K7 hK7 => ?_)
    by_cases hn1 : nn.id = id
    · skip
      apply JC.drawL 22 [Eqv (.pointer (some ⟨rb, 0, none⟩)), Eqv (.pointer (some ⟨rb, 0, none⟩)), Eqv (.pointer (some ⟨rb, 0 + 0, none⟩)), Eqv (.slice (some ⟨ql, 0, none⟩) R.length cL), Eqv (.int .i64 ((i : Nat) : Int)), Eqv (.pointer (some ⟨ql, 0 + (i : Int).toNat * 49, none⟩)), Eqv (.pointer (some ⟨ql, 0 + (i : Int).toNat * 49 + 0, none⟩)), Eqv (.agg (cI nn.id).toArray), Eqv (.agg (cI id).toArray), Eqv (.bool false), Eqv (.bool false), Eqv (.pointer (some ⟨rb, 0, none⟩)), Eqv (.pointer (some ⟨rb, 0, none⟩)), Eqv (.pointer (some ⟨rb, 0 + 0, none⟩)), Eqv (.slice (some ⟨ql, 0, none⟩) R.length cL), Eqv (.int .i64 ((i : Nat) : Int)), Eqv (.pointer (some ⟨ql, 0 + (i : Int).toNat * 49, none⟩)), Eqv (.pointer (some ⟨ql, 0 + (i : Int).toNat * 49 + 16, none⟩)), Eqv (.agg (cI nn.key).toArray), Eqv (.agg (cI key).toArray), Eqv (.bool (!decide (nn.key = key))), Eqv (.bool (!decide (nn.key = key)))] Ty.mixed rfl rfl rfl (by kernel_rfl) rfl rfl (fun w w' hw hb => hw.step hb) ⟨fun _ _ _ h _ => h, fun _ _ _ h _ => h, fun _ _ _ h _ => h, fun _ _ _ h _ => h, fun _ _ _ h _ => h, fun _ _ _ h _ => h, fun _ _ _ h _ => h, fun _ _ _ h _ => h, fun _ _ _ h _ => h, fun _ _ _ h _ => h, fun _ _ _ h _ => h, fun _ _ _ h _ => h, fun _ _ _ h _ => h, fun _ _ _ h _ => h, fun _ _ _ h _ => h, fun _ _ _ h _ => h, fun _ _ _ h _ => h, fun _ _ _ h _ => h, fun _ _ _ h _ => h, fun _ _ _ h _ => h, fun _ _ _ h _ => h, fun _ _ _ h _ => h, trivial⟩ ?hstep ?htail
      case hstep =>
        refine ⟨fun wi => ?_, fun wi => ?_, fun wi => ?_, fun wi => ?_, fun wi => ?_, fun wi => ?_, fun wi => ?_, fun wi => ?_, fun wi => ?_, fun wi => ?_, fun wi => ?_, fun wi => ?_, fun wi => ?_, fun wi => ?_, fun wi => ?_, fun wi => ?_, fun wi => ?_, fun wi => ?_, fun wi => ?_, fun wi => ?_, fun wi => ?_, fun wi => ?_, trivial⟩
        · skip
          refine Fin.nil ?_
          refine J.move rfl rfl ?_
          exact J.finP rfl
        · skip
          refine Fin.consE rfl (Fin.nil ?_)
          refine J.nilCheck rfl rfl ?_
          exact J.finP rfl
        · skip
          refine Fin.consE rfl (Fin.nil ?_)
          refine J.fieldAddr Ty.fd44_0 rfl rfl ?_
          exact J.finP rfl
        · skip
          refine Fin.consE rfl (Fin.nil ?_)
          refine J.load1 (v := .slice (some ⟨ql, 0, none⟩) R.length cL) Ty.a42 rfl (fun w1 hw => by rw [cell_of (hw.2.own ((rb, cb [.slice (some ⟨ql, 0, none⟩) R.length cL] 44)) (by repeat first | exact .head _ | apply List.Mem.tail | apply List.mem_append_right))]; rfl) rfl ?_
          exact J.finP rfl
        · skip
          refine Fin.nil ?_
          refine J.move rfl rfl ?_
          exact J.finP rfl
        · skip
          refine Fin.consE rfl (Fin.consE rfl (Fin.nil ?_))
          refine J.indexAddrS Ty.el42 Ty.s94 rfl rfl (by omega) (by omega) rfl ?_
          exact J.finP rfl
        · skip
          refine Fin.consE rfl (Fin.nil ?_)
          refine J.fieldAddr Ty.fd94_0 rfl rfl ?_
          exact J.finP rfl
        · skip
          refine Fin.consE rfl (Fin.nil ?_)
          refine J.loadA (vs := cI nn.id) Ty.a23 Ty.s23 rfl rfl (fun w1 hw => noteF_at (r := 0) (vec_rowM hvr hw.2 (by intro q hq; simp [hq])) hnn rfl (by simp)) rfl ?_
          exact J.finP rfl
        · skip
          refine Fin.nil ?_
          refine J.loadA (vs := cI id) Ty.a23 Ty.s23 rfl rfl (fun w1 hw => Cells.of_block (hw.2.own ((b5, cb (cI id) 23)) (by repeat first | exact .head _ | apply List.Mem.tail | apply List.mem_append_right)) rfl) rfl ?_
          exact J.finP rfl
        · skip
          refine Fin.consE rfl (Fin.consE rfl (Fin.nil ?_))
          refine J.neI Ty.QI Ty.keyI rfl rfl rfl ?_
          refine J.name 28 rfl (show _ = Value.bool false by simp [hn1]) ?_
          exact J.finP rfl
        · skip
          refine Fin.consE rfl (Fin.nil ?_)
          refine J.move rfl rfl ?_
          exact J.finP rfl
        · skip
          refine Fin.consE rfl (Fin.nil ?_)
          first | refine J.skip rfl rfl rfl rfl rfl ?_ | refine J.skipU rfl rfl rfl rfl ?_ | (refine J.unguard rfl rfl rfl ?_; refine J.move rfl rfl ?_)
          exact J.finP rfl
        · skip
          refine Fin.consE rfl (Fin.consE rfl (Fin.nil ?_))
          first | refine J.skip rfl rfl rfl rfl rfl ?_ | refine J.skipU rfl rfl rfl rfl ?_ | (refine J.unguard rfl rfl rfl ?_; refine J.nilCheck rfl rfl ?_)
          exact J.finP rfl
        · skip
          refine Fin.consE rfl (Fin.consE rfl (Fin.nil ?_))
          first | refine J.skip rfl rfl rfl rfl rfl ?_ | refine J.skipU rfl rfl rfl rfl ?_ | (refine J.unguard rfl rfl rfl ?_; refine J.fieldAddr Ty.fd44_0 rfl rfl ?_)
          exact J.finP rfl
        · skip
          refine Fin.consE rfl (Fin.consE rfl (Fin.nil ?_))
          refine J.unguard rfl rfl rfl ?_
          refine J.load1 (v := .slice (some ⟨ql, 0, none⟩) R.length cL) Ty.a42 rfl (fun w1 hw => by rw [cell_of (hw.2.own ((rb, cb [.slice (some ⟨ql, 0, none⟩) R.length cL] 44)) (by repeat first | exact .head _ | apply List.Mem.tail | apply List.mem_append_right))]; rfl) rfl ?_
          exact J.finP rfl
        · skip
          refine Fin.consE rfl (Fin.nil ?_)
          first | refine J.skip rfl rfl rfl rfl rfl ?_ | refine J.skipU rfl rfl rfl rfl ?_ | (refine J.unguard rfl rfl rfl ?_; refine J.move rfl rfl ?_)
          exact J.finP rfl
        · skip
          refine Fin.consE rfl (Fin.consE rfl (Fin.consE rfl (Fin.nil ?_)))
          refine J.unguard rfl rfl rfl ?_
          refine J.indexAddrS Ty.el42 Ty.s94 rfl rfl (by omega) (by omega) rfl ?_
          exact J.finP rfl
        · skip
          refine Fin.consE rfl (Fin.consE rfl (Fin.nil ?_))
          first | refine J.skip rfl rfl rfl rfl rfl ?_ | refine J.skipU rfl rfl rfl rfl ?_ | (refine J.unguard rfl rfl rfl ?_; refine J.fieldAddr Ty.fd94_1 rfl rfl ?_)
          exact J.finP rfl
        · skip
          refine Fin.consE rfl (Fin.consE rfl (Fin.nil ?_))
          refine J.unguard rfl rfl rfl ?_
          refine J.loadA (vs := cI nn.key) Ty.a23 Ty.s23 rfl rfl (fun w1 hw => noteF_at (r := 16) (vec_rowM hvr hw.2 (by intro q hq; simp [hq])) hnn rfl (by simp)) rfl ?_
          exact J.finP rfl
        · skip
          refine Fin.consE rfl (Fin.nil ?_)
          refine J.unguard rfl rfl rfl ?_
          refine J.loadA (vs := cI key) Ty.a23 Ty.s23 rfl rfl (fun w1 hw => Cells.of_block (hw.2.own ((b6, cb (cI key) 23)) (by repeat first | exact .head _ | apply List.Mem.tail | apply List.mem_append_right)) rfl) rfl ?_
          exact J.finP rfl
        · skip
          refine Fin.consE rfl (Fin.consE rfl (Fin.consE rfl (Fin.nil ?_)))
          refine J.unguard rfl rfl rfl ?_
          refine J.neI Ty.QI Ty.keyI rfl rfl rfl ?_
          exact J.finP rfl
        · skip
          refine Fin.consE rfl (Fin.consE rfl (Fin.nil ?_))
          (first | refine J.pickT rfl rfl rfl ?_ | refine J.pickF rfl rfl rfl ?_)
          exact J.finP rfl
      case htail =>
        refine Fin.consE rfl (Fin.consE rfl (Fin.consE rfl (Fin.consE rfl (Fin.consE rfl (Fin.consE rfl (Fin.consE rfl (Fin.consE rfl (Fin.consE rfl (Fin.consE rfl (Fin.consE rfl (Fin.consE rfl (Fin.consE rfl (Fin.consE rfl (Fin.consE rfl (Fin.consE rfl (Fin.consE rfl (Fin.consE rfl (Fin.consE rfl (Fin.consE rfl (Fin.consE rfl (Fin.consE rfl (Fin.nil ?_))))))))))))))))))))))
        refine J.nil ?_
        refine JX.thenN (hK7 _ _ ?_)
        refine JC.cond rfl (fun h1 => ?_) (fun h1 => ?_)
        · skip
          have hkp : keepN id key nn = true := by unfold keepN; rw [show decide (nn.key = key) = false by simpa using h1]; simp
          refine JC.region ?_
          refine J.move rfl rfl ?_
          refine J.move rfl rfl ?_
          refine J.nilCheck rfl rfl ?_
          refine J.fieldAddr Ty.fd44_0 rfl rfl ?_
          refine J.load1 (v := .slice (some ⟨ql, 0, none⟩) R.length cL) Ty.a42 rfl (fun w1 hw => by rw [cell_of (hw.own ((rb, cb [.slice (some ⟨ql, 0, none⟩) R.length cL] 44)) (by repeat first | exact .head _ | apply List.Mem.tail | apply List.mem_append_right))]; rfl) rfl ?_
          refine J.move rfl rfl ?_
          refine J.indexAddrS Ty.el42 Ty.s94 rfl rfl (by omega) (by omega) rfl ?_
          refine J.loadA (vs := cN nn) Ty.a94 Ty.s94 rfl rfl (fun w1 hw => noteF_at (r := 0) (vec_rowM hvr hw (by intro q hq; simp [hq])) hnn rfl (by simp)) rfl ?_
          refine J.buildSl (cs := cN nn) Ty.el42 Ty.s94 zNt rfl rfl rfl rfl (by kernel_rfl) rfl rfl (fun b49 => ?_)
          refine J.perm (lo ++ ((b49, cb (cN nn) 94) :: (b7, cb (cV xv) 46) :: (b6, cb (cI key) 23) :: (b5, cb (cI id) 23) :: (rb, cb [.slice (some ⟨ql, 0, none⟩) R.length cL] 44) :: lr)) (by (refine perm_cnt (fun _ => ?_)); simp only [cntB_append, cntB_cons, cntB_nil, Nat.add_zero, Nat.zero_add]; try ac_rfl) ?_
          refine J.append (lp := lo) (xs := fN ((R.take i).filter (keepN id key))) (ys := cN nn) (k := (((R.take i).filter (keepN id key))).length) (m := 1) Ty.el42 Ty.s94 Ty.b94 zNt rfl (.inl ⟨94, Ty.u42⟩) rfl rfl hvo (fun w1 hw => .inl (Row.own (cs := cN nn) (tb := 94) (fr := (0, 0)) hw (List.mem_append_right _ (.head _)) (List.take_of_length_le (Nat.le_refl _)) (Nat.le_refl _))) rfl (one_cN _) (by omega) (by omega) rfl (fun v50 l50 hv50 => ?_)
          refine J.assign rfl rfl ?_
          refine J.nil ?_
          refine JX.blockN ?_
          refine JX.thenN (hK6 _ _ ?_)
          refine JC.region ?_
          refine J.move rfl rfl ?_
          (first | refine J.addN rfl rfl (by omega) (by omega) rfl ?_ | refine J.bin rfl rfl rfl rfl ?_)
          refine J.assign rfl rfl ?_
          refine J.nil ?_
          refine JX.thenN ?_
          refine JX.again ((i + 1, v50, l50) : Nat × Value × List (Nat × Obj)) ?_ ?_ ?_
          · simp only; omega
          · exact ⟨rfl, rfl, rfl, rfl, rfl, rfl, trivial⟩
          · exact fun w1 hw => ⟨⟨hlt, vec_yes hnn hkp hv50⟩, (hw.perm (l' := [(b49, cb (cN nn) 94)] ++ (l50 ++ ((b7, cb (cV xv) 46) :: (b6, cb (cI key) 23) :: (b5, cb (cI id) 23) :: (rb, cb [.slice (some ⟨ql, 0, none⟩) R.length cL] 44) :: lr))) (by (refine perm_cnt (fun _ => ?_)); simp only [cntB_append, cntB_cons, cntB_nil, Nat.add_zero, Nat.zero_add]; try ac_rfl)).drop (List.sublist_append_right _ _)⟩
        · skip
          have hkp : ¬ keepN id key nn = true := by unfold keepN; rw [show decide (nn.key = key) = true by simpa using h1]; simp [hn1]
          refine JC.skip ?_
          refine JX.blockN ?_
          refine JX.thenN (hK6 _ _ ?_)
          refine JC.region ?_
          refine J.move rfl rfl ?_
          (first | refine J.addN rfl rfl (by omega) (by omega) rfl ?_ | refine J.bin rfl rfl rfl rfl ?_)
          refine J.assign rfl rfl ?_
          refine J.nil ?_
          refine JX.thenN ?_
          refine JX.again ((i + 1, vo, lo) : Nat × Value × List (Nat × Obj)) ?_ ?_ ?_
          · simp only; omega
          · exact ⟨rfl, rfl, rfl, rfl, rfl, rfl, trivial⟩
          · exact fun w1 hw => ⟨⟨hlt, vec_no hnn hkp hvo⟩, hw⟩
    · skip
      have hkp : keepN id key nn = true := by unfold keepN; simp [hn1]
      apply JC.drawL 22 [Eqv (.pointer (some ⟨rb, 0, none⟩)), Eqv (.pointer (some ⟨rb, 0, none⟩)), Eqv (.pointer (some ⟨rb, 0 + 0, none⟩)), Eqv (.slice (some ⟨ql, 0, none⟩) R.length cL), Eqv (.int .i64 ((i : Nat) : Int)), Eqv (.pointer (some ⟨ql, 0 + (i : Int).toNat * 49, none⟩)), Eqv (.pointer (some ⟨ql, 0 + (i : Int).toNat * 49 + 0, none⟩)), Eqv (.agg (cI nn.id).toArray), Eqv (.agg (cI id).toArray), Eqv (.bool true), Eqv (.bool true), Eqv (undef), Eqv (undef), Eqv (undef), Eqv (undef), Eqv (undef), Eqv (undef), Eqv (undef), Eqv (undef), Eqv (undef), Eqv (undef), Eqv (.bool true)] Ty.mixed rfl rfl rfl (by kernel_rfl) rfl rfl (fun w w' hw hb => hw.step hb) ⟨fun _ _ _ h _ => h, fun _ _ _ h _ => h, fun _ _ _ h _ => h, fun _ _ _ h _ => h, fun _ _ _ h _ => h, fun _ _ _ h _ => h, fun _ _ _ h _ => h, fun _ _ _ h _ => h, fun _ _ _ h _ => h, fun _ _ _ h _ => h, fun _ _ _ h _ => h, fun _ _ _ h _ => h, fun _ _ _ h _ => h, fun _ _ _ h _ => h, fun _ _ _ h _ => h, fun _ _ _ h _ => h, fun _ _ _ h _ => h, fun _ _ _ h _ => h, fun _ _ _ h _ => h, fun _ _ _ h _ => h, fun _ _ _ h _ => h, fun _ _ _ h _ => h, trivial⟩ ?hstep ?htail
      case hstep =>
        refine ⟨fun wi => ?_, fun wi => ?_, fun wi => ?_, fun wi => ?_, fun wi => ?_, fun wi => ?_, fun wi => ?_, fun wi => ?_, fun wi => ?_, fun wi => ?_, fun wi => ?_, fun wi => ?_, fun wi => ?_, fun wi => ?_, fun wi => ?_, fun wi => ?_, fun wi => ?_, fun wi => ?_, fun wi => ?_, fun wi => ?_, fun wi => ?_, fun wi => ?_, trivial⟩
        · skip
          refine Fin.nil ?_
          refine J.move rfl rfl ?_
          exact J.finP rfl
        · skip
          refine Fin.consE rfl (Fin.nil ?_)
          refine J.nilCheck rfl rfl ?_
          exact J.finP rfl
        · skip
          refine Fin.consE rfl (Fin.nil ?_)
          refine J.fieldAddr Ty.fd44_0 rfl rfl ?_
          exact J.finP rfl
        · skip
          refine Fin.consE rfl (Fin.nil ?_)
          refine J.load1 (v := .slice (some ⟨ql, 0, none⟩) R.length cL) Ty.a42 rfl (fun w1 hw => by rw [cell_of (hw.2.own ((rb, cb [.slice (some ⟨ql, 0, none⟩) R.length cL] 44)) (by repeat first | exact .head _ | apply List.Mem.tail | apply List.mem_append_right))]; rfl) rfl ?_
          exact J.finP rfl
        · skip
          refine Fin.nil ?_
          refine J.move rfl rfl ?_
          exact J.finP rfl
        · skip
          refine Fin.consE rfl (Fin.consE rfl (Fin.nil ?_))
          refine J.indexAddrS Ty.el42 Ty.s94 rfl rfl (by omega) (by omega) rfl ?_
          exact J.finP rfl
        · skip
          refine Fin.consE rfl (Fin.nil ?_)
          refine J.fieldAddr Ty.fd94_0 rfl rfl ?_
          exact J.finP rfl
        · skip
          refine Fin.consE rfl (Fin.nil ?_)
          refine J.loadA (vs := cI nn.id) Ty.a23 Ty.s23 rfl rfl (fun w1 hw => noteF_at (r := 0) (vec_rowM hvr hw.2 (by intro q hq; simp [hq])) hnn rfl (by simp)) rfl ?_
          exact J.finP rfl
        · skip
          refine Fin.nil ?_
          refine J.loadA (vs := cI id) Ty.a23 Ty.s23 rfl rfl (fun w1 hw => Cells.of_block (hw.2.own ((b5, cb (cI id) 23)) (by repeat first | exact .head _ | apply List.Mem.tail | apply List.mem_append_right)) rfl) rfl ?_
          exact J.finP rfl
        · skip
          refine Fin.consE rfl (Fin.consE rfl (Fin.nil ?_))
          refine J.neI Ty.QI Ty.keyI rfl rfl rfl ?_
          refine J.name 28 rfl (show _ = Value.bool true by simp [hn1]) ?_
          exact J.finP rfl
        · skip
          refine Fin.consE rfl (Fin.nil ?_)
          refine J.move rfl rfl ?_
          exact J.finP rfl
        · skip
          refine Fin.consE rfl (Fin.nil ?_)
          first | refine J.skip rfl rfl rfl rfl rfl ?_ | refine J.skipU rfl rfl rfl rfl ?_ | (refine J.unguard rfl rfl rfl ?_; refine J.move rfl rfl ?_)
          exact J.finP rfl
        · skip
          refine Fin.consE rfl (Fin.consE rfl (Fin.nil ?_))
          first | refine J.skip rfl rfl rfl rfl rfl ?_ | refine J.skipU rfl rfl rfl rfl ?_ | (refine J.unguard rfl rfl rfl ?_; refine J.nilCheck rfl rfl ?_)
          exact J.finP rfl
        · skip
          refine Fin.consE rfl (Fin.consE rfl (Fin.nil ?_))
          first | refine J.skip rfl rfl rfl rfl rfl ?_ | refine J.skipU rfl rfl rfl rfl ?_ | (refine J.unguard rfl rfl rfl ?_; refine J.fieldAddr Ty.fd44_0 rfl rfl ?_)
          exact J.finP rfl
        · skip
          refine Fin.consE rfl (Fin.consE rfl (Fin.nil ?_))
          first | refine J.skip rfl rfl rfl rfl rfl ?_ | refine J.skipU rfl rfl rfl rfl ?_ | (refine J.unguard rfl rfl rfl ?_; refine J.load1 Ty.a42 rfl (fun w hw => (cell_of (hw.2.own (_, _) (by repeat first | exact .head _ | apply List.Mem.tail | apply List.mem_append_right))).trans (by exact rfl)) rfl ?_)
          exact J.finP rfl
        · skip
          refine Fin.consE rfl (Fin.nil ?_)
          first | refine J.skip rfl rfl rfl rfl rfl ?_ | refine J.skipU rfl rfl rfl rfl ?_ | (refine J.unguard rfl rfl rfl ?_; refine J.move rfl rfl ?_)
          exact J.finP rfl
        · skip
          refine Fin.consE rfl (Fin.consE rfl (Fin.consE rfl (Fin.nil ?_)))
          first | refine J.skip rfl rfl rfl rfl rfl ?_ | refine J.skipU rfl rfl rfl rfl ?_ | (refine J.unguard rfl rfl rfl ?_; refine J.indexAddrS Ty.el42 Ty.s94 rfl rfl (by omega) (by omega) rfl ?_)
          exact J.finP rfl
        · skip
          refine Fin.consE rfl (Fin.consE rfl (Fin.nil ?_))
          first | refine J.skip rfl rfl rfl rfl rfl ?_ | refine J.skipU rfl rfl rfl rfl ?_ | (refine J.unguard rfl rfl rfl ?_; refine J.fieldAddr Ty.fd94_1 rfl rfl ?_)
          exact J.finP rfl
        · skip
          refine Fin.consE rfl (Fin.consE rfl (Fin.nil ?_))
          first | refine J.skip rfl rfl rfl rfl rfl ?_ | refine J.skipU rfl rfl rfl rfl ?_ | (refine J.unguard rfl rfl rfl ?_; refine J.loadOA Ty.a23 Ty.s23 rfl (by repeat first | exact .head _ | apply List.Mem.tail | apply List.mem_append_right) (by exact rfl) rfl rfl ?_)
          exact J.finP rfl
        · skip
          refine Fin.consE rfl (Fin.nil ?_)
          first | refine J.skip rfl rfl rfl rfl rfl ?_ | refine J.skipU rfl rfl rfl rfl ?_ | (refine J.unguard rfl rfl rfl ?_; refine J.loadOA Ty.a23 Ty.s23 rfl (by repeat first | exact .head _ | apply List.Mem.tail | apply List.mem_append_right) (by exact rfl) rfl rfl ?_)
          exact J.finP rfl
        · skip
          refine Fin.consE rfl (Fin.consE rfl (Fin.consE rfl (Fin.nil ?_)))
          first | refine J.skip rfl rfl rfl rfl rfl ?_ | refine J.skipU rfl rfl rfl rfl ?_ | (refine J.unguard rfl rfl rfl ?_; refine J.neI Ty.QI Ty.keyI rfl rfl rfl ?_)
          exact J.finP rfl
        · skip
          refine Fin.consE rfl (Fin.consE rfl (Fin.nil ?_))
          (first | refine J.pickT rfl rfl rfl ?_ | refine J.pickF rfl rfl rfl ?_)
          exact J.finP rfl
      case htail =>
        refine Fin.consE rfl (Fin.consE rfl (Fin.consE rfl (Fin.consE rfl (Fin.consE rfl (Fin.consE rfl (Fin.consE rfl (Fin.consE rfl (Fin.consE rfl (Fin.consE rfl (Fin.consE rfl (Fin.consE rfl (Fin.consE rfl (Fin.consE rfl (Fin.consE rfl (Fin.consE rfl (Fin.consE rfl (Fin.consE rfl (Fin.consE rfl (Fin.consE rfl (Fin.consE rfl (Fin.consE rfl (Fin.nil ?_))))))))))))))))))))))
        refine J.nil ?_
        refine JX.thenN (hK7 _ _ ?_)
        first | refine JC.condT rfl ?_ | refine JC.cond rfl (fun _ => ?_) (fun h => by first | (exfalso; simp at h; omega) | (simp at h))
        refine JC.region ?_
        refine J.move rfl rfl ?_
        refine J.move rfl rfl ?_
        refine J.nilCheck rfl rfl ?_
        refine J.fieldAddr Ty.fd44_0 rfl rfl ?_
        refine J.load1 (v := .slice (some ⟨ql, 0, none⟩) R.length cL) Ty.a42 rfl (fun w1 hw => by rw [cell_of (hw.own ((rb, cb [.slice (some ⟨ql, 0, none⟩) R.length cL] 44)) (by repeat first | exact .head _ | apply List.Mem.tail | apply List.mem_append_right))]; rfl) rfl ?_
        refine J.move rfl rfl ?_
        refine J.indexAddrS Ty.el42 Ty.s94 rfl rfl (by omega) (by omega) rfl ?_
        refine J.loadA (vs := cN nn) Ty.a94 Ty.s94 rfl rfl (fun w1 hw => noteF_at (r := 0) (vec_rowM hvr hw (by intro q hq; simp [hq])) hnn rfl (by simp)) rfl ?_
        refine J.buildSl (cs := cN nn) Ty.el42 Ty.s94 zNt rfl rfl rfl rfl (by kernel_rfl) rfl rfl (fun b49 => ?_)
        refine J.perm (lo ++ ((b49, cb (cN nn) 94) :: (b7, cb (cV xv) 46) :: (b6, cb (cI key) 23) :: (b5, cb (cI id) 23) :: (rb, cb [.slice (some ⟨ql, 0, none⟩) R.length cL] 44) :: lr)) (by (refine perm_cnt (fun _ => ?_)); simp only [cntB_append, cntB_cons, cntB_nil, Nat.add_zero, Nat.zero_add]; try ac_rfl) ?_
        refine J.append (lp := lo) (xs := fN ((R.take i).filter (keepN id key))) (ys := cN nn) (k := (((R.take i).filter (keepN id key))).length) (m := 1) Ty.el42 Ty.s94 Ty.b94 zNt rfl (.inl ⟨94, Ty.u42⟩) rfl rfl hvo (fun w1 hw => .inl (Row.own (cs := cN nn) (tb := 94) (fr := (0, 0)) hw (List.mem_append_right _ (.head _)) (List.take_of_length_le (Nat.le_refl _)) (Nat.le_refl _))) rfl (one_cN _) (by omega) (by omega) rfl (fun v50 l50 hv50 => ?_)
        refine J.assign rfl rfl ?_
        refine J.nil ?_
        refine JX.blockN ?_
        refine JX.thenN (hK6 _ _ ?_)
        refine JC.region ?_
        refine J.move rfl rfl ?_
        (first | refine J.addN rfl rfl (by omega) (by omega) rfl ?_ | refine J.bin rfl rfl rfl rfl ?_)
        refine J.assign rfl rfl ?_
        refine J.nil ?_
        refine JX.thenN ?_
        refine JX.again ((i + 1, v50, l50) : Nat × Value × List (Nat × Obj)) ?_ ?_ ?_
        · simp only; omega
        · exact ⟨rfl, rfl, rfl, rfl, rfl, rfl, trivial⟩
        · exact fun w1 hw => ⟨⟨hlt, vec_yes hnn hkp hv50⟩, (hw.perm (l' := [(b49, cb (cN nn) 94)] ++ (l50 ++ ((b7, cb (cV xv) 46) :: (b6, cb (cI key) 23) :: (b5, cb (cI id) 23) :: (rb, cb [.slice (some ⟨ql, 0, none⟩) R.length cL] 44) :: lr))) (by (refine perm_cnt (fun _ => ?_)); simp only [cntB_append, cntB_cons, cntB_nil, Nat.add_zero, Nat.zero_add]; try ac_rfl)).drop (List.sublist_append_right _ _)⟩
  · skip
    have hge : i = R.length := by simp at h0; omega
    rw [hge, List.take_of_length_le (Nat.le_refl _)] at hvo hfl
    refine JC.exit ?_
    refine JX.thenE ?_
    refine JX.thenE ?_
    refine JX.blockE ?_
    refine JX.thenN (hK2 _ _ ?_)
    refine JC.region ?_
    refine J.move rfl rfl ?_
    refine J.move rfl rfl ?_
    refine J.loadA (vs := cI id) Ty.a23 Ty.s23 rfl rfl (fun w1 hw => Cells.of_block (hw.own ((b5, cb (cI id) 23)) (by repeat first | exact .head _ | apply List.Mem.tail | apply List.mem_append_right)) rfl) rfl ?_
    refine J.loadA (vs := cI key) Ty.a23 Ty.s23 rfl rfl (fun w1 hw => Cells.of_block (hw.own ((b6, cb (cI key) 23)) (by repeat first | exact .head _ | apply List.Mem.tail | apply List.mem_append_right)) rfl) rfl ?_
    refine J.loadA (vs := cV xv) Ty.a46 Ty.s46 rfl rfl (fun w1 hw => Cells.of_block (hw.own ((b7, cb (cV xv) 46)) (by repeat first | exact .head _ | apply List.Mem.tail | apply List.mem_append_right)) rfl) rfl ?_
    refine J.buildS (cs := cN (⟨id, key, xv⟩ : NV)) Ty.pl94 zNt rfl (by kernel_rfl) rfl ?_
    refine J.buildSl (cs := cN (⟨id, key, xv⟩ : NV)) Ty.el42 Ty.s94 zNt rfl rfl rfl rfl (by kernel_rfl) rfl rfl (fun b57 => ?_)
    refine J.perm (lo ++ ((b57, cb (cN (⟨id, key, xv⟩ : NV)) 94) :: (b7, cb (cV xv) 46) :: (b6, cb (cI key) 23) :: (b5, cb (cI id) 23) :: (rb, cb [.slice aL R.length cL] 44) :: lr)) (by (refine perm_cnt (fun _ => ?_)); simp only [cntB_append, cntB_cons, cntB_nil, Nat.add_zero, Nat.zero_add]; try ac_rfl) ?_
    refine J.append (lp := lo) (xs := fN (R.filter (keepN id key))) (ys := cN (⟨id, key, xv⟩ : NV)) (k := ((R.filter (keepN id key))).length) (m := 1) Ty.el42 Ty.s94 Ty.b94 zNt rfl (.inl ⟨94, Ty.u42⟩) rfl rfl hvo (fun w1 hw => .inl (Row.own (cs := cN (⟨id, key, xv⟩ : NV)) (tb := 94) (fr := (0, 0)) hw (List.mem_append_right _ (.head _)) (List.take_of_length_le (Nat.le_refl _)) (Nat.le_refl _))) rfl (one_cN _) (by omega) (by omega) rfl (fun v58 l58 hv58 => ?_)
    have hv59 := vecN_snoc (l := R.filter (keepN id key)) hv58
    obtain ⟨a58, c58, rfl, hc58⟩ := hv59.form
    refine J.perm ((rb, cb [.slice aL R.length cL] 44) :: (l58 ++ ((b57, cb (cN (⟨id, key, xv⟩ : NV)) 94) :: (b7, cb (cV xv) 46) :: (b6, cb (cI key) 23) :: (b5, cb (cI id) 23) :: lr))) (by (refine perm_cnt (fun _ => ?_)); simp only [cntB_append, cntB_cons, cntB_nil, Nat.add_zero, Nat.zero_add]; try ac_rfl) ?_
    refine J.nilCheck rfl rfl ?_
    refine J.fieldAddr Ty.fd44_0 rfl rfl ?_
    refine J.storeO (cs := [.slice aL R.length cL]) (vs := [.slice a58 (R.filter (keepN id key) ++ [(⟨id, key, xv⟩ : NV)]).length c58]) Ty.s42 rfl rfl rfl rfl (by simp [Value.oneCell']) .here (by simp) ?_
    refine J.perm ((rb, cb [.slice a58 (R.filter (keepN id key) ++ [(⟨id, key, xv⟩ : NV)]).length c58] 44) :: (l58 ++ ((b57, cb (cN (⟨id, key, xv⟩ : NV)) 94) :: (b7, cb (cV xv) 46) :: (b6, cb (cI key) 23) :: (b5, cb (cI id) 23) :: lr))) (.refl _) ?_
    refine J.nil ?_
    refine JX.end0 rfl (fun w1 hw => ?_)
    exact ⟨(_, l58), rfl, hv59, (hw.perm (l' := ([(b57, cb (cN (⟨id, key, xv⟩ : NV)) 94), (b7, cb (cV xv) 46), (b6, cb (cI key) 23), (b5, cb (cI id) 23)] ++ lr) ++ ((rb, cb [.slice a58 (R.filter (keepN id key) ++ [(⟨id, key, xv⟩ : NV)]).length c58] 44) :: l58)) (by (refine perm_cnt (fun _ => ?_)); simp only [cntB_append, cntB_cons, cntB_nil, Nat.add_zero, Nat.zero_add]; try ac_rfl)).drop (List.sublist_append_right _ _)⟩

set_option maxHeartbeats 2000000 in
theorem rretain_spec (rb : Nat) (vL : Value) (R : List NV) (lr : List (Nat × Obj)) (v : Value) (fs : List IDV) (w : World) (hrf : Row w v fs.length (fI fs)) (hoff : Off (rb :: lr.map (·.1)) v (fI fs)) (hlf : fs.length ≤ 1000) (hw0 : Own w ((rb, cb [vL] 44) :: lr)) (hvr : Vec 94 49 vL R.length (fN R) lr) (hR : R.length ≤ 1000) :
    Calls Try.prog 29 [.pointer (some ⟨rb, 0, none⟩), v].toArray w fun r w' => ∃ y : Value × List (Nat × Obj), r = .returned (.tuple #[]) ∧ Vec 94 49 y.1 (retR R fs).length (fN (retR R fs)) y.2 ∧ St w (rb :: lr.map (·.1)) ((rb, cb [y.1] 44) :: y.2) w' := by
  obtain ⟨aL, cL, rfl, hcL⟩ := hvr.form
  refine calls_of_J (args := [.pointer (some ⟨rb, 0, none⟩), v]) (e := [(0, .pointer (some ⟨rb, 0, none⟩)), (1, v)]) Try.func29 rfl rfl ⟨rfl, rfl, trivial⟩ (hw0.st) ?_
  refine JC.seq (fun K0 hK0 => ?_)
  refine JC.region ?_
  refine J.assign rfl rfl ?_
  refine J.nil ?_
  refine JX.thenN (hK0 _ _ ?_)
  refine JC.seq (fun K1 hK1 => ?_)
  refine JC.seq (fun K2 hK2 => ?_)
  refine JC.region ?_
  refine J.assign rfl rfl ?_
  refine J.nil ?_
  refine JX.thenN (hK2 _ _ ?_)
  refine JC.block ?_
  refine JC.conseq (JC.cov (f := (fun st => [(0, .pointer (some ⟨rb, 0, none⟩)), (1, v), (4, st.2.1), (5, .int .i64 ((st.1 : Nat) : Int))]) ((0, .slice none 0 0, []) : Nat × Value × List (Nat × Obj))) ⟨rfl, rfl, rfl, rfl, trivial⟩ (JC.loop (α := Nat × Value × List (Nat × Obj)) (fun st => [(0, .pointer (some ⟨rb, 0, none⟩)), (1, v), (4, st.2.1), (5, .int .i64 ((st.1 : Nat) : Int))]) (fun st w' => (st.1 ≤ R.length ∧ Vec 94 49 st.2.1 ((R.take st.1).filter (keepF fs)).length (fN ((R.take st.1).filter (keepF fs))) st.2.2) ∧ St w (rb :: lr.map (·.1)) (st.2.2 ++ ((rb, cb [.slice aL R.length cL] 44) :: lr)) w') (fun st => R.length - st.1) ((0, .slice none 0 0, []) : Nat × Value × List (Nat × Obj)) (fun st => ?_))) (fun w hw => ⟨⟨Nat.zero_le _, Vec.nil _ _⟩, hw⟩)
  obtain ⟨i, vo, lo⟩ := st
  refine JC.pr (fun hI => ?_)
  obtain ⟨hi, hvo⟩ := hI
  try simp only at hi hvo ⊢
  have hfl := List.length_filter_le (keepF fs) (R.take i)
  rw [List.length_take] at hfl
  refine JC.seq (fun K3 hK3 => ?_)
  refine JC.seq (fun K4 hK4 => ?_)
  refine JC.region ?_
  refine J.move rfl rfl ?_
  refine J.move rfl rfl ?_
  refine J.nilCheck rfl rfl ?_
  refine J.fieldAddr Ty.fd44_0 rfl rfl ?_
  refine J.load1 (v := .slice aL R.length cL) Ty.a42 rfl (fun w1 hw => by rw [cell_of (hw.own ((rb, cb [.slice aL R.length cL] 44)) (by repeat first | exact .head _ | apply List.Mem.tail | apply List.mem_append_right))]; rfl) rfl ?_
  refine J.lenS rfl Ty.u42 rfl rfl ?_
  refine J.bin rfl rfl rfl rfl ?_
  refine J.nil ?_
  refine JX.thenN (hK4 _ _ ?_)
  refine JC.cond rfl (fun h0 => ?_) (fun h0 => ?_)
  · skip
    have hlt : i < R.length := by simp at h0; omega
    obtain ⟨nn, hnn⟩ : ∃ y, R[i]? = some y := ⟨_, List.getElem?_eq_getElem hlt⟩
    obtain ⟨ql, rfl⟩ : ∃ q, aL = some ⟨q, 0, none⟩ := by
      rcases hvr.2 with ⟨_, h9, _⟩ | ⟨q, c9, sp, h9, _⟩
      · omega
      · simp only [Value.slice.injEq] at h9; exact ⟨q, h9.1⟩
    refine JC.skip ?_
    refine JX.thenN (hK3 _ _ ?_)
    refine JC.seq (fun K5 hK5 => ?_)
    refine JC.block ?_
    refine JC.seq (fun K6 hK6 => ?_)
    refine JC.region ?_
    refine J.move rfl rfl ?_
    refine J.move rfl rfl ?_
    refine J.nilCheck rfl rfl ?_
    refine J.fieldAddr Ty.fd44_0 rfl rfl ?_
    refine J.load1 (v := .slice (some ⟨ql, 0, none⟩) R.length cL) Ty.a42 rfl (fun w1 hw => by rw [cell_of (hw.own ((rb, cb [.slice (some ⟨ql, 0, none⟩) R.length cL] 44)) (by repeat first | exact .head _ | apply List.Mem.tail | apply List.mem_append_right))]; rfl) rfl ?_
    refine J.move rfl rfl ?_
    refine J.indexAddrS Ty.el42 Ty.s94 rfl rfl (by omega) (by omega) rfl ?_
    refine J.fieldAddr Ty.fd94_0 rfl rfl ?_
    refine J.loadA (vs := cI nn.id) Ty.a23 Ty.s23 rfl rfl (fun w1 hw => noteF_at (r := 0) (vec_rowM hvr hw (by intro q hq; simp [hq])) hnn rfl (by simp)) rfl ?_
    refine J.callB (v := .bool (decide (nn.id ∈ fs))) (fun w1 w2 hw hb => hw.step hb) Ty.bd40 rfl rfl (fun w1 hw => rhas_spec v fs nn.id w1 (hrf.st hoff hw) (by omega)) ?_
    refine J.nil ?_
    refine JX.thenN (hK6 _ _ ?_)
    refine JC.cond rfl (fun h1 => ?_) (fun h1 => ?_)
    · skip
      have hkp : keepF fs nn = true := h1
      refine JC.region ?_
      refine J.move rfl rfl ?_
      refine J.move rfl rfl ?_
      refine J.nilCheck rfl rfl ?_
      refine J.fieldAddr Ty.fd44_0 rfl rfl ?_
      refine J.load1 (v := .slice (some ⟨ql, 0, none⟩) R.length cL) Ty.a42 rfl (fun w1 hw => by rw [cell_of (hw.own ((rb, cb [.slice (some ⟨ql, 0, none⟩) R.length cL] 44)) (by repeat first | exact .head _ | apply List.Mem.tail | apply List.mem_append_right))]; rfl) rfl ?_
      refine J.move rfl rfl ?_
      refine J.indexAddrS Ty.el42 Ty.s94 rfl rfl (by omega) (by omega) rfl ?_
      refine J.loadA (vs := cN nn) Ty.a94 Ty.s94 rfl rfl (fun w1 hw => noteF_at (r := 0) (vec_rowM hvr hw (by intro q hq; simp [hq])) hnn rfl (by simp)) rfl ?_
      refine J.buildSl (cs := cN nn) Ty.el42 Ty.s94 zNt rfl rfl rfl rfl (by kernel_rfl) rfl rfl (fun b33 => ?_)
      refine J.perm (lo ++ ((b33, cb (cN nn) 94) :: (rb, cb [.slice (some ⟨ql, 0, none⟩) R.length cL] 44) :: lr)) (by (refine perm_cnt (fun _ => ?_)); simp only [cntB_append, cntB_cons, cntB_nil, Nat.add_zero, Nat.zero_add]; try ac_rfl) ?_
      refine J.append (lp := lo) (xs := fN ((R.take i).filter (keepF fs))) (ys := cN nn) (k := (((R.take i).filter (keepF fs))).length) (m := 1) Ty.el42 Ty.s94 Ty.b94 zNt rfl (.inl ⟨94, Ty.u42⟩) rfl rfl hvo (fun w1 hw => .inl (Row.own (cs := cN nn) (tb := 94) (fr := (0, 0)) hw (List.mem_append_right _ (.head _)) (List.take_of_length_le (Nat.le_refl _)) (Nat.le_refl _))) rfl (one_cN _) (by omega) (by omega) rfl (fun v34 l34 hv34 => ?_)
      refine J.assign rfl rfl ?_
      refine J.nil ?_
      refine JX.blockN ?_
      refine JX.thenN (hK5 _ _ ?_)
      refine JC.region ?_
      refine J.move rfl rfl ?_
      (first | refine J.addN rfl rfl (by omega) (by omega) rfl ?_ | refine J.bin rfl rfl rfl rfl ?_)
      refine J.assign rfl rfl ?_
      refine J.nil ?_
      refine JX.thenN ?_
      refine JX.again ((i + 1, v34, l34) : Nat × Value × List (Nat × Obj)) ?_ ?_ ?_
      · simp only; omega
      · exact ⟨rfl, rfl, rfl, rfl, trivial⟩
      · exact fun w1 hw => ⟨⟨hlt, vec_yes hnn hkp hv34⟩, (hw.perm (l' := [(b33, cb (cN nn) 94)] ++ (l34 ++ ((rb, cb [.slice (some ⟨ql, 0, none⟩) R.length cL] 44) :: lr))) (by (refine perm_cnt (fun _ => ?_)); simp only [cntB_append, cntB_cons, cntB_nil, Nat.add_zero, Nat.zero_add]; try ac_rfl)).drop (List.sublist_append_right _ _)⟩
    · skip
      have hkp : ¬ keepF fs nn = true := by rw [show keepF fs nn = false from h1]; decide
      refine JC.skip ?_
      refine JX.blockN ?_
      refine JX.thenN (hK5 _ _ ?_)
      refine JC.region ?_
      refine J.move rfl rfl ?_
      (first | refine J.addN rfl rfl (by omega) (by omega) rfl ?_ | refine J.bin rfl rfl rfl rfl ?_)
      refine J.assign rfl rfl ?_
      refine J.nil ?_
      refine JX.thenN ?_
      refine JX.again ((i + 1, vo, lo) : Nat × Value × List (Nat × Obj)) ?_ ?_ ?_
      · simp only; omega
      · exact ⟨rfl, rfl, rfl, rfl, trivial⟩
      · exact fun w1 hw => ⟨⟨hlt, vec_no hnn hkp hvo⟩, hw⟩
  · skip
    have hge : i = R.length := by simp at h0; omega
    rw [hge, List.take_of_length_le (Nat.le_refl _)] at hvo hfl
    obtain ⟨a4, c4, rfl, hc4⟩ := hvo.form
    refine JC.exit ?_
    refine JX.thenE ?_
    refine JX.thenE ?_
    refine JX.blockE ?_
    refine JX.thenN (hK1 _ _ ?_)
    refine JC.region ?_
    refine J.move rfl rfl ?_
    refine J.move rfl rfl ?_
    refine J.nilCheck rfl rfl ?_
    refine J.fieldAddr Ty.fd44_0 rfl rfl ?_
    refine J.perm ((rb, cb [.slice aL R.length cL] 44) :: (lo ++ lr)) (by (refine perm_cnt (fun _ => ?_)); simp only [cntB_append, cntB_cons, cntB_nil, Nat.add_zero, Nat.zero_add]; try ac_rfl) ?_
    refine J.storeO (cs := [.slice aL R.length cL]) (vs := [.slice a4 (R.filter (keepF fs)).length c4]) Ty.s42 rfl rfl rfl rfl (by simp [Value.oneCell']) .here (by simp) ?_
    refine J.perm ((rb, cb [.slice a4 (R.filter (keepF fs)).length c4] 44) :: (lo ++ lr)) (.refl _) ?_
    refine J.nil ?_
    refine JX.end0 rfl (fun w1 hw => ?_)
    exact ⟨(_, lo), rfl, hvo, (hw.perm (l' := lr ++ ((rb, cb [.slice a4 (R.filter (keepF fs)).length c4] 44) :: lo)) (by (refine perm_cnt (fun _ => ?_)); simp only [cntB_append, cntB_cons, cntB_nil, Nat.add_zero, Nat.zero_add]; try ac_rfl)).drop (List.sublist_append_right _ _)⟩

end Go.Proofs.Ytbafhclandendaa
/-
  What is due by the document's book; two items that are one; items cut: contracts.
-/
namespace Go.Proofs.Ytbafhclandendaa
open Go.J Go.RowKit
set_option linter.unusedVariables false
set_option linter.unusedSimpArgs false
set_option maxRecDepth 8000
/-- a list's version of a friend and a key: the last note's -/
def valG (v : WV) (R : List NV) : BF := fun id key => R.foldl (fun v n => if n.id = id ∧ n.key = key then n.ver else v) v
def valF (R : List NV) : BF := valG zV R
theorem valF_snoc {R : List NV} {j : Nat} {n : NV} (h : R[j]? = some n) (id key : IDV) : valF (R.take (j + 1)) id key = if n.id = id ∧ n.key = key then n.ver else valF (R.take j) id key := by
  unfold valF valG
  rw [List.take_add_one, h, List.foldl_append]
  rfl
theorem valG_filter (p : NV → Bool) (id key : IDV) : ∀ (R : List NV) (v : WV), (∀ n, n ∈ R → n.id = id → n.key = key → p n = true) → valG v (R.filter p) id key = valG v R id key
  | [], _, _ => rfl
  | n :: R, v, h => by
    have ih := fun v => valG_filter p id key R v (fun m hm => h m (.tail _ hm))
    by_cases hp : p n = true
    · rw [List.filter_cons_of_pos hp]
      show valG (if n.id = id ∧ n.key = key then n.ver else v) (R.filter p) id key = valG (if n.id = id ∧ n.key = key then n.ver else v) R id key
      exact ih _
    · rw [List.filter_cons_of_neg hp, ih v]
      have : ¬ (n.id = id ∧ n.key = key) := fun q => hp (h n (.head _) q.1 q.2)
      show valG v R id key = valG (if n.id = id ∧ n.key = key then n.ver else v) R id key
      rw [if_neg this]
theorem valG_none (id key : IDV) : ∀ (R : List NV) (v : WV), (∀ n, n ∈ R → ¬ (n.id = id ∧ n.key = key)) → valG v R id key = v
  | [], _, _ => rfl
  | n :: R, v, h => by
    show valG (if n.id = id ∧ n.key = key then n.ver else v) R id key = v
    rw [if_neg (h n (.head _))]
    exact valG_none id key R v (fun m hm => h m (.tail _ hm))
theorem valF_mark (R : List NV) (id key : IDV) (x : WV) : valF (markR R id key x) = updF (valF R) id key x := by
  funext a k
  unfold updF markR valF
  have h1 : valG zV (R.filter (keepN id key) ++ [⟨id, key, x⟩]) a k = if id = a ∧ key = k then x else valG zV (R.filter (keepN id key)) a k := by
    unfold valG
    rw [List.foldl_append]
    rfl
  rw [h1]
  by_cases hq : a = id ∧ k = key
  · rw [if_pos hq, if_pos ⟨hq.1.symm, hq.2.symm⟩]
  · rw [if_neg hq, if_neg (fun q => hq ⟨q.1.symm, q.2.symm⟩)]
    exact valG_filter _ a k R zV (fun n _ h2 h3 => by
      unfold keepN
      by_cases h4 : n.id = id
      · have : ¬ n.key = key := fun h5 => hq ⟨h2.symm.trans h4, h3.symm.trans h5⟩
        simp [this]
      · simp [h4])
theorem valF_ret (R : List NV) (fs : List IDV) : valF (retR R fs) = retF (valF R) fs := by
  funext a k
  unfold retF valF retR
  by_cases ha : a ∈ fs
  · rw [if_pos ha]
    exact valG_filter _ a k R zV (fun n _ h2 _ => by unfold keepF; rw [h2]; simpa using ha)
  · rw [if_neg ha]
    exact valG_none a k _ zV (fun n hn q => by
      have := (List.mem_filter.1 hn).2
      unfold keepF at this
      rw [q.1] at this
      exact ha (by simpa using this))
theorem valF_ok {R : List NV} (h : ∀ n, n ∈ R → okN n.ver.n) (id key : IDV) : okN (valF R id key).n := by
  have key' : ∀ (R : List NV) (v : WV), okN v.n → (∀ n, n ∈ R → okN n.ver.n) → okN (valG v R id key).n := by
    intro R
    induction R with
    | nil => exact fun v hv _ => hv
    | cons n R ih =>
      intro v hv h
      show okN (valG (if n.id = id ∧ n.key = key then n.ver else v) R id key).n
      refine ih _ ?_ (fun m hm => h m (.tail _ hm))
      split
      · exact h n (.head _)
      · exact hv
  exact key' R zV okZ h
abbrev cRD (p : IDV × IX) : List Value := cI p.1 ++ cIX p.2
abbrev fRD (l : List (IDV × IX)) : List Value := l.flatMap cRD
theorem zRDue : zeroT Try.prog 62 = some (.agg (cRD (zI, ⟨⟨zI, zV, []⟩, none, 0⟩)).toArray) := by kernel_rfl
theorem one_cRD (p : IDV × IX) : ∀ v, v ∈ cRD p → v.oneCell' = true := by
  intro v hv
  rcases List.mem_append.1 hv with hv | hv
  · exact one_cI _ v hv
  · exact one_cIT _ _ _ _ v hv
theorem vecR_yes {F : BF} {x : IX} {l : List IDV} {k : Nat} {id : IDV} {q : List (IDV × IX)} {v : Value} {lp : List (Nat × Obj)} (h : l[k]? = some id) (hv : ¬ F id x.it.key = x.it.ver) (hs : Vec 62 50 v ((q ++ dueOf F x (l.take k)).length + 1) (fRD (q ++ dueOf F x (l.take k)) ++ cRD (id, x)) lp) : Vec 62 50 v (q ++ dueOf F x (l.take (k + 1))).length (fRD (q ++ dueOf F x (l.take (k + 1)))) lp := by
  rw [due_snoc h, if_neg hv, ← List.append_assoc, List.length_append, show fRD (q ++ dueOf F x (l.take k) ++ [(id, x)]) = fRD (q ++ dueOf F x (l.take k)) ++ cRD (id, x) by simp only [fRD, List.flatMap_append, List.flatMap_cons, List.flatMap_nil, List.append_nil]]
  exact hs
theorem vecR_no {F : BF} {x : IX} {l : List IDV} {k : Nat} {id : IDV} {q : List (IDV × IX)} {v : Value} {lp : List (Nat × Obj)} (h : l[k]? = some id) (hv : F id x.it.key = x.it.ver) (hs : Vec 62 50 v (q ++ dueOf F x (l.take k)).length (fRD (q ++ dueOf F x (l.take k))) lp) : Vec 62 50 v (q ++ dueOf F x (l.take (k + 1))).length (fRD (q ++ dueOf F x (l.take (k + 1)))) lp := by
  rw [due_snoc h, if_pos hv, List.append_nil]
  exact hs
structure RdS where
  i : Nat
  v : Value
  lp : List (Nat × Obj)
theorem itemF_at {w : World} {b o c i q r : Nat} {xs : List IX} {x : IX} {vs : List Value} (h : Row w (.slice (some ⟨b, o, none⟩) xs.length c) xs.length (fIX xs)) (hx : xs[i]? = some x) (hv : ((cIX x).drop r).take vs.length = vs) (hq : q = o + i * 34 + r) : Cells w b q vs := by
  have h1 := rowG_at (c := cIX) (sz := 34) (fun _ => rfl) h hx (q := o + i * 34) rfl
  intro j hj
  have h2 : (((cIX x).drop r).take vs.length)[j]? = vs[j]? := by rw [hv]
  rw [List.getElem?_take_of_lt hj, List.getElem?_drop] at h2
  have hlt : r + j < (cIX x).length := by
    rcases Nat.lt_or_ge (r + j) (cIX x).length with h | h
    · exact h
    · rw [List.getElem?_eq_none h, List.getElem?_eq_getElem hj] at h2
      cases h2
  have h3 := h1 (r + j) hlt
  rw [hq, show o + i * 34 + r + j = o + i * 34 + (r + j) by omega, h3, h2]

set_option maxHeartbeats 2000000 in
theorem rdue_spec (rb : Nat) (vL : Value) (R : List NV) (self : IDV) (v : Value) (fs : List IDV) (v2 : Value) (xs : List IX) (w : World) (hr : Row w v fs.length (fI fs)) (hl : fs.length ≤ 12) (hr2 : Row w v2 xs.length (fIX xs)) (hl2 : xs.length ≤ 12) (hokx : ∀ x, x ∈ xs → okN x.it.ver.n) (hrb : w.heap[rb]? = some (cb [vL] 44)) (hrL : Row w vL R.length (fN R)) (hR : R.length ≤ 1000) (hRok : ∀ n, n ∈ R → okN n.ver.n) :
    Calls Try.prog 31 [.pointer (some ⟨rb, 0, none⟩), .agg (cI self).toArray, v, v2].toArray w fun r w' => ∃ s : Value × List (Nat × Obj), r = .returned s.1 ∧ Vec 62 50 s.1 (dueL (valF R) self fs xs).length (fRD (dueL (valF R) self fs xs)) s.2 ∧ St w [] s.2 w' := by
  obtain ⟨ai, ci, rfl, hci, _⟩ := _root_.id hr2
  obtain ⟨aL, cL, rfl, hcL, _⟩ := _root_.id hrL
  refine calls_of_J (args := [.pointer (some ⟨rb, 0, none⟩), .agg (cI self).toArray, v, .slice ai xs.length ci]) (e := [(0, .pointer (some ⟨rb, 0, none⟩)), (1, .agg (cI self).toArray), (2, v), (3, .slice ai xs.length ci)]) Try.func31 rfl rfl ⟨rfl, rfl, rfl, rfl, trivial⟩ (St.start w) ?_
  refine JC.seq (fun K0 hK0 => ?_)
  refine JC.region ?_
  refine J.box rfl rfl rfl (fun b5 => ?_)
  refine J.assign rfl rfl ?_
  refine J.nil ?_
  refine JX.thenN (hK0 _ _ ?_)
  refine JC.seq (fun K1 hK1 => ?_)
  refine JC.region ?_
  refine J.assign rfl rfl ?_
  refine J.nil ?_
  refine JX.thenN (hK1 _ _ ?_)
  refine JC.seq (fun K2 hK2 => ?_)
  refine JC.seq (fun K3 hK3 => ?_)
  refine JC.region ?_
  refine J.assign rfl rfl ?_
  refine J.nil ?_
  refine JX.thenN (hK3 _ _ ?_)
  refine JC.block ?_
  refine JC.conseq (JC.cov (f := (fun st => [(0, .pointer (some ⟨rb, 0, none⟩)), (2, v), (3, .slice ai xs.length ci), (5, .pointer (some ⟨b5, 0, none⟩)), (9, st.v), (10, .int .i64 ((st.i : Nat) : Int))]) (⟨0, .slice none 0 0, []⟩ : RdS)) ⟨rfl, rfl, rfl, rfl, rfl, rfl, trivial⟩ (JC.loop (α := RdS) (fun st => [(0, .pointer (some ⟨rb, 0, none⟩)), (2, v), (3, .slice ai xs.length ci), (5, .pointer (some ⟨b5, 0, none⟩)), (9, st.v), (10, .int .i64 ((st.i : Nat) : Int))]) (fun st w' => (st.i ≤ xs.length ∧ Vec 62 50 st.v (dueL (valF R) self fs (xs.take st.i)).length (fRD (dueL (valF R) self fs (xs.take st.i))) st.lp) ∧ St w [] (st.lp ++ ((b5, cb (cI self) 23) :: [])) w') (fun st => xs.length - st.i) (⟨0, .slice none 0 0, []⟩ : RdS) (fun st => ?_))) (fun w hw => ⟨⟨Nat.zero_le _, Vec.nil _ _⟩, hw⟩)
  obtain ⟨i, v9, lp9⟩ := st
  refine JC.pr (fun hI => ?_)
  obtain ⟨hi, hv9⟩ := hI
  try simp only at hi hv9 ⊢
  refine JC.seq (fun K4 hK4 => ?_)
  refine JC.seq (fun K5 hK5 => ?_)
  refine JC.region ?_
  refine J.move rfl rfl ?_
  refine J.move rfl rfl ?_
  refine J.lenS rfl Ty.u47 rfl rfl ?_
  refine J.bin rfl rfl rfl rfl ?_
  refine J.nil ?_
  refine JX.thenN (hK5 _ _ ?_)
  refine JC.cond rfl (fun h0 => ?_) (fun h0 => ?_)
  · skip
    have hlt : i < xs.length := by simp at h0; omega
    have hflx : (fIX xs).length = xs.length * 34 := fG_length (c := cIX) (sz := 34) (fun _ => rfl) xs
    obtain ⟨qi, oi, ci', hqe, _, _⟩ := Row.some hr2 (by omega)
    simp only [Value.slice.injEq] at hqe
    obtain ⟨hai, _, _⟩ := hqe
    obtain ⟨xt, hx⟩ : ∃ x, xs[i]? = some x := ⟨_, List.getElem?_eq_getElem hlt⟩
    have hxm := List.mem_of_getElem? hx
    have h2s : Row w (.slice (some ⟨qi, oi, none⟩) xs.length ci) xs.length (fIX xs) := by rw [← hai]; exact hr2
    refine JC.skip ?_
    refine JX.thenN (hK4 _ _ ?_)
    refine JC.seq (fun K6 hK6 => ?_)
    refine JC.block ?_
    refine JC.seq (fun K7 hK7 => ?_)
    apply JC.drawX (α := Value × List (Nat × Obj)) 8 (fun x => match x with | ⟨vow, low⟩ => [.agg (cI self).toArray, v, .slice (some ⟨qi, oi, none⟩) xs.length ci, .int .i64 ((i : Nat) : Int), .pointer (some ⟨qi, oi + (i : Int).toNat * 34, none⟩), .pointer (some ⟨qi, oi + (i : Int).toNat * 34 + 0, none⟩), .agg (cI xt.it.key).toArray, vow]) (fun m x => match x with | ⟨vow, low⟩ => fun w1 => (m 7 = true → Vec 23 16 vow (owedV self fs xt.it.key).length (fI (owedV self fs xt.it.key)) low) ∧ St w [] ((bif m 7 then low else []) ++ (lp9 ++ ((b5, cb (cI self) 23) :: []))) w1) Ty.mixed rfl rfl rfl (by kernel_rfl) rfl rfl ?hinit ?hstep ?htail
    case hinit => exact fun w1 hw => ⟨(.slice none 0 0, []), fun h => (by cases h), hw.drew⟩
    case hstep =>
      refine ⟨fun m x hm hp => ?_, fun m x hm hp => ?_, fun m x hm hp => ?_, fun m x hm hp => ?_, fun m x hm hp => ?_, fun m x hm hp => ?_, fun m x hm hp => ?_, fun m x hm hp => ?_, trivial⟩
      · skip
        obtain ⟨vow, low⟩ := x
        show J _ _ _ _ _ (_) _
        refine J.pr (fun hF => ?_)
        refine J.loadA (vs := cI self) Ty.a23 Ty.s23 rfl rfl (fun w1 hw => Cells.of_block (hw.own ((b5, cb (cI self) 23)) (by repeat first | exact .head _ | apply List.Mem.tail | apply List.mem_append_right)) rfl) rfl ?_
        exact J.finX rfl (fun _ hw => ⟨⟨vow, low⟩, rfl, fun _ _ _ => rfl, hF, hw⟩)
      · skip
        obtain ⟨vow, low⟩ := x
        show J _ _ _ _ _ (_) _
        refine J.pr (fun hF => ?_)
        refine J.move rfl rfl ?_
        exact J.finX rfl (fun _ hw => ⟨⟨vow, low⟩, rfl, fun _ _ _ => rfl, hF, hw⟩)
      · skip
        obtain ⟨vow, low⟩ := x
        show J _ _ _ _ _ (_) _
        refine J.pr (fun hF => ?_)
        refine J.move rfl rfl ?_
        refine J.name 23 rfl (show _ = Value.slice (some ⟨qi, oi, none⟩) xs.length ci by rw [hai]) ?_
        exact J.finX rfl (fun _ hw => ⟨⟨vow, low⟩, rfl, fun _ _ _ => rfl, hF, hw⟩)
      · skip
        obtain ⟨vow, low⟩ := x
        show J _ _ _ _ _ (_) _
        refine J.pr (fun hF => ?_)
        refine J.move rfl rfl ?_
        exact J.finX rfl (fun _ hw => ⟨⟨vow, low⟩, rfl, fun _ _ _ => rfl, hF, hw⟩)
      · skip
        obtain ⟨vow, low⟩ := x
        show J _ _ _ _ _ ((24, .int .i64 ((i : Nat) : Int)) :: (23, .slice (some ⟨qi, oi, none⟩) xs.length ci) :: _) _
        refine J.pr (fun hF => ?_)
        refine J.indexAddrS Ty.el47 Ty.s53 rfl rfl (by omega) (by omega) rfl ?_
        exact J.finX rfl (fun _ hw => ⟨⟨vow, low⟩, rfl, fun _ _ _ => rfl, hF, hw⟩)
      · skip
        obtain ⟨vow, low⟩ := x
        show J _ _ _ _ _ ((25, .pointer (some ⟨qi, oi + (i : Int).toNat * 34, none⟩)) :: _) _
        refine J.pr (fun hF => ?_)
        refine J.fieldAddr Ty.fd53_0 rfl rfl ?_
        exact J.finX rfl (fun _ hw => ⟨⟨vow, low⟩, rfl, fun _ _ _ => rfl, hF, hw⟩)
      · skip
        obtain ⟨vow, low⟩ := x
        show J _ _ _ _ _ ((26, .pointer (some ⟨qi, oi + (i : Int).toNat * 34 + 0, none⟩)) :: _) _
        refine J.pr (fun hF => ?_)
        refine J.loadA (vs := cI xt.it.key) Ty.a23 Ty.s23 rfl rfl (fun w1 hw => itemF_at (r := 0) (h2s.below (hw.drop (List.nil_sublist _)).below) hx rfl (by simp)) rfl ?_
        exact J.finX rfl (fun _ hw => ⟨⟨vow, low⟩, rfl, fun _ _ _ => rfl, hF, hw⟩)
      · skip
        obtain ⟨vow, low⟩ := x
        show J _ _ _ _ _ ((27, .agg (cI xt.it.key).toArray) :: (22, v) :: (21, .agg (cI self).toArray) :: _) _
        refine J.pr (fun hF => ?_)
        refine J.conseq (I' := St w [] (lp9 ++ ((b5, cb (cI self) 23) :: []))) ?_ (fun w1 hw => by simp only [hm, cond_false, List.nil_append] at hw; exact hw)
        refine J.perm ([] ++ (lp9 ++ ((b5, cb (cI self) 23) :: []))) (.refl _) ?_
        refine J.callS (α := Value × List (Nat × Obj)) (V := (·.1)) (Pr := fun xo => Vec 23 16 xo.1 (owedV self fs xt.it.key).length (fI (owedV self fs xt.it.key)) xo.2) (L := (·.2)) (l1 := []) Ty.bd20 rfl rfl (fun w1 hw => rowed_spec self _ fs xt.it.key w1 (hr.below (hw.drop (List.nil_sublist _)).below) (by omega)) (fun xo hvn => ?_)
        obtain ⟨vn, ln⟩ := xo
        simp only at hvn ⊢
        refine J.nil (JX.finB rfl (fun w1 hw => ⟨⟨⟨vn, ln⟩, rfl, fun j h1 h2 => ?_, ?_⟩, trivial⟩))
        · match j, h1 with
          | 0, _ => (first | rfl | trivial)
          | 1, _ => (first | rfl | trivial)
          | 2, _ => (first | rfl | trivial)
          | 3, _ => (first | rfl | trivial)
          | 4, _ => (first | rfl | trivial)
          | 5, _ => (first | rfl | trivial)
          | 6, _ => (first | rfl | trivial)
          | 7, _ => exact absurd (h2.symm.trans hm) (by decide)
          | j + 8, h1 => omega
        show (true = true → Vec 23 16 vn (owedV self fs xt.it.key).length (fI (owedV self fs xt.it.key)) ln) ∧ St w [] ((bif true then ln else []) ++ (lp9 ++ ((b5, cb (cI self) 23) :: []))) w1
        simp only [hm, cond_true, cond_false] at hw ⊢
        exact ⟨fun _ => hvn, hw⟩
    case htail =>
      intro x
      obtain ⟨vow, low⟩ := x
      show J _ _ _ _ _ ((28, vow) :: (27, .agg (cI xt.it.key).toArray) :: (26, .pointer (some ⟨qi, oi + (i : Int).toNat * 34 + 0, none⟩)) :: (25, .pointer (some ⟨qi, oi + (i : Int).toNat * 34, none⟩)) :: (24, .int .i64 ((i : Nat) : Int)) :: (23, .slice (some ⟨qi, oi, none⟩) xs.length ci) :: (22, v) :: (21, .agg (cI self).toArray) :: _) (fun w1 => (true = true → Vec 23 16 vow (owedV self fs xt.it.key).length (fI (owedV self fs xt.it.key)) low) ∧ St w [] ((bif true then low else []) ++ (lp9 ++ ((b5, cb (cI self) 23) :: []))) w1)
      refine J.pr (fun hF => ?_)
      have hvo0 := hF rfl
      obtain ⟨ao, co_, rfl, hco⟩ := hvo0.form
      obtain ⟨lo, hlo⟩ : ∃ l, l = low := ⟨_, rfl⟩
      rw [← hlo] at hvo0
      have hvo := hvo0
      refine J.conseq (I' := St w [] (lo ++ (lp9 ++ ((b5, cb (cI self) 23) :: [])))) ?_ (fun w1 hw => by simp only [cond_true] at hw; rw [hlo]; exact hw)
      refine J.assign rfl rfl ?_
      refine J.nil ?_
      refine JX.thenN (hK7 _ _ ?_)
      refine JC.seq (fun K8 hK8 => ?_)
      refine JC.region ?_
      refine J.assign rfl rfl ?_
      refine J.nil ?_
      refine JX.thenN (hK8 _ _ ?_)
      refine JC.block ?_
      refine JC.conseq (JC.cov (f := (fun st => [(0, .pointer (some ⟨rb, 0, none⟩)), (2, v), (3, .slice ai xs.length ci), (5, .pointer (some ⟨b5, 0, none⟩)), (9, st.v), (10, .int .i64 ((i : Nat) : Int)), (11, .slice ao (owedV self fs xt.it.key).length co_), (12, .int .i64 ((st.i : Nat) : Int))]) (⟨0, v9, lp9⟩ : RdS)) ⟨rfl, rfl, rfl, rfl, rfl, rfl, rfl, rfl, trivial⟩ (JC.loop (α := RdS) (fun st => [(0, .pointer (some ⟨rb, 0, none⟩)), (2, v), (3, .slice ai xs.length ci), (5, .pointer (some ⟨b5, 0, none⟩)), (9, st.v), (10, .int .i64 ((i : Nat) : Int)), (11, .slice ao (owedV self fs xt.it.key).length co_), (12, .int .i64 ((st.i : Nat) : Int))]) (fun st w' => (st.i ≤ (owedV self fs xt.it.key).length ∧ Vec 62 50 st.v (dueL (valF R) self fs (xs.take i) ++ dueOf (valF R) xt ((owedV self fs xt.it.key).take st.i)).length (fRD (dueL (valF R) self fs (xs.take i) ++ dueOf (valF R) xt ((owedV self fs xt.it.key).take st.i))) st.lp) ∧ St w [] (st.lp ++ (lo ++ ((b5, cb (cI self) 23) :: []))) w') (fun st => (owedV self fs xt.it.key).length - st.i) (⟨0, v9, lp9⟩ : RdS) (fun st => ?_))) (fun w hw => ⟨⟨Nat.zero_le _, by rw [show dueOf (valF R) xt ((owedV self fs xt.it.key).take 0) = [] by rfl, List.append_nil]; exact hv9⟩, hw.perm (by (refine perm_cnt (fun _ => ?_)); simp only [cntB_append, cntB_cons, cntB_nil, Nat.add_zero, Nat.zero_add]; try ac_rfl)⟩)
      obtain ⟨k, vk, lk⟩ := st
      refine JC.pr (fun hI => ?_)
      obtain ⟨hk, hvk⟩ := hI
      try simp only at hk hvk ⊢
      refine JC.seq (fun K9 hK9 => ?_)
      refine JC.seq (fun K10 hK10 => ?_)
      refine JC.region ?_
      refine J.move rfl rfl ?_
      refine J.move rfl rfl ?_
      refine J.lenS rfl Ty.u24 rfl rfl ?_
      refine J.bin rfl rfl rfl rfl ?_
      refine J.nil ?_
      refine JX.thenN (hK10 _ _ ?_)
      refine JC.cond rfl (fun h1 => ?_) (fun h1 => ?_)
      · skip
        have hkl : k < (owedV self fs xt.it.key).length := by simp at h1; omega
        obtain ⟨id, hid⟩ : ∃ y, (owedV self fs xt.it.key)[k]? = some y := ⟨_, List.getElem?_eq_getElem hkl⟩
        obtain ⟨qo, rfl⟩ : ∃ q, ao = some ⟨q, 0, none⟩ := by
          rcases hvo.2 with ⟨_, h9, _⟩ | ⟨q, c9, sp, h9, _⟩
          · omega
          · simp only [Value.slice.injEq] at h9; exact ⟨q, h9.1⟩
        have hbd := dueL_len (F := (valF R)) (self := self) hl (xs.take i)
        have hbd2 := dueOf_len (valF R) xt ((owedV self fs xt.it.key).take k)
        have hol := owed_len self fs xt.it.key
        rw [List.length_take] at hbd hbd2
        have hQ : (dueL (valF R) self fs (xs.take i) ++ dueOf (valF R) xt ((owedV self fs xt.it.key).take k)).length ≤ 156 := by rw [List.length_append]; omega
        refine JC.skip ?_
        refine JX.thenN (hK9 _ _ ?_)
        refine JC.seq (fun K11 hK11 => ?_)
        refine JC.block ?_
        refine JC.seq (fun K12 hK12 => ?_)
        refine JC.region ?_
        refine J.alloc Ty.zVr rfl rfl (fun b13 => ?_)
        refine J.nil ?_
        refine JX.thenN (hK12 _ _ ?_)
        refine JC.seq (fun K13 hK13 => ?_)
        refine JC.seq (fun K14 hK14 => ?_)
        refine JC.region ?_
        refine J.assign rfl rfl ?_
        refine J.nil ?_
        refine JX.thenN (hK14 _ _ ?_)
        refine JC.block ?_
        refine JC.conseq (JC.cov (f := (fun j => [(0, .pointer (some ⟨rb, 0, none⟩)), (2, v), (3, .slice ai xs.length ci), (5, .pointer (some ⟨b5, 0, none⟩)), (9, vk), (10, .int .i64 ((i : Nat) : Int)), (11, .slice (some ⟨qo, 0, none⟩) (owedV self fs xt.it.key).length co_), (12, .int .i64 ((k : Nat) : Int)), (13, .pointer (some ⟨b13, 0, none⟩)), (14, .int .i64 ((j : Nat) : Int))]) 0) ⟨rfl, rfl, rfl, rfl, rfl, rfl, rfl, rfl, rfl, rfl, trivial⟩ (JC.loop (α := Nat) (fun j => [(0, .pointer (some ⟨rb, 0, none⟩)), (2, v), (3, .slice ai xs.length ci), (5, .pointer (some ⟨b5, 0, none⟩)), (9, vk), (10, .int .i64 ((i : Nat) : Int)), (11, .slice (some ⟨qo, 0, none⟩) (owedV self fs xt.it.key).length co_), (12, .int .i64 ((k : Nat) : Int)), (13, .pointer (some ⟨b13, 0, none⟩)), (14, .int .i64 ((j : Nat) : Int))]) (fun j w' => (j ≤ R.length) ∧ St w [] ((b13, cb (cV (valF (R.take j) id xt.it.key)) 46) :: (lk ++ (lo ++ ((b5, cb (cI self) 23) :: [])))) w') (fun j => R.length - j) 0 (fun j => ?_))) (fun w hw => ⟨Nat.zero_le _, hw⟩)
        refine JC.pr (fun hj => ?_)
        refine JC.seq (fun K15 hK15 => ?_)
        refine JC.seq (fun K16 hK16 => ?_)
        refine JC.region ?_
        refine J.move rfl rfl ?_
        refine J.move rfl rfl ?_
        refine J.nilCheck rfl rfl ?_
        refine J.fieldAddr Ty.fd44_0 rfl rfl ?_
        refine J.load1 (v := .slice aL R.length cL) Ty.a42 rfl (fun w1 hw => by rw [cell_of (by rw [hw.keep rb (lt_of_some hrb) (by simp)]; exact hrb)]; rfl) rfl ?_
        refine J.lenS rfl Ty.u42 rfl rfl ?_
        refine J.bin rfl rfl rfl rfl ?_
        refine J.nil ?_
        refine JX.thenN (hK16 _ _ ?_)
        refine JC.cond rfl (fun h2 => ?_) (fun h2 => ?_)
        · skip
          have hjl : j < R.length := by simp at h2; omega
          have hflR : (fN R).length = R.length * 49 := fG_length (c := cN) (sz := 49) (fun _ => rfl) R
          obtain ⟨ql, ol, cL', hqe, _, _⟩ := Row.some hrL (by omega)
          simp only [Value.slice.injEq] at hqe
          obtain ⟨haL, _, _⟩ := hqe
          obtain ⟨nn, hnn⟩ : ∃ x, R[j]? = some x := ⟨_, List.getElem?_eq_getElem hjl⟩
          have hLs : Row w (.slice (some ⟨ql, ol, none⟩) R.length cL) R.length (fN R) := by rw [← haL]; exact hrL
          refine JC.skip ?_
          refine JX.thenN (hK15 _ _ ?_)
          refine JC.seq (fun K17 hK17 => ?_)
          refine JC.block ?_
          refine JC.seq (fun K18 hK18 => ?_)
          by_cases hn1 : nn.id = id
          · skip
            apply JC.drawL 29 [Eqv (.pointer (some ⟨rb, 0, none⟩)), Eqv (.pointer (some ⟨rb, 0, none⟩)), Eqv (.pointer (some ⟨rb, 0 + 0, none⟩)), Eqv (.slice (some ⟨ql, ol, none⟩) R.length cL), Eqv (.int .i64 ((j : Nat) : Int)), Eqv (.pointer (some ⟨ql, ol + (j : Int).toNat * 49, none⟩)), Eqv (.pointer (some ⟨ql, ol + (j : Int).toNat * 49 + 0, none⟩)), Eqv (.agg (cI nn.id).toArray), Eqv (.slice (some ⟨qo, 0, none⟩) (owedV self fs xt.it.key).length co_), Eqv (.int .i64 ((k : Nat) : Int)), Eqv (.pointer (some ⟨qo, 0 + (k : Int).toNat * 16, none⟩)), Eqv (.agg (cI id).toArray), Eqv (.bool true), Eqv (.bool true), Eqv (.pointer (some ⟨rb, 0, none⟩)), Eqv (.pointer (some ⟨rb, 0, none⟩)), Eqv (.pointer (some ⟨rb, 0 + 0, none⟩)), Eqv (.slice (some ⟨ql, ol, none⟩) R.length cL), Eqv (.int .i64 ((j : Nat) : Int)), Eqv (.pointer (some ⟨ql, ol + (j : Int).toNat * 49, none⟩)), Eqv (.pointer (some ⟨ql, ol + (j : Int).toNat * 49 + 16, none⟩)), Eqv (.agg (cI nn.key).toArray), Eqv (.slice (some ⟨qi, oi, none⟩) xs.length ci), Eqv (.int .i64 ((i : Nat) : Int)), Eqv (.pointer (some ⟨qi, oi + (i : Int).toNat * 34, none⟩)), Eqv (.pointer (some ⟨qi, oi + (i : Int).toNat * 34 + 0, none⟩)), Eqv (.agg (cI xt.it.key).toArray), Eqv (.bool (decide (nn.key = xt.it.key))), Eqv (.bool (decide (nn.key = xt.it.key)))] Ty.mixed rfl rfl rfl (by kernel_rfl) rfl rfl (fun w w' hw hb => hw.step hb) ⟨fun _ _ _ h _ => h, fun _ _ _ h _ => h, fun _ _ _ h _ => h, fun _ _ _ h _ => h, fun _ _ _ h _ => h, fun _ _ _ h _ => h, fun _ _ _ h _ => h, fun _ _ _ h _ => h, fun _ _ _ h _ => h, fun _ _ _ h _ => h, fun _ _ _ h _ => h, fun _ _ _ h _ => h, fun _ _ _ h _ => h, fun _ _ _ h _ => h, fun _ _ _ h _ => h, fun _ _ _ h _ => h, fun _ _ _ h _ => h, fun _ _ _ h _ => h, fun _ _ _ h _ => h, fun _ _ _ h _ => h, fun _ _ _ h _ => h, fun _ _ _ h _ => h, fun _ _ _ h _ => h, fun _ _ _ h _ => h, fun _ _ _ h _ => h, fun _ _ _ h _ => h, fun _ _ _ h _ => h, fun _ _ _ h _ => h, fun _ _ _ h _ => h, trivial⟩ ?hstep ?htail
            case hstep =>
              refine ⟨fun wi => ?_, fun wi => ?_, fun wi => ?_, fun wi => ?_, fun wi => ?_, fun wi => ?_, fun wi => ?_, fun wi => ?_, fun wi => ?_, fun wi => ?_, fun wi => ?_, fun wi => ?_, fun wi => ?_, fun wi => ?_, fun wi => ?_, fun wi => ?_, fun wi => ?_, fun wi => ?_, fun wi => ?_, fun wi => ?_, fun wi => ?_, fun wi => ?_, fun wi => ?_, fun wi => ?_, fun wi => ?_, fun wi => ?_, fun wi => ?_, fun wi => ?_, fun wi => ?_, trivial⟩
              · skip
                refine Fin.nil ?_
                refine J.move rfl rfl ?_
                exact J.finP rfl
              · skip
                refine Fin.consE rfl (Fin.nil ?_)
                refine J.nilCheck rfl rfl ?_
                exact J.finP rfl
              · skip
                refine Fin.consE rfl (Fin.nil ?_)
                refine J.fieldAddr Ty.fd44_0 rfl rfl ?_
                exact J.finP rfl
              · skip
                refine Fin.consE rfl (Fin.nil ?_)
                refine J.load1 (v := .slice (some ⟨ql, ol, none⟩) R.length cL) Ty.a42 rfl (fun w1 hw => by rw [cell_of (by rw [hw.2.keep rb (lt_of_some hrb) (by simp)]; exact hrb), ← haL]; rfl) rfl ?_
                exact J.finP rfl
              · skip
                refine Fin.nil ?_
                refine J.move rfl rfl ?_
                exact J.finP rfl
              · skip
                refine Fin.consE rfl (Fin.consE rfl (Fin.nil ?_))
                refine J.indexAddrS Ty.el42 Ty.s94 rfl rfl (by omega) (by omega) rfl ?_
                exact J.finP rfl
              · skip
                refine Fin.consE rfl (Fin.nil ?_)
                refine J.fieldAddr Ty.fd94_0 rfl rfl ?_
                exact J.finP rfl
              · skip
                refine Fin.consE rfl (Fin.nil ?_)
                refine J.loadA (vs := cI nn.id) Ty.a23 Ty.s23 rfl rfl (fun w1 hw => noteF_at (r := 0) (hLs.below (hw.2.drop (List.nil_sublist _)).below) hnn rfl (by simp)) rfl ?_
                exact J.finP rfl
              · skip
                refine Fin.nil ?_
                refine J.move rfl rfl ?_
                exact J.finP rfl
              · skip
                refine Fin.nil ?_
                refine J.move rfl rfl ?_
                exact J.finP rfl
              · skip
                refine Fin.consE rfl (Fin.consE rfl (Fin.nil ?_))
                refine J.indexAddrS Ty.el24 Ty.s23 rfl rfl (by omega) (by omega) rfl ?_
                exact J.finP rfl
              · skip
                refine Fin.consE rfl (Fin.nil ?_)
                refine J.loadA (vs := cI id) Ty.a23 Ty.s23 rfl rfl (fun w1 hw => rowF_at (o := 0) (vec_rowM hvo hw.2 (fun q hq => by first | (simp [hq]; done) | (simp at hq; simp [hq]; done) | (simp at hq; subst hq; simp))) hid (by simp)) rfl ?_
                exact J.finP rfl
              · skip
                refine Fin.consE rfl (Fin.consE rfl (Fin.nil ?_))
                refine J.eqI Ty.QI Ty.keyI rfl rfl rfl ?_
                refine J.name 56 rfl (show _ = Value.bool true by simp [hn1]) ?_
                exact J.finP rfl
              · skip
                refine Fin.consE rfl (Fin.nil ?_)
                refine J.move rfl rfl ?_
                exact J.finP rfl
              · skip
                refine Fin.consE rfl (Fin.nil ?_)
                first | refine J.skip rfl rfl rfl rfl rfl ?_ | refine J.skipU rfl rfl rfl rfl ?_ | (refine J.unguard rfl rfl rfl ?_; refine J.move rfl rfl ?_)
                exact J.finP rfl
              · skip
                refine Fin.consE rfl (Fin.consE rfl (Fin.nil ?_))
                first | refine J.skip rfl rfl rfl rfl rfl ?_ | refine J.skipU rfl rfl rfl rfl ?_ | (refine J.unguard rfl rfl rfl ?_; refine J.nilCheck rfl rfl ?_)
                exact J.finP rfl
              · skip
                refine Fin.consE rfl (Fin.consE rfl (Fin.nil ?_))
                first | refine J.skip rfl rfl rfl rfl rfl ?_ | refine J.skipU rfl rfl rfl rfl ?_ | (refine J.unguard rfl rfl rfl ?_; refine J.fieldAddr Ty.fd44_0 rfl rfl ?_)
                exact J.finP rfl
              · skip
                refine Fin.consE rfl (Fin.consE rfl (Fin.nil ?_))
                refine J.unguard rfl rfl rfl ?_
                refine J.load1 (v := .slice (some ⟨ql, ol, none⟩) R.length cL) Ty.a42 rfl (fun w1 hw => by rw [cell_of (by rw [hw.2.keep rb (lt_of_some hrb) (by simp)]; exact hrb), ← haL]; rfl) rfl ?_
                exact J.finP rfl
              · skip
                refine Fin.consE rfl (Fin.nil ?_)
                first | refine J.skip rfl rfl rfl rfl rfl ?_ | refine J.skipU rfl rfl rfl rfl ?_ | (refine J.unguard rfl rfl rfl ?_; refine J.move rfl rfl ?_)
                exact J.finP rfl
              · skip
                refine Fin.consE rfl (Fin.consE rfl (Fin.consE rfl (Fin.nil ?_)))
                refine J.unguard rfl rfl rfl ?_
                refine J.indexAddrS Ty.el42 Ty.s94 rfl rfl (by omega) (by omega) rfl ?_
                exact J.finP rfl
              · skip
                refine Fin.consE rfl (Fin.consE rfl (Fin.nil ?_))
                first | refine J.skip rfl rfl rfl rfl rfl ?_ | refine J.skipU rfl rfl rfl rfl ?_ | (refine J.unguard rfl rfl rfl ?_; refine J.fieldAddr Ty.fd94_1 rfl rfl ?_)
                exact J.finP rfl
              · skip
                refine Fin.consE rfl (Fin.consE rfl (Fin.nil ?_))
                refine J.unguard rfl rfl rfl ?_
                refine J.loadA (vs := cI nn.key) Ty.a23 Ty.s23 rfl rfl (fun w1 hw => noteF_at (r := 16) (hLs.below (hw.2.drop (List.nil_sublist _)).below) hnn rfl (by simp)) rfl ?_
                exact J.finP rfl
              · skip
                refine Fin.consE rfl (Fin.nil ?_)
                refine J.unguard rfl rfl rfl ?_
                refine J.move rfl rfl ?_
                refine J.name 66 rfl (show _ = Value.slice (some ⟨qi, oi, none⟩) xs.length ci by rw [hai]) ?_
                exact J.finP rfl
              · skip
                refine Fin.consE rfl (Fin.nil ?_)
                first | refine J.skip rfl rfl rfl rfl rfl ?_ | refine J.skipU rfl rfl rfl rfl ?_ | (refine J.unguard rfl rfl rfl ?_; refine J.move rfl rfl ?_)
                exact J.finP rfl
              · skip
                refine Fin.consE rfl (Fin.consE rfl (Fin.consE rfl (Fin.nil ?_)))
                refine J.unguard rfl rfl rfl ?_
                refine J.indexAddrS Ty.el47 Ty.s53 rfl rfl (by omega) (by omega) rfl ?_
                exact J.finP rfl
              · skip
                refine Fin.consE rfl (Fin.consE rfl (Fin.nil ?_))
                first | refine J.skip rfl rfl rfl rfl rfl ?_ | refine J.skipU rfl rfl rfl rfl ?_ | (refine J.unguard rfl rfl rfl ?_; refine J.fieldAddr Ty.fd53_0 rfl rfl ?_)
                exact J.finP rfl
              · skip
                refine Fin.consE rfl (Fin.consE rfl (Fin.nil ?_))
                refine J.unguard rfl rfl rfl ?_
                refine J.loadA (vs := cI xt.it.key) Ty.a23 Ty.s23 rfl rfl (fun w1 hw => itemF_at (r := 0) (h2s.below (hw.2.drop (List.nil_sublist _)).below) hx rfl (by simp)) rfl ?_
                exact J.finP rfl
              · skip
                refine Fin.consE rfl (Fin.consE rfl (Fin.consE rfl (Fin.nil ?_)))
                refine J.unguard rfl rfl rfl ?_
                refine J.eqI Ty.QI Ty.keyI rfl rfl rfl ?_
                exact J.finP rfl
              · skip
                refine Fin.consE rfl (Fin.consE rfl (Fin.nil ?_))
                (first | refine J.pickT rfl rfl rfl ?_ | refine J.pickF rfl rfl rfl ?_)
                exact J.finP rfl
            case htail =>
              refine Fin.consE rfl (Fin.consE rfl (Fin.consE rfl (Fin.consE rfl (Fin.consE rfl (Fin.consE rfl (Fin.consE rfl (Fin.consE rfl (Fin.consE rfl (Fin.consE rfl (Fin.consE rfl (Fin.consE rfl (Fin.consE rfl (Fin.consE rfl (Fin.consE rfl (Fin.consE rfl (Fin.consE rfl (Fin.consE rfl (Fin.consE rfl (Fin.consE rfl (Fin.consE rfl (Fin.consE rfl (Fin.consE rfl (Fin.consE rfl (Fin.consE rfl (Fin.consE rfl (Fin.consE rfl (Fin.consE rfl (Fin.consE rfl (Fin.nil ?_)))))))))))))))))))))))))))))
              refine J.nil ?_
              refine JX.thenN (hK18 _ _ ?_)
              refine JC.cond rfl (fun h3 => ?_) (fun h3 => ?_)
              · skip
                have hn2 : nn.key = xt.it.key := by simpa using h3
                refine JC.region ?_
                refine J.move rfl rfl ?_
                refine J.nilCheck rfl rfl ?_
                refine J.fieldAddr Ty.fd44_0 rfl rfl ?_
                refine J.load1 (v := .slice (some ⟨ql, ol, none⟩) R.length cL) Ty.a42 rfl (fun w1 hw => by rw [cell_of (by rw [hw.keep rb (lt_of_some hrb) (by simp)]; exact hrb), ← haL]; rfl) rfl ?_
                refine J.move rfl rfl ?_
                refine J.indexAddrS Ty.el42 Ty.s94 rfl rfl (by omega) (by omega) rfl ?_
                refine J.fieldAddr Ty.fd94_2 rfl rfl ?_
                refine J.loadA (vs := cV nn.ver) Ty.a46 Ty.s46 rfl rfl (fun w1 hw => noteF_at (r := 32) (hLs.below (hw.drop (List.nil_sublist _)).below) hnn rfl (by simp)) rfl ?_
                refine J.storeW (cs := cV (valF (R.take j) id xt.it.key)) (vs := cV nn.ver) Ty.s46 rfl rfl rfl rfl rfl (one_cV _) .here ?_
                refine J.nil ?_
                refine JX.blockN ?_
                refine JX.thenN (hK17 _ _ ?_)
                refine JC.region ?_
                refine J.move rfl rfl ?_
                (first | refine J.addN rfl rfl (by omega) (by omega) rfl ?_ | refine J.bin rfl rfl rfl rfl ?_)
                refine J.assign rfl rfl ?_
                refine J.nil ?_
                refine JX.thenN ?_
                refine JX.again (j + 1) ?_ ?_ ?_
                · omega
                · exact ⟨rfl, rfl, rfl, rfl, rfl, rfl, rfl, rfl, rfl, rfl, trivial⟩
                · exact fun w1 hw => ⟨hjl, by rw [valF_snoc hnn, if_pos ⟨hn1, hn2⟩]; exact hw⟩
              · skip
                have hn2 : ¬ nn.key = xt.it.key := by simpa using h3
                refine JC.skip ?_
                refine JX.blockN ?_
                refine JX.thenN (hK17 _ _ ?_)
                refine JC.region ?_
                refine J.move rfl rfl ?_
                (first | refine J.addN rfl rfl (by omega) (by omega) rfl ?_ | refine J.bin rfl rfl rfl rfl ?_)
                refine J.assign rfl rfl ?_
                refine J.nil ?_
                refine JX.thenN ?_
                refine JX.again (j + 1) ?_ ?_ ?_
                · omega
                · exact ⟨rfl, rfl, rfl, rfl, rfl, rfl, rfl, rfl, rfl, rfl, trivial⟩
                · exact fun w1 hw => ⟨hjl, by rw [valF_snoc hnn, if_neg (fun q => hn2 q.2)]; exact hw⟩
          · skip
            apply JC.drawL 29 [Eqv (.pointer (some ⟨rb, 0, none⟩)), Eqv (.pointer (some ⟨rb, 0, none⟩)), Eqv (.pointer (some ⟨rb, 0 + 0, none⟩)), Eqv (.slice (some ⟨ql, ol, none⟩) R.length cL), Eqv (.int .i64 ((j : Nat) : Int)), Eqv (.pointer (some ⟨ql, ol + (j : Int).toNat * 49, none⟩)), Eqv (.pointer (some ⟨ql, ol + (j : Int).toNat * 49 + 0, none⟩)), Eqv (.agg (cI nn.id).toArray), Eqv (.slice (some ⟨qo, 0, none⟩) (owedV self fs xt.it.key).length co_), Eqv (.int .i64 ((k : Nat) : Int)), Eqv (.pointer (some ⟨qo, 0 + (k : Int).toNat * 16, none⟩)), Eqv (.agg (cI id).toArray), Eqv (.bool false), Eqv (.bool false), Eqv (undef), Eqv (undef), Eqv (undef), Eqv (undef), Eqv (undef), Eqv (undef), Eqv (undef), Eqv (undef), Eqv (undef), Eqv (undef), Eqv (undef), Eqv (undef), Eqv (undef), Eqv (undef), Eqv (.bool false)] Ty.mixed rfl rfl rfl (by kernel_rfl) rfl rfl (fun w w' hw hb => hw.step hb) ⟨fun _ _ _ h _ => h, fun _ _ _ h _ => h, fun _ _ _ h _ => h, fun _ _ _ h _ => h, fun _ _ _ h _ => h, fun _ _ _ h _ => h, fun _ _ _ h _ => h, fun _ _ _ h _ => h, fun _ _ _ h _ => h, fun _ _ _ h _ => h, fun _ _ _ h _ => h, fun _ _ _ h _ => h, fun _ _ _ h _ => h, fun _ _ _ h _ => h, fun _ _ _ h _ => h, fun _ _ _ h _ => h, fun _ _ _ h _ => h, fun _ _ _ h _ => h, fun _ _ _ h _ => h, fun _ _ _ h _ => h, fun _ _ _ h _ => h, fun _ _ _ h _ => h, fun _ _ _ h _ => h, fun _ _ _ h _ => h, fun _ _ _ h _ => h, fun _ _ _ h _ => h, fun _ _ _ h _ => h, fun _ _ _ h _ => h, fun _ _ _ h _ => h, trivial⟩ ?hstep ?htail
            case hstep =>
              refine ⟨fun wi => ?_, fun wi => ?_, fun wi => ?_, fun wi => ?_, fun wi => ?_, fun wi => ?_, fun wi => ?_, fun wi => ?_, fun wi => ?_, fun wi => ?_, fun wi => ?_, fun wi => ?_, fun wi => ?_, fun wi => ?_, fun wi => ?_, fun wi => ?_, fun wi => ?_, fun wi => ?_, fun wi => ?_, fun wi => ?_, fun wi => ?_, fun wi => ?_, fun wi => ?_, fun wi => ?_, fun wi => ?_, fun wi => ?_, fun wi => ?_, fun wi => ?_, fun wi => ?_, trivial⟩
              · skip
                refine Fin.nil ?_
                refine J.move rfl rfl ?_
                exact J.finP rfl
              · skip
                refine Fin.consE rfl (Fin.nil ?_)
                refine J.nilCheck rfl rfl ?_
                exact J.finP rfl
              · skip
                refine Fin.consE rfl (Fin.nil ?_)
                refine J.fieldAddr Ty.fd44_0 rfl rfl ?_
                exact J.finP rfl
              · skip
                refine Fin.consE rfl (Fin.nil ?_)
                refine J.load1 (v := .slice (some ⟨ql, ol, none⟩) R.length cL) Ty.a42 rfl (fun w1 hw => by rw [cell_of (by rw [hw.2.keep rb (lt_of_some hrb) (by simp)]; exact hrb), ← haL]; rfl) rfl ?_
                exact J.finP rfl
              · skip
                refine Fin.nil ?_
                refine J.move rfl rfl ?_
                exact J.finP rfl
              · skip
                refine Fin.consE rfl (Fin.consE rfl (Fin.nil ?_))
                refine J.indexAddrS Ty.el42 Ty.s94 rfl rfl (by omega) (by omega) rfl ?_
                exact J.finP rfl
              · skip
                refine Fin.consE rfl (Fin.nil ?_)
                refine J.fieldAddr Ty.fd94_0 rfl rfl ?_
                exact J.finP rfl
              · skip
                refine Fin.consE rfl (Fin.nil ?_)
                refine J.loadA (vs := cI nn.id) Ty.a23 Ty.s23 rfl rfl (fun w1 hw => noteF_at (r := 0) (hLs.below (hw.2.drop (List.nil_sublist _)).below) hnn rfl (by simp)) rfl ?_
                exact J.finP rfl
              · skip
                refine Fin.nil ?_
                refine J.move rfl rfl ?_
                exact J.finP rfl
              · skip
                refine Fin.nil ?_
                refine J.move rfl rfl ?_
                exact J.finP rfl
              · skip
                refine Fin.consE rfl (Fin.consE rfl (Fin.nil ?_))
                refine J.indexAddrS Ty.el24 Ty.s23 rfl rfl (by omega) (by omega) rfl ?_
                exact J.finP rfl
              · skip
                refine Fin.consE rfl (Fin.nil ?_)
                refine J.loadA (vs := cI id) Ty.a23 Ty.s23 rfl rfl (fun w1 hw => rowF_at (o := 0) (vec_rowM hvo hw.2 (fun q hq => by first | (simp [hq]; done) | (simp at hq; simp [hq]; done) | (simp at hq; subst hq; simp))) hid (by simp)) rfl ?_
                exact J.finP rfl
              · skip
                refine Fin.consE rfl (Fin.consE rfl (Fin.nil ?_))
                refine J.eqI Ty.QI Ty.keyI rfl rfl rfl ?_
                refine J.name 56 rfl (show _ = Value.bool false by simp [hn1]) ?_
                exact J.finP rfl
              · skip
                refine Fin.consE rfl (Fin.nil ?_)
                refine J.move rfl rfl ?_
                exact J.finP rfl
              · skip
                refine Fin.consE rfl (Fin.nil ?_)
                first | refine J.skip rfl rfl rfl rfl rfl ?_ | refine J.skipU rfl rfl rfl rfl ?_ | (refine J.unguard rfl rfl rfl ?_; refine J.move rfl rfl ?_)
                exact J.finP rfl
              · skip
                refine Fin.consE rfl (Fin.consE rfl (Fin.nil ?_))
                first | refine J.skip rfl rfl rfl rfl rfl ?_ | refine J.skipU rfl rfl rfl rfl ?_ | (refine J.unguard rfl rfl rfl ?_; refine J.nilCheck rfl rfl ?_)
                exact J.finP rfl
              · skip
                refine Fin.consE rfl (Fin.consE rfl (Fin.nil ?_))
                first | refine J.skip rfl rfl rfl rfl rfl ?_ | refine J.skipU rfl rfl rfl rfl ?_ | (refine J.unguard rfl rfl rfl ?_; refine J.fieldAddr Ty.fd44_0 rfl rfl ?_)
                exact J.finP rfl
              · skip
                refine Fin.consE rfl (Fin.consE rfl (Fin.nil ?_))
                first | refine J.skip rfl rfl rfl rfl rfl ?_ | refine J.skipU rfl rfl rfl rfl ?_ | (refine J.unguard rfl rfl rfl ?_; refine J.load1 Ty.a42 rfl (fun w hw => (cell_of (hw.2.own (_, _) (by repeat first | exact .head _ | apply List.Mem.tail | apply List.mem_append_right))).trans (by exact rfl)) rfl ?_)
                exact J.finP rfl
              · skip
                refine Fin.consE rfl (Fin.nil ?_)
                first | refine J.skip rfl rfl rfl rfl rfl ?_ | refine J.skipU rfl rfl rfl rfl ?_ | (refine J.unguard rfl rfl rfl ?_; refine J.move rfl rfl ?_)
                exact J.finP rfl
              · skip
                refine Fin.consE rfl (Fin.consE rfl (Fin.consE rfl (Fin.nil ?_)))
                first | refine J.skip rfl rfl rfl rfl rfl ?_ | refine J.skipU rfl rfl rfl rfl ?_ | (refine J.unguard rfl rfl rfl ?_; refine J.indexAddrS Ty.el42 Ty.s94 rfl rfl (by omega) (by omega) rfl ?_)
                exact J.finP rfl
              · skip
                refine Fin.consE rfl (Fin.consE rfl (Fin.nil ?_))
                first | refine J.skip rfl rfl rfl rfl rfl ?_ | refine J.skipU rfl rfl rfl rfl ?_ | (refine J.unguard rfl rfl rfl ?_; refine J.fieldAddr Ty.fd94_1 rfl rfl ?_)
                exact J.finP rfl
              · skip
                refine Fin.consE rfl (Fin.consE rfl (Fin.nil ?_))
                first | refine J.skip rfl rfl rfl rfl rfl ?_ | refine J.skipU rfl rfl rfl rfl ?_ | (refine J.unguard rfl rfl rfl ?_; refine J.loadOA Ty.a23 Ty.s23 rfl (by repeat first | exact .head _ | apply List.Mem.tail | apply List.mem_append_right) (by exact rfl) rfl rfl ?_)
                exact J.finP rfl
              · skip
                refine Fin.consE rfl (Fin.nil ?_)
                first | refine J.skip rfl rfl rfl rfl rfl ?_ | refine J.skipU rfl rfl rfl rfl ?_ | (refine J.unguard rfl rfl rfl ?_; refine J.move rfl rfl ?_)
                exact J.finP rfl
              · skip
                refine Fin.consE rfl (Fin.nil ?_)
                first | refine J.skip rfl rfl rfl rfl rfl ?_ | refine J.skipU rfl rfl rfl rfl ?_ | (refine J.unguard rfl rfl rfl ?_; refine J.move rfl rfl ?_)
                exact J.finP rfl
              · skip
                refine Fin.consE rfl (Fin.consE rfl (Fin.consE rfl (Fin.nil ?_)))
                first | refine J.skip rfl rfl rfl rfl rfl ?_ | refine J.skipU rfl rfl rfl rfl ?_ | (refine J.unguard rfl rfl rfl ?_; refine J.indexAddrS Ty.el47 Ty.s53 rfl rfl (by omega) (by omega) rfl ?_)
                exact J.finP rfl
              · skip
                refine Fin.consE rfl (Fin.consE rfl (Fin.nil ?_))
                first | refine J.skip rfl rfl rfl rfl rfl ?_ | refine J.skipU rfl rfl rfl rfl ?_ | (refine J.unguard rfl rfl rfl ?_; refine J.fieldAddr Ty.fd53_0 rfl rfl ?_)
                exact J.finP rfl
              · skip
                refine Fin.consE rfl (Fin.consE rfl (Fin.nil ?_))
                first | refine J.skip rfl rfl rfl rfl rfl ?_ | refine J.skipU rfl rfl rfl rfl ?_ | (refine J.unguard rfl rfl rfl ?_; refine J.loadOA Ty.a23 Ty.s23 rfl (by repeat first | exact .head _ | apply List.Mem.tail | apply List.mem_append_right) (by exact rfl) rfl rfl ?_)
                exact J.finP rfl
              · skip
                refine Fin.consE rfl (Fin.consE rfl (Fin.consE rfl (Fin.nil ?_)))
                first | refine J.skip rfl rfl rfl rfl rfl ?_ | refine J.skipU rfl rfl rfl rfl ?_ | (refine J.unguard rfl rfl rfl ?_; refine J.eqI Ty.QI Ty.keyI rfl rfl rfl ?_)
                exact J.finP rfl
              · skip
                refine Fin.consE rfl (Fin.consE rfl (Fin.nil ?_))
                (first | refine J.pickT rfl rfl rfl ?_ | refine J.pickF rfl rfl rfl ?_)
                exact J.finP rfl
            case htail =>
              refine Fin.consE rfl (Fin.consE rfl (Fin.consE rfl (Fin.consE rfl (Fin.consE rfl (Fin.consE rfl (Fin.consE rfl (Fin.consE rfl (Fin.consE rfl (Fin.consE rfl (Fin.consE rfl (Fin.consE rfl (Fin.consE rfl (Fin.consE rfl (Fin.consE rfl (Fin.consE rfl (Fin.consE rfl (Fin.consE rfl (Fin.consE rfl (Fin.consE rfl (Fin.consE rfl (Fin.consE rfl (Fin.consE rfl (Fin.consE rfl (Fin.consE rfl (Fin.consE rfl (Fin.consE rfl (Fin.consE rfl (Fin.consE rfl (Fin.nil ?_)))))))))))))))))))))))))))))
              refine J.nil ?_
              refine JX.thenN (hK18 _ _ ?_)
              first | refine JC.condF rfl ?_ | refine JC.cond rfl (fun h => by first | (exfalso; simp at h; omega) | (simp at h)) (fun _ => ?_)
              refine JC.skip ?_
              refine JX.blockN ?_
              refine JX.thenN (hK17 _ _ ?_)
              refine JC.region ?_
              refine J.move rfl rfl ?_
              (first | refine J.addN rfl rfl (by omega) (by omega) rfl ?_ | refine J.bin rfl rfl rfl rfl ?_)
              refine J.assign rfl rfl ?_
              refine J.nil ?_
              refine JX.thenN ?_
              refine JX.again (j + 1) ?_ ?_ ?_
              · omega
              · exact ⟨rfl, rfl, rfl, rfl, rfl, rfl, rfl, rfl, rfl, rfl, trivial⟩
              · exact fun w1 hw => ⟨hjl, by rw [valF_snoc hnn, if_neg (fun q => hn1 q.1)]; exact hw⟩
        · skip
          have hge : j = R.length := by simp at h2; omega
          refine JC.conseq (I' := St w [] ((b13, cb (cV (valF R id xt.it.key)) 46) :: (lk ++ (lo ++ ((b5, cb (cI self) 23) :: []))))) ?_ (fun w1 hw => by rw [hge, List.take_of_length_le (Nat.le_refl _)] at hw; exact hw)
          refine JC.exit ?_
          refine JX.thenE ?_
          refine JX.thenE ?_
          refine JX.blockE ?_
          refine JX.thenN (hK13 _ _ ?_)
          refine JC.seq (fun K19 hK19 => ?_)
          apply JC.drawL 7 [Eqv (.agg (cV (valF R id xt.it.key)).toArray), Eqv (.slice (some ⟨qi, oi, none⟩) xs.length ci), Eqv (.int .i64 ((i : Nat) : Int)), Eqv (.pointer (some ⟨qi, oi + (i : Int).toNat * 34, none⟩)), Eqv (.pointer (some ⟨qi, oi + (i : Int).toNat * 34 + 16, none⟩)), Eqv (.agg (cV xt.it.ver).toArray), Eqv (.bool (!decide ((valF R id xt.it.key) = xt.it.ver)))] Ty.mixed rfl rfl rfl (by kernel_rfl) rfl rfl (fun w w' hw hb => hw.step hb) ⟨fun _ _ _ h _ => h, fun _ _ _ h _ => h, fun _ _ _ h _ => h, fun _ _ _ h _ => h, fun _ _ _ h _ => h, fun _ _ _ h _ => h, fun _ _ _ h _ => h, trivial⟩ ?hstep ?htail
          case hstep =>
            refine ⟨fun wi => ?_, fun wi => ?_, fun wi => ?_, fun wi => ?_, fun wi => ?_, fun wi => ?_, fun wi => ?_, trivial⟩
            · skip
              refine Fin.nil ?_
              refine J.loadA (vs := cV (valF R id xt.it.key)) Ty.a46 Ty.s46 rfl rfl (fun w1 hw => Cells.of_block (hw.2.own ((b13, cb (cV (valF R id xt.it.key)) 46)) (by repeat first | exact .head _ | apply List.Mem.tail | apply List.mem_append_right)) rfl) rfl ?_
              exact J.finP rfl
            · skip
              refine Fin.nil ?_
              refine J.move rfl rfl ?_
              refine J.name 82 rfl (show _ = Value.slice (some ⟨qi, oi, none⟩) xs.length ci by rw [hai]) ?_
              exact J.finP rfl
            · skip
              refine Fin.nil ?_
              refine J.move rfl rfl ?_
              exact J.finP rfl
            · skip
              refine Fin.consE rfl (Fin.consE rfl (Fin.nil ?_))
              refine J.indexAddrS Ty.el47 Ty.s53 rfl rfl (by omega) (by omega) rfl ?_
              exact J.finP rfl
            · skip
              refine Fin.consE rfl (Fin.nil ?_)
              refine J.fieldAddr Ty.fd53_1 rfl rfl ?_
              exact J.finP rfl
            · skip
              refine Fin.consE rfl (Fin.nil ?_)
              refine J.loadA (vs := cV xt.it.ver) Ty.a46 Ty.s46 rfl rfl (fun w1 hw => itemF_at (r := 16) (h2s.below (hw.2.drop (List.nil_sublist _)).below) hx rfl (by simp)) rfl ?_
              exact J.finP rfl
            · skip
              refine Fin.consE rfl (Fin.consE rfl (Fin.nil ?_))
              refine J.neV rfl rfl (valF_ok hRok _ _) (hokx xt hxm) rfl ?_
              exact J.finP rfl
          case htail =>
            refine Fin.consE rfl (Fin.consE rfl (Fin.consE rfl (Fin.consE rfl (Fin.consE rfl (Fin.consE rfl (Fin.consE rfl (Fin.nil ?_)))))))
            refine J.nil ?_
            refine JX.thenN (hK19 _ _ ?_)
            refine JC.cond rfl (fun h4 => ?_) (fun h4 => ?_)
            · skip
              have hne : ¬ (valF R id xt.it.key) = xt.it.ver := by simpa using h4
              refine JC.conseq (I' := St w [] (lk ++ (lo ++ ((b13, cb (cV (valF R id xt.it.key)) 46) :: (b5, cb (cI self) 23) :: [])))) ?_ (fun w1 hw => hw.perm (by (refine perm_cnt (fun _ => ?_)); simp only [cntB_append, cntB_cons, cntB_nil, Nat.add_zero, Nat.zero_add]; try ac_rfl))
              apply JC.drawX (α := Nat × Value × List (Nat × Obj)) 12 (fun x => match x with | ⟨x98, v99, l99⟩ => [vk, .slice (some ⟨qo, 0, none⟩) (owedV self fs xt.it.key).length co_, .int .i64 ((k : Nat) : Int), .pointer (some ⟨qo, 0 + (k : Int).toNat * 16, none⟩), .agg (cI id).toArray, .slice (some ⟨qi, oi, none⟩) xs.length ci, .int .i64 ((i : Nat) : Int), .pointer (some ⟨qi, oi + (i : Int).toNat * 34, none⟩), .agg (cIX xt).toArray, .agg (cRD (id, xt)).toArray, .slice (some ⟨x98, 0, none⟩) 1 1, v99]) (fun m x => match x with | ⟨x98, v99, l99⟩ => fun w1 => ((m 11 = true → m 10 = true) ∧ (m 11 = true → Vec 62 50 v99 ((dueL (valF R) self fs (xs.take i) ++ dueOf (valF R) xt ((owedV self fs xt.it.key).take k)).length + 1) (fRD (dueL (valF R) self fs (xs.take i) ++ dueOf (valF R) xt ((owedV self fs xt.it.key).take k)) ++ cRD (id, xt)) l99)) ∧ St w [] ((bif m 11 then l99 else ((bif m 10 then [(x98, cb (cRD (id, xt)) 62)] else []) ++ lk)) ++ (lo ++ ((b13, cb (cV (valF R id xt.it.key)) 46) :: (b5, cb (cI self) 23) :: []))) w1) Ty.mixed rfl rfl rfl (by kernel_rfl) rfl rfl ?hinit ?hstep ?htail
              case hinit => exact fun w1 hw => ⟨(0, .slice none 0 0, []), ⟨fun h => (by cases h), fun h => (by cases h)⟩, hw.drew⟩
              case hstep =>
                refine ⟨fun m x hm hp => ?_, fun m x hm hp => ?_, fun m x hm hp => ?_, fun m x hm hp => ?_, fun m x hm hp => ?_, fun m x hm hp => ?_, fun m x hm hp => ?_, fun m x hm hp => ?_, fun m x hm hp => ?_, fun m x hm hp => ?_, fun m x hm hp => ?_, fun m x hm hp => ?_, trivial⟩
                · skip
                  obtain ⟨x98, v99, l99⟩ := x
                  show J _ _ _ _ _ (_) _
                  refine J.pr (fun hF => ?_)
                  refine J.move rfl rfl ?_
                  exact J.finX rfl (fun _ hw => ⟨⟨x98, v99, l99⟩, rfl, fun _ _ _ => rfl, hF, hw⟩)
                · skip
                  obtain ⟨x98, v99, l99⟩ := x
                  show J _ _ _ _ _ (_) _
                  refine J.pr (fun hF => ?_)
                  refine J.move rfl rfl ?_
                  exact J.finX rfl (fun _ hw => ⟨⟨x98, v99, l99⟩, rfl, fun _ _ _ => rfl, hF, hw⟩)
                · skip
                  obtain ⟨x98, v99, l99⟩ := x
                  show J _ _ _ _ _ (_) _
                  refine J.pr (fun hF => ?_)
                  refine J.move rfl rfl ?_
                  exact J.finX rfl (fun _ hw => ⟨⟨x98, v99, l99⟩, rfl, fun _ _ _ => rfl, hF, hw⟩)
                · skip
                  obtain ⟨x98, v99, l99⟩ := x
                  show J _ _ _ _ _ ((90, .int .i64 ((k : Nat) : Int)) :: (89, .slice (some ⟨qo, 0, none⟩) (owedV self fs xt.it.key).length co_) :: _) _
                  refine J.pr (fun hF => ?_)
                  refine J.indexAddrS Ty.el24 Ty.s23 rfl rfl (by omega) (by omega) rfl ?_
                  exact J.finX rfl (fun _ hw => ⟨⟨x98, v99, l99⟩, rfl, fun _ _ _ => rfl, hF, hw⟩)
                · skip
                  obtain ⟨x98, v99, l99⟩ := x
                  show J _ _ _ _ _ ((91, .pointer (some ⟨qo, 0 + (k : Int).toNat * 16, none⟩)) :: _) _
                  refine J.pr (fun hF => ?_)
                  refine J.loadA (vs := cI id) Ty.a23 Ty.s23 rfl rfl (fun w1 hw => rowF_at (o := 0) (vec_rowM hvo hw (fun q hq => by first | (simp [hq]; done) | (simp at hq; simp [hq]; done) | (simp at hq; subst hq; simp))) hid (by simp)) rfl ?_
                  exact J.finX rfl (fun _ hw => ⟨⟨x98, v99, l99⟩, rfl, fun _ _ _ => rfl, hF, hw⟩)
                · skip
                  obtain ⟨x98, v99, l99⟩ := x
                  show J _ _ _ _ _ (_) _
                  refine J.pr (fun hF => ?_)
                  refine J.move rfl rfl ?_
                  refine J.name 93 rfl (show _ = Value.slice (some ⟨qi, oi, none⟩) xs.length ci by rw [hai]) ?_
                  exact J.finX rfl (fun _ hw => ⟨⟨x98, v99, l99⟩, rfl, fun _ _ _ => rfl, hF, hw⟩)
                · skip
                  obtain ⟨x98, v99, l99⟩ := x
                  show J _ _ _ _ _ (_) _
                  refine J.pr (fun hF => ?_)
                  refine J.move rfl rfl ?_
                  exact J.finX rfl (fun _ hw => ⟨⟨x98, v99, l99⟩, rfl, fun _ _ _ => rfl, hF, hw⟩)
                · skip
                  obtain ⟨x98, v99, l99⟩ := x
                  show J _ _ _ _ _ ((94, .int .i64 ((i : Nat) : Int)) :: (93, .slice (some ⟨qi, oi, none⟩) xs.length ci) :: _) _
                  refine J.pr (fun hF => ?_)
                  refine J.indexAddrS Ty.el47 Ty.s53 rfl rfl (by omega) (by omega) rfl ?_
                  exact J.finX rfl (fun _ hw => ⟨⟨x98, v99, l99⟩, rfl, fun _ _ _ => rfl, hF, hw⟩)
                · skip
                  obtain ⟨x98, v99, l99⟩ := x
                  show J _ _ _ _ _ ((95, .pointer (some ⟨qi, oi + (i : Int).toNat * 34, none⟩)) :: _) _
                  refine J.pr (fun hF => ?_)
                  refine J.loadA (vs := cIX xt) Ty.a53 Ty.s53 rfl rfl (fun w1 hw => itemF_at (r := 0) (h2s.below (hw.drop (List.nil_sublist _)).below) hx rfl (by simp)) rfl ?_
                  exact J.finX rfl (fun _ hw => ⟨⟨x98, v99, l99⟩, rfl, fun _ _ _ => rfl, hF, hw⟩)
                · skip
                  obtain ⟨x98, v99, l99⟩ := x
                  show J _ _ _ _ _ ((96, .agg (cIX xt).toArray) :: (92, .agg (cI id).toArray) :: _) _
                  refine J.pr (fun hF => ?_)
                  refine J.buildS (cs := cRD (id, xt)) Ty.pl62 zRDue rfl (by kernel_rfl) rfl ?_
                  exact J.finX rfl (fun _ hw => ⟨⟨x98, v99, l99⟩, rfl, fun _ _ _ => rfl, hF, hw⟩)
                · skip
                  obtain ⟨x98, v99, l99⟩ := x
                  show J _ _ _ _ _ ((97, .agg (cRD (id, xt)).toArray) :: _) _
                  refine J.pr (fun hF => ?_)
                  have h11 : m 11 = false := by cases h : m 11 with
                    | false => rfl
                    | true => rw [hF.1 h] at hm; cases hm
                  refine J.conseq (I' := St w [] (lk ++ (lo ++ ((b13, cb (cV (valF R id xt.it.key)) 46) :: (b5, cb (cI self) 23) :: [])))) ?_ (fun w1 hw => by simp only [hm, h11, cond_false, List.nil_append] at hw; exact hw)
                  refine J.buildSl (cs := cRD (id, xt)) Ty.el58 Ty.s62 zRDue rfl rfl rfl rfl (by kernel_rfl) rfl rfl (fun b98 => ?_)
                  refine J.nil (JX.finB rfl (fun w1 hw => ⟨⟨⟨b98, v99, l99⟩, rfl, fun j h1 h2 => ?_, ?_⟩, trivial⟩))
                  · match j, h1 with
                    | 0, _ => (first | rfl | trivial)
                    | 1, _ => (first | rfl | trivial)
                    | 2, _ => (first | rfl | trivial)
                    | 3, _ => (first | rfl | trivial)
                    | 4, _ => (first | rfl | trivial)
                    | 5, _ => (first | rfl | trivial)
                    | 6, _ => (first | rfl | trivial)
                    | 7, _ => (first | rfl | trivial)
                    | 8, _ => (first | rfl | trivial)
                    | 9, _ => (first | rfl | trivial)
                    | 10, _ => exact absurd (h2.symm.trans hm) (by decide)
                    | 11, _ => (first | rfl | trivial)
                    | j + 12, h1 => omega
                  show ((m 11 = true → true = true) ∧ (m 11 = true → Vec 62 50 v99 ((dueL (valF R) self fs (xs.take i) ++ dueOf (valF R) xt ((owedV self fs xt.it.key).take k)).length + 1) (fRD (dueL (valF R) self fs (xs.take i) ++ dueOf (valF R) xt ((owedV self fs xt.it.key).take k)) ++ cRD (id, xt)) l99)) ∧ St w [] ((bif m 11 then l99 else ((bif true then [(b98, cb (cRD (id, xt)) 62)] else []) ++ lk)) ++ (lo ++ ((b13, cb (cV (valF R id xt.it.key)) 46) :: (b5, cb (cI self) 23) :: []))) w1
                  simp only [hm, h11, cond_true, cond_false] at hw ⊢
                  exact ⟨⟨fun h => (by first | trivial | (rw [h11] at h; cases h)), fun h => (by first | (rw [h11] at h; cases h) | cases h)⟩, hw.perm (by (refine perm_cnt (fun _ => ?_)); simp only [cntB_append, cntB_cons, cntB_nil, Nat.add_zero, Nat.zero_add]; try ac_rfl)⟩
                · skip
                  obtain ⟨x98, v99, l99⟩ := x
                  show J _ _ _ _ _ ((98, .slice (some ⟨x98, 0, none⟩) 1 1) :: (88, vk) :: _) _
                  have hp10 : m 10 = true := predsT hp (by kernel_rfl)
                  refine J.pr (fun hF => ?_)
                  refine J.conseq (I' := St w [] (lk ++ ((x98, cb (cRD (id, xt)) 62) :: (lo ++ ((b13, cb (cV (valF R id xt.it.key)) 46) :: (b5, cb (cI self) 23) :: []))))) ?_ (fun w1 hw => by simp only [hm, hp10, cond_true, cond_false] at hw; exact hw.perm (by (refine perm_cnt (fun _ => ?_)); simp only [cntB_append, cntB_cons, cntB_nil, Nat.add_zero, Nat.zero_add]; try ac_rfl))
                  refine J.append (lp := lk) (xs := fRD (dueL (valF R) self fs (xs.take i) ++ dueOf (valF R) xt ((owedV self fs xt.it.key).take k))) (ys := cRD (id, xt)) (k := (dueL (valF R) self fs (xs.take i) ++ dueOf (valF R) xt ((owedV self fs xt.it.key).take k)).length) (m := 1) Ty.el58 Ty.s62 Ty.b62 zRDue rfl (.inl ⟨62, Ty.u58⟩) rfl rfl hvk (fun w1 hw => .inl (Row.own (cs := cRD (id, xt)) (tb := 62) (fr := (0, 0)) hw (List.mem_append_right _ (.head _)) (List.take_of_length_le (Nat.le_refl _)) (Nat.le_refl _))) rfl (one_cRD _) (by omega) (by omega) rfl (fun vn ln hvn => ?_)
                  refine J.conseq (I' := St w [] (ln ++ (lo ++ ((b13, cb (cV (valF R id xt.it.key)) 46) :: (b5, cb (cI self) 23) :: [])))) ?_ (fun w1 hw => (hw.perm (l' := [(x98, cb (cRD (id, xt)) 62)] ++ (ln ++ (lo ++ ((b13, cb (cV (valF R id xt.it.key)) 46) :: (b5, cb (cI self) 23) :: [])))) (by (refine perm_cnt (fun _ => ?_)); simp only [cntB_append, cntB_cons, cntB_nil, Nat.add_zero, Nat.zero_add]; try ac_rfl)).drop (List.sublist_append_right _ _))
                  refine J.nil (JX.finB rfl (fun w1 hw => ⟨⟨⟨x98, vn, ln⟩, rfl, fun j h1 h2 => ?_, ?_⟩, trivial⟩))
                  · match j, h1 with
                    | 0, _ => (first | rfl | trivial)
                    | 1, _ => (first | rfl | trivial)
                    | 2, _ => (first | rfl | trivial)
                    | 3, _ => (first | rfl | trivial)
                    | 4, _ => (first | rfl | trivial)
                    | 5, _ => (first | rfl | trivial)
                    | 6, _ => (first | rfl | trivial)
                    | 7, _ => (first | rfl | trivial)
                    | 8, _ => (first | rfl | trivial)
                    | 9, _ => (first | rfl | trivial)
                    | 10, _ => (first | rfl | trivial)
                    | 11, _ => exact absurd (h2.symm.trans hm) (by decide)
                    | j + 12, h1 => omega
                  show ((true = true → m 10 = true) ∧ (true = true → Vec 62 50 vn ((dueL (valF R) self fs (xs.take i) ++ dueOf (valF R) xt ((owedV self fs xt.it.key).take k)).length + 1) (fRD (dueL (valF R) self fs (xs.take i) ++ dueOf (valF R) xt ((owedV self fs xt.it.key).take k)) ++ cRD (id, xt)) ln)) ∧ St w [] ((bif true then ln else ((bif m 10 then [(x98, cb (cRD (id, xt)) 62)] else []) ++ lk)) ++ (lo ++ ((b13, cb (cV (valF R id xt.it.key)) 46) :: (b5, cb (cI self) 23) :: []))) w1
                  simp only [hm, cond_true, cond_false] at hw ⊢
                  exact ⟨⟨fun _ => hp10, fun _ => hvn⟩, hw⟩
              case htail =>
                intro x
                obtain ⟨x98, v99, l99⟩ := x
                show J _ _ _ _ _ ((99, v99) :: (98, .slice (some ⟨x98, 0, none⟩) 1 1) :: (97, .agg (cRD (id, xt)).toArray) :: (96, .agg (cIX xt).toArray) :: (95, .pointer (some ⟨qi, oi + (i : Int).toNat * 34, none⟩)) :: (94, .int .i64 ((i : Nat) : Int)) :: (93, .slice (some ⟨qi, oi, none⟩) xs.length ci) :: (92, .agg (cI id).toArray) :: (91, .pointer (some ⟨qo, 0 + (k : Int).toNat * 16, none⟩)) :: (90, .int .i64 ((k : Nat) : Int)) :: (89, .slice (some ⟨qo, 0, none⟩) (owedV self fs xt.it.key).length co_) :: (88, vk) :: _) (fun w1 => ((true = true → true = true) ∧ (true = true → Vec 62 50 v99 ((dueL (valF R) self fs (xs.take i) ++ dueOf (valF R) xt ((owedV self fs xt.it.key).take k)).length + 1) (fRD (dueL (valF R) self fs (xs.take i) ++ dueOf (valF R) xt ((owedV self fs xt.it.key).take k)) ++ cRD (id, xt)) l99)) ∧ St w [] ((bif true then l99 else ((bif true then [(x98, cb (cRD (id, xt)) 62)] else []) ++ lk)) ++ (lo ++ ((b13, cb (cV (valF R id xt.it.key)) 46) :: (b5, cb (cI self) 23) :: []))) w1)
                refine J.pr (fun hF => ?_)
                have hv99 := hF.2 rfl
                refine J.conseq (I' := St w [] (l99 ++ (lo ++ ((b13, cb (cV (valF R id xt.it.key)) 46) :: (b5, cb (cI self) 23) :: [])))) ?_ (fun w1 hw => by simp only [cond_true] at hw; exact hw)
                refine J.assign rfl rfl ?_
                refine J.nil ?_
                refine JX.blockN ?_
                refine JX.thenN (hK11 _ _ ?_)
                refine JC.region ?_
                refine J.move rfl rfl ?_
                (first | refine J.addN rfl rfl (by omega) (by omega) rfl ?_ | refine J.bin rfl rfl rfl rfl ?_)
                refine J.assign rfl rfl ?_
                refine J.nil ?_
                refine JX.thenN ?_
                refine JX.again (⟨k + 1, v99, l99⟩ : RdS) ?_ ?_ ?_
                · simp only; omega
                · exact ⟨rfl, rfl, rfl, rfl, rfl, rfl, rfl, rfl, trivial⟩
                · exact fun w1 hw => ⟨⟨hkl, vecR_yes hid hne hv99⟩, (hw.perm (l' := [(b13, cb (cV (valF R id xt.it.key)) 46)] ++ (l99 ++ (lo ++ ((b5, cb (cI self) 23) :: [])))) (by (refine perm_cnt (fun _ => ?_)); simp only [cntB_append, cntB_cons, cntB_nil, Nat.add_zero, Nat.zero_add]; try ac_rfl)).drop (List.sublist_append_right _ _)⟩
            · skip
              have hne : (valF R id xt.it.key) = xt.it.ver := by simpa using h4
              refine JC.skip ?_
              refine JX.blockN ?_
              refine JX.thenN (hK11 _ _ ?_)
              refine JC.region ?_
              refine J.move rfl rfl ?_
              (first | refine J.addN rfl rfl (by omega) (by omega) rfl ?_ | refine J.bin rfl rfl rfl rfl ?_)
              refine J.assign rfl rfl ?_
              refine J.nil ?_
              refine JX.thenN ?_
              refine JX.again (⟨k + 1, vk, lk⟩ : RdS) ?_ ?_ ?_
              · simp only; omega
              · exact ⟨rfl, rfl, rfl, rfl, rfl, rfl, rfl, rfl, trivial⟩
              · exact fun w1 hw => ⟨⟨hkl, vecR_no hid hne hvk⟩, (hw.perm (l' := [(b13, cb (cV (valF R id xt.it.key)) 46)] ++ (lk ++ (lo ++ ((b5, cb (cI self) 23) :: [])))) (by (refine perm_cnt (fun _ => ?_)); simp only [cntB_append, cntB_cons, cntB_nil, Nat.add_zero, Nat.zero_add]; try ac_rfl)).drop (List.sublist_append_right _ _)⟩
      · skip
        have hge : k = (owedV self fs xt.it.key).length := by simp at h1; omega
        rw [hge, List.take_of_length_le (Nat.le_refl _)] at hvk
        refine JC.exit ?_
        refine JX.thenE ?_
        refine JX.thenE ?_
        refine JX.blockE ?_
        refine JX.blockN ?_
        refine JX.thenN (hK6 _ _ ?_)
        refine JC.region ?_
        refine J.move rfl rfl ?_
        (first | refine J.addN rfl rfl (by omega) (by omega) rfl ?_ | refine J.bin rfl rfl rfl rfl ?_)
        refine J.assign rfl rfl ?_
        refine J.nil ?_
        refine JX.thenN ?_
        refine JX.again (⟨i + 1, vk, lk⟩ : RdS) ?_ ?_ ?_
        · simp only; omega
        · exact ⟨rfl, rfl, rfl, rfl, rfl, rfl, trivial⟩
        · exact fun w1 hw => ⟨⟨hlt, by rw [dueL_snoc hx]; exact hvk⟩, (hw.perm (l' := lo ++ (lk ++ ((b5, cb (cI self) 23) :: []))) (by (refine perm_cnt (fun _ => ?_)); simp only [cntB_append, cntB_cons, cntB_nil, Nat.add_zero, Nat.zero_add]; try ac_rfl)).drop (List.sublist_append_right _ _)⟩
  · skip
    have hge : i = xs.length := by simp at h0; omega
    rw [hge, List.take_of_length_le (Nat.le_refl _)] at hv9
    refine JC.exit ?_
    refine JX.thenE ?_
    refine JX.thenE ?_
    refine JX.blockE ?_
    refine JX.thenN (hK2 _ _ ?_)
    refine JC.seq (fun K20 hK20 => ?_)
    refine JC.region ?_
    refine J.move rfl rfl ?_
    refine J.assign rfl rfl ?_
    refine J.nil ?_
    refine JX.thenN (hK20 _ _ ?_)
    refine JC.ret ?_
    refine JX.ret1 rfl rfl (fun w hw => ?_)
    exact ⟨(v9, lp9), rfl, hv9, hw.drop (List.sublist_append_left _ _)⟩

end Go.Proofs.Ytbafhclandendaa
