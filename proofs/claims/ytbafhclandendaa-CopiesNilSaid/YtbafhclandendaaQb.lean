/-
  Who is the root, to whom an item is owed; the example of layer 19: contracts.
-/
import Derived.Test.YtbafhclandendaaQa
import Derived.Test.YtbafhclandendaaLg
namespace Go.Proofs.Ytbafhclandendaa
open Go.J Go.RowKit
set_option linter.unusedVariables false
set_option linter.unusedSimpArgs false
set_option maxRecDepth 4000

theorem cut19_spec (v : Value) (xs : List IDV) (most : Nat) (w : World) (hr : Row w v xs.length (fI xs)) :
    Calls Try.prog 13 [v, .int .i64 ((most : Nat) : Int)].toArray w fun r w' => r = .returned (cutV v (min xs.length most)) ∧ Bel w w' := by
  obtain ⟨a, c, rfl, hc, _⟩ := id hr
  refine calls_of_J (args := [.slice a xs.length c, .int .i64 ((most : Nat) : Int)]) (e := [(0, .slice a xs.length c), (1, .int .i64 ((most : Nat) : Int))]) Try.func13 rfl rfl ⟨rfl, rfl, trivial⟩ (St.start w) ?_
  refine JC.seq (fun K0 hK0 => ?_)
  refine JC.region ?_
  refine J.assign rfl rfl ?_
  refine J.nil ?_
  refine JX.thenN (hK0 _ _ ?_)
  refine JC.seq (fun K1 hK1 => ?_)
  refine JC.region ?_
  refine J.move rfl rfl ?_
  refine J.move rfl rfl ?_
  refine J.lenS rfl Ty.u24 rfl rfl ?_
  refine J.move rfl rfl ?_
  refine J.min2 rfl rfl rfl ?_
  refine J.name 9 rfl (show _ = Value.int .i64 ((min xs.length most : Nat) : Int) by congr 1; omega) ?_
  refine J.move rfl rfl ?_
  refine J.lenS rfl Ty.u24 rfl rfl ?_
  refine J.move rfl rfl ?_
  refine J.min2 rfl rfl rfl ?_
  refine J.name 13 rfl (show _ = Value.int .i64 ((min xs.length most : Nat) : Int) by congr 1; omega) ?_
  refine J.sliceM Ty.el24 Ty.s23 rfl rfl rfl (by omega) rfl ?_
  refine J.assign rfl rfl ?_
  refine J.nil ?_
  refine JX.thenN (hK1 _ _ ?_)
  refine JC.ret ?_
  refine JX.ret1 rfl rfl (fun w hw => ?_)
  exact ⟨rfl, hw.below⟩

theorem n19_spec (k : UInt8) (w : World) :
    Calls Try.prog 33 [u8 k].toArray w fun r w' => r = .returned (.agg (cI (nI k)).toArray) ∧ Bel w w' := by
  refine calls_of_J (args := [u8 k]) (e := [(0, u8 k)]) Try.func33 rfl rfl ⟨rfl, trivial⟩ (St.start w) ?_
  refine JC.seq (fun K0 hK0 => ?_)
  refine JC.region ?_
  refine J.alloc Ty.zID rfl rfl (fun b2 => ?_)
  refine J.nil ?_
  refine JX.thenN (hK0 _ _ ?_)
  refine JC.seq (fun K1 hK1 => ?_)
  refine JC.region ?_
  refine J.move rfl rfl ?_
  refine J.buildA (cs := cI (nI k)) Ty.ar23 Ty.s5 Ty.z23 rfl (by kernel_rfl) rfl ?_
  refine J.storeW Ty.s23 rfl rfl rfl rfl rfl (by simp [Value.oneCell']) (by repeat first | exact .here | apply Up.there) ?_
  refine J.nil ?_
  refine JX.thenN (hK1 _ _ ?_)
  refine JC.ret ?_
  refine JX.retC rfl rfl Ty.a23 Ty.s23 (vs := cI (nI k)) rfl (fun w1 hw => Cells.of_block (hw.own _ (.head _)) rfl) (fun w1 hw => ?_)
  exact ⟨rfl, (hw.drop (List.nil_sublist _)).below⟩

set_option maxHeartbeats 1000000 in
theorem root_spec (self : IDV) (v : Value) (fs : List IDV) (key : IDV) (w : World) (hr : Row w v fs.length (fI fs)) (hl : fs.length ≤ 1000000000) :
    Calls Try.prog 16 [.agg (cI self).toArray, v, .agg (cI key).toArray].toArray w fun r w' => r = .returned (.bool (rootV self fs key)) ∧ Bel w w' := by
  obtain ⟨af, cf, rfl, hcf, _⟩ := id hr
  refine calls_of_J (args := [.agg (cI self).toArray, .slice af fs.length cf, .agg (cI key).toArray]) (e := [(0, .agg (cI self).toArray), (1, .slice af fs.length cf), (2, .agg (cI key).toArray)]) Try.func16 rfl rfl ⟨rfl, rfl, rfl, trivial⟩ (St.start w) ?_
  refine JC.seq (fun K0 hK0 => ?_)
  refine JC.region ?_
  refine J.box rfl rfl rfl (fun b3 => ?_)
  refine J.box rfl rfl rfl (fun b5 => ?_)
  refine J.assign rfl rfl ?_
  refine J.nil ?_
  refine JX.thenN (hK0 _ _ ?_)
  refine JC.seq (fun K1 hK1 => ?_)
  apply JC.drawX (α := Nat × Value × List (Nat × Obj)) 7 (fun x => match x with | ⟨x9, v11, l11⟩ => [.agg (cI key).toArray, .agg (cI self).toArray, .slice (some ⟨x9, 0, none⟩) 1 1, .slice af fs.length cf, v11, .int .i64 (argI (kN key) (self :: fs)), .bool (rootV self fs key)]) (fun m x => match x with | ⟨x9, v11, l11⟩ => fun w1 => ((m 4 = true → m 2 = true) ∧ (m 4 = true → Vec 23 16 v11 ((self :: fs)).length (fI ((self :: fs))) l11)) ∧ St w [] ((bif m 4 then l11 else (bif m 2 then [(x9, cb (cI self) 23)] else [])) ++ ((b5, cb (cI key) 23) :: (b3, cb (cI self) 23) :: [])) w1) Ty.mixed rfl rfl rfl (by kernel_rfl) rfl rfl ?hinit ?hstep ?htail
  case hinit => exact fun w1 hw => ⟨(0, .slice none 0 0, []), ⟨fun h => (by cases h), fun h => (by cases h)⟩, hw.drew⟩
  case hstep =>
    refine ⟨fun m x hm hp => ?_, fun m x hm hp => ?_, fun m x hm hp => ?_, fun m x hm hp => ?_, fun m x hm hp => ?_, fun m x hm hp => ?_, fun m x hm hp => ?_, trivial⟩
    · skip
      obtain ⟨x9, v11, l11⟩ := x
      show J _ _ _ _ _ (_) _
      refine J.pr (fun hF => ?_)
      refine J.loadA (vs := cI key) Ty.a23 Ty.s23 rfl rfl (fun w1 hw => Cells.of_block (hw.own ((b5, cb (cI key) 23)) (by repeat first | exact .head _ | apply List.Mem.tail | apply List.mem_append_right)) rfl) rfl ?_
      exact J.finX rfl (fun _ hw => ⟨⟨x9, v11, l11⟩, rfl, fun _ _ _ => rfl, hF, hw⟩)
    · skip
      obtain ⟨x9, v11, l11⟩ := x
      show J _ _ _ _ _ (_) _
      refine J.pr (fun hF => ?_)
      refine J.loadA (vs := cI self) Ty.a23 Ty.s23 rfl rfl (fun w1 hw => Cells.of_block (hw.own ((b3, cb (cI self) 23)) (by repeat first | exact .head _ | apply List.Mem.tail | apply List.mem_append_right)) rfl) rfl ?_
      exact J.finX rfl (fun _ hw => ⟨⟨x9, v11, l11⟩, rfl, fun _ _ _ => rfl, hF, hw⟩)
    · skip
      obtain ⟨x9, v11, l11⟩ := x
      show J _ _ _ _ _ ((8, .agg (cI self).toArray) :: _) _
      refine J.pr (fun hF => ?_)
      have h4 : m 4 = false := by cases h : m 4 with
        | false => rfl
        | true => rw [hF.1 h] at hm; cases hm
      refine J.conseq (I' := St w [] ((b5, cb (cI key) 23) :: (b3, cb (cI self) 23) :: [])) ?_ (fun w1 hw => by simp only [hm, h4, cond_false, List.nil_append] at hw; exact hw)
      refine J.buildSl (cs := cI self) Ty.el24 Ty.s23 Ty.zID rfl rfl rfl rfl (by kernel_rfl) rfl rfl (fun b9 => ?_)
      refine J.nil (JX.finB rfl (fun w1 hw => ⟨⟨⟨b9, v11, l11⟩, rfl, fun j h1 h2 => ?_, ?_⟩, trivial⟩))
      · match j, h1 with
        | 0, _ => (first | rfl | trivial)
        | 1, _ => (first | rfl | trivial)
        | 2, _ => exact absurd (h2.symm.trans hm) (by decide)
        | 3, _ => (first | rfl | trivial)
        | 4, _ => (first | rfl | trivial)
        | 5, _ => (first | rfl | trivial)
        | 6, _ => (first | rfl | trivial)
        | j + 7, h1 => omega
      show ((m 4 = true → true = true) ∧ (m 4 = true → Vec 23 16 v11 ((self :: fs)).length (fI ((self :: fs))) l11)) ∧ St w [] ((bif m 4 then l11 else (bif true then [(b9, cb (cI self) 23)] else [])) ++ ((b5, cb (cI key) 23) :: (b3, cb (cI self) 23) :: [])) w1
      simp only [hm, h4, cond_true, cond_false] at hw ⊢
      exact ⟨⟨fun h => (by cases h), fun h => (by cases h)⟩, hw⟩
    · skip
      obtain ⟨x9, v11, l11⟩ := x
      show J _ _ _ _ _ (_) _
      refine J.pr (fun hF => ?_)
      refine J.move rfl rfl ?_
      exact J.finX rfl (fun _ hw => ⟨⟨x9, v11, l11⟩, rfl, fun _ _ _ => rfl, hF, hw⟩)
    · skip
      obtain ⟨x9, v11, l11⟩ := x
      show J _ _ _ _ _ ((10, .slice af fs.length cf) :: (9, .slice (some ⟨x9, 0, none⟩) 1 1) :: _) _
      have hp2 : m 2 = true := predsT hp (by kernel_rfl)
      refine J.pr (fun hF => ?_)
      refine J.conseq (I' := St w [] ([(x9, cb (cI self) 23)] ++ ((b5, cb (cI key) 23) :: (b3, cb (cI self) 23) :: []))) ?_ (fun w1 hw => by simp only [hm, hp2, cond_true, cond_false] at hw; exact hw)
      refine J.append (lp := [(x9, cb (cI self) 23)]) (xs := cI self) (ys := fI fs) (k := 1) (m := fs.length) Ty.el24 Ty.s23 Ty.b23 Ty.zID rfl (.inl ⟨23, Ty.u24⟩) rfl rfl ⟨rfl, .inr ⟨x9, 1, [], rfl, rfl, rfl, Nat.le_refl _⟩⟩ (fun w3 hw3 => .inl (hr.below (hw3.drop (List.nil_sublist _)).below)) (fI_length _) (fun y hy => one_fI hy) (by omega) (by omega) rfl (fun vn ln hvn => ?_)
      replace hvn : Vec 23 16 vn ((self :: fs)).length (fI ((self :: fs))) ln := by rw [show (self :: fs).length = 1 + fs.length by simp; omega]; exact hvn
      refine J.nil (JX.finB rfl (fun w1 hw => ⟨⟨⟨x9, vn, ln⟩, rfl, fun j h1 h2 => ?_, ?_⟩, trivial⟩))
      · match j, h1 with
        | 0, _ => (first | rfl | trivial)
        | 1, _ => (first | rfl | trivial)
        | 2, _ => (first | rfl | trivial)
        | 3, _ => (first | rfl | trivial)
        | 4, _ => exact absurd (h2.symm.trans hm) (by decide)
        | 5, _ => (first | rfl | trivial)
        | 6, _ => (first | rfl | trivial)
        | j + 7, h1 => omega
      show ((true = true → m 2 = true) ∧ (true = true → Vec 23 16 vn ((self :: fs)).length (fI ((self :: fs))) ln)) ∧ St w [] ((bif true then ln else (bif m 2 then [(x9, cb (cI self) 23)] else [])) ++ ((b5, cb (cI key) 23) :: (b3, cb (cI self) 23) :: [])) w1
      simp only [hm, hp2, cond_true, cond_false] at hw ⊢
      exact ⟨⟨fun _ => (by first | trivial | rfl), fun _ => hvn⟩, hw⟩
    · skip
      obtain ⟨x9, v11, l11⟩ := x
      show J _ _ _ _ _ ((11, v11) :: (11, v11) :: (7, .agg (cI key).toArray) :: _) _
      have hp4 : m 4 = true := predsT hp (by kernel_rfl)
      have hp4 : m 4 = true := predsT hp (by kernel_rfl)
      refine J.pr (fun hF => ?_)
      have hv11 := hF.2 hp4
      refine J.conseq (I' := St w [] (l11 ++ ((b5, cb (cI key) 23) :: (b3, cb (cI self) 23) :: []))) ?_ (fun w1 hw => by simp only [hp4, cond_true] at hw; exact hw)
      refine J.callB (v := .int .i64 (argI (kN key) (self :: fs))) (fun w1 w2 hw hb => hw.step hb) Ty.bd42 rfl rfl (fun w1 hw => nearest_spec key _ (self :: fs) w1 (vec_rowM hv11 hw (fun q hq => by first | (simp [hq]; done) | (simp at hq; simp [hq]; done) | (simp at hq; subst hq; simp))) (by simp; omega)) ?_
      refine J.nil (JX.finB rfl (fun w1 hw => ⟨⟨⟨x9, v11, l11⟩, rfl, fun j h1 h2 => ?_, ?_⟩, trivial⟩))
      · match j, h1 with
        | 0, _ => (first | rfl | trivial)
        | 1, _ => (first | rfl | trivial)
        | 2, _ => (first | rfl | trivial)
        | 3, _ => (first | rfl | trivial)
        | 4, _ => (first | rfl | trivial)
        | 5, _ => (first | rfl | trivial)
        | 6, _ => (first | rfl | trivial)
        | j + 7, h1 => omega
      show ((m 4 = true → m 2 = true) ∧ (m 4 = true → Vec 23 16 v11 ((self :: fs)).length (fI ((self :: fs))) l11)) ∧ St w [] ((bif m 4 then l11 else (bif m 2 then [(x9, cb (cI self) 23)] else [])) ++ ((b5, cb (cI key) 23) :: (b3, cb (cI self) 23) :: [])) w1
      simp only [hp4, cond_true] at hw ⊢
      exact ⟨⟨fun _ => hF.1 hp4, fun _ => hv11⟩, hw⟩
    · skip
      obtain ⟨x9, v11, l11⟩ := x
      show J _ _ _ _ _ ((12, .int .i64 (argI (kN key) (self :: fs))) :: _) _
      refine J.pr (fun hF => ?_)
      refine J.bin rfl rfl rfl rfl ?_
      refine J.name 13 rfl (show _ = Value.bool (rootV self fs key) from congrArg Value.bool (by rw [Bool.eq_iff_iff, ← root_arg]; simp)) ?_
      exact J.finX rfl (fun _ hw => ⟨⟨x9, v11, l11⟩, rfl, fun _ _ _ => rfl, hF, hw⟩)
  case htail =>
    intro x
    obtain ⟨x9, v11, l11⟩ := x
    show J _ _ _ _ _ ((13, .bool (rootV self fs key)) :: (12, .int .i64 (argI (kN key) (self :: fs))) :: (11, v11) :: (10, .slice af fs.length cf) :: (9, .slice (some ⟨x9, 0, none⟩) 1 1) :: (8, .agg (cI self).toArray) :: (7, .agg (cI key).toArray) :: _) (fun w1 => ((true = true → true = true) ∧ (true = true → Vec 23 16 v11 ((self :: fs)).length (fI ((self :: fs))) l11)) ∧ St w [] ((bif true then l11 else (bif true then [(x9, cb (cI self) 23)] else [])) ++ ((b5, cb (cI key) 23) :: (b3, cb (cI self) 23) :: [])) w1)
    refine J.pr (fun hF => ?_)
    refine J.assign rfl rfl ?_
    refine J.nil ?_
    refine JX.thenN (hK1 _ _ ?_)
    refine JC.ret ?_
    refine JX.ret1 rfl rfl (fun w hw => ?_)
    exact ⟨rfl, (hw.drop (List.nil_sublist _)).below⟩

set_option maxHeartbeats 1000000 in
theorem rroot_spec (self : IDV) (v : Value) (fs : List IDV) (key : IDV) (w : World) (hr : Row w v fs.length (fI fs)) (hl : fs.length ≤ 1000000000) :
    Calls Try.prog 17 [.agg (cI self).toArray, v, .agg (cI key).toArray].toArray w fun r w' => r = .returned (.bool (rootV self fs key)) ∧ Bel w w' := by
  obtain ⟨af, cf, rfl, hcf, _⟩ := id hr
  refine calls_of_J (args := [.agg (cI self).toArray, .slice af fs.length cf, .agg (cI key).toArray]) (e := [(0, .agg (cI self).toArray), (1, .slice af fs.length cf), (2, .agg (cI key).toArray)]) Try.func17 rfl rfl ⟨rfl, rfl, rfl, trivial⟩ (St.start w) ?_
  refine JC.seq (fun K0 hK0 => ?_)
  refine JC.region ?_
  refine J.box rfl rfl rfl (fun b3 => ?_)
  refine J.box rfl rfl rfl (fun b5 => ?_)
  refine J.assign rfl rfl ?_
  refine J.nil ?_
  refine JX.thenN (hK0 _ _ ?_)
  refine JC.seq (fun K1 hK1 => ?_)
  refine JC.seq (fun K2 hK2 => ?_)
  refine JC.region ?_
  refine J.assign rfl rfl ?_
  refine J.nil ?_
  refine JX.thenN (hK2 _ _ ?_)
  refine JC.block ?_
  refine JC.conseq (JC.cov (f := (fun i => [(1, .slice af fs.length cf), (3, .pointer (some ⟨b3, 0, none⟩)), (5, .pointer (some ⟨b5, 0, none⟩)), (7, .int .i64 ((i : Nat) : Int))]) 0) ⟨rfl, rfl, rfl, rfl, trivial⟩ (JC.loop (α := Nat) (fun i => [(1, .slice af fs.length cf), (3, .pointer (some ⟨b3, 0, none⟩)), (5, .pointer (some ⟨b5, 0, none⟩)), (7, .int .i64 ((i : Nat) : Int))]) (fun i w' => (i ≤ fs.length ∧ ∀ k z, k < i → fs[k]? = some z → kN key self ≤ kN key z) ∧ St w [] [(b5, cb (cI key) 23), (b3, cb (cI self) 23)] w') (fun i => fs.length - i) 0 (fun i => ?_))) (fun w hw => ⟨⟨Nat.zero_le _, fun k z hk => by omega⟩, hw⟩)
  refine JC.pr (fun hI => ?_)
  obtain ⟨hi, hall⟩ := hI
  refine JC.seq (fun K3 hK3 => ?_)
  refine JC.seq (fun K4 hK4 => ?_)
  refine JC.region ?_
  refine J.move rfl rfl ?_
  refine J.move rfl rfl ?_
  refine J.lenS rfl Ty.u24 rfl rfl ?_
  refine J.bin rfl rfl rfl rfl ?_
  refine J.nil ?_
  refine JX.thenN (hK4 _ _ ?_)
  refine JC.cond rfl (fun h0 => ?_) (fun h0 => ?_)
  · skip
    have hlt : i < fs.length := by simp at h0; omega
    have hfl := fI_length fs
    obtain ⟨q1, o1, c9, hqe, _, _⟩ := Row.some hr (by omega)
    simp only [Value.slice.injEq] at hqe
    obtain ⟨ha, _, _⟩ := hqe
    have h1s : Row w (.slice (some ⟨q1, o1, none⟩) fs.length cf) fs.length (fI fs) := by rw [← ha]; exact hr
    obtain ⟨xa, hxa⟩ : ∃ x, fs[i]? = some x := ⟨_, List.getElem?_eq_getElem hlt⟩
    refine JC.skip ?_
    refine JX.thenN (hK3 _ _ ?_)
    refine JC.seq (fun K5 hK5 => ?_)
    refine JC.block ?_
    refine JC.seq (fun K6 hK6 => ?_)
    apply JC.drawL 7 [Eqv (.agg (cI key).toArray), Eqv (.slice (some ⟨q1, o1, none⟩) fs.length cf), Eqv (.int .i64 ((i : Nat) : Int)), Eqv (.pointer (some ⟨q1, o1 + (i : Int).toNat * 16, none⟩)), Eqv (.agg (cI xa).toArray), Eqv (.agg (cI self).toArray), Eqv (.bool (decide (kN key xa < kN key self)))] Ty.mixed rfl rfl rfl (by kernel_rfl) rfl rfl (fun w w' hw hb => hw.step hb) ⟨fun _ _ _ h _ => h, fun _ _ _ h _ => h, fun _ _ _ h _ => h, fun _ _ _ h _ => h, fun _ _ _ h _ => h, fun _ _ _ h _ => h, fun _ _ _ h _ => h, trivial⟩ ?hstep ?htail
    case hstep =>
      refine ⟨fun wi => ?_, fun wi => ?_, fun wi => ?_, fun wi => ?_, fun wi => ?_, fun wi => ?_, fun wi => ?_, trivial⟩
      · skip
        refine Fin.nil ?_
        refine J.loadA (vs := cI key) Ty.a23 Ty.s23 rfl rfl (fun w1 hw => Cells.of_block (hw.2.own ((b5, cb (cI key) 23)) (by repeat first | exact .head _ | apply List.Mem.tail | apply List.mem_append_right)) rfl) rfl ?_
        exact J.finP rfl
      · skip
        refine Fin.nil ?_
        refine J.move rfl rfl ?_
        refine J.name 15 rfl (show _ = Value.slice (some ⟨q1, o1, none⟩) fs.length cf by rw [ha]) ?_
        exact J.finP rfl
      · skip
        refine Fin.nil ?_
        refine J.move rfl rfl ?_
        exact J.finP rfl
      · skip
        refine Fin.consE rfl (Fin.consE rfl (Fin.nil ?_))
        refine J.indexAddrS Ty.el24 Ty.s23 rfl rfl (by omega) (by omega) rfl ?_
        exact J.finP rfl
      · skip
        refine Fin.consE rfl (Fin.nil ?_)
        refine J.loadA (vs := cI xa) Ty.a23 Ty.s23 rfl rfl (fun w1 hw => rowF_at (h1s.below (hw.2.drop (List.nil_sublist _)).below) hxa (by simp)) rfl ?_
        exact J.finP rfl
      · skip
        refine Fin.nil ?_
        refine J.loadA (vs := cI self) Ty.a23 Ty.s23 rfl rfl (fun w1 hw => Cells.of_block (hw.2.own ((b3, cb (cI self) 23)) (by repeat first | exact .head _ | apply List.Mem.tail | apply List.mem_append_right)) rfl) rfl ?_
        exact J.finP rfl
      · skip
        refine Fin.consE rfl (Fin.consE rfl (Fin.consE rfl (Fin.nil ?_)))
        refine J.callD (v := .bool (decide (kN key xa < kN key self))) Ty.bd23 rfl rfl (fun w1 hw => rnearer_spec key xa self w1) ?_
        exact J.finQ rfl
    case htail =>
      refine Fin.consE rfl (Fin.consE rfl (Fin.consE rfl (Fin.consE rfl (Fin.consE rfl (Fin.consE rfl (Fin.consE rfl (Fin.nil ?_)))))))
      refine J.nil ?_
      refine JX.thenN (hK6 _ _ ?_)
      refine JC.cond rfl (fun h1 => ?_) (fun h1 => ?_)
      · skip
        have hn : kN key xa < kN key self := by simpa using h1
        refine JC.seq (fun K7 hK7 => ?_)
        refine JC.region ?_
        refine J.assign rfl rfl ?_
        refine J.nil ?_
        refine JX.thenN (hK7 _ _ ?_)
        refine JC.ret ?_
        refine JX.blockR ?_
        refine JX.thenR ?_
        refine JX.thenR ?_
        refine JX.blockR ?_
        refine JX.thenR ?_
        refine JX.ret1 rfl rfl (fun w hw => ?_)
        have hroot : rootV self fs key = false := by
          cases h : rootV self fs key with
          | false => rfl
          | true => have := rootV_iff.1 h xa (List.mem_of_getElem? hxa); omega
        exact ⟨by rw [hroot], (hw.drop (List.nil_sublist _)).below⟩
      · skip
        have hn : ¬ kN key xa < kN key self := by simpa using h1
        refine JC.skip ?_
        refine JX.blockN ?_
        refine JX.thenN (hK5 _ _ ?_)
        refine JC.region ?_
        refine J.move rfl rfl ?_
        (first | refine J.addN rfl rfl (by omega) (by omega) rfl ?_ | refine J.bin rfl rfl rfl rfl ?_)
        refine J.assign rfl rfl ?_
        refine J.nil ?_
        refine JX.thenN ?_
        refine JX.again (i + 1) ?_ ?_ ?_
        · omega
        · exact ⟨rfl, rfl, rfl, rfl, trivial⟩
        · exact fun w1 hw => ⟨⟨hlt, fun k z hk hz => by
          rcases Nat.lt_or_ge k i with h | h
          · exact hall k z h hz
          · have : k = i := by omega
            subst this; rw [hxa] at hz; cases hz; omega⟩, hw⟩
  · skip
    have hge : i = fs.length := by simp at h0; omega
    refine JC.exit ?_
    refine JX.thenE ?_
    refine JX.thenE ?_
    refine JX.blockE ?_
    refine JX.thenN (hK1 _ _ ?_)
    refine JC.seq (fun K8 hK8 => ?_)
    refine JC.region ?_
    refine J.assign rfl rfl ?_
    refine J.nil ?_
    refine JX.thenN (hK8 _ _ ?_)
    refine JC.ret ?_
    refine JX.ret1 rfl rfl (fun w hw => ?_)
    have hroot : rootV self fs key = true := rootV_iff.2 (fun x hx => by
      obtain ⟨k, hk, rfl⟩ := List.getElem_of_mem hx
      exact hall k _ (by omega) (List.getElem?_eq_getElem hk))
    exact ⟨by rw [hroot], (hw.drop (List.nil_sublist _)).below⟩

set_option maxHeartbeats 1000000 in
theorem owed_spec (self : IDV) (v : Value) (fs : List IDV) (key : IDV) (w : World) (hr : Row w v fs.length (fI fs)) (hl : fs.length ≤ 1000000000) :
    Calls Try.prog 19 [.agg (cI self).toArray, v, .agg (cI key).toArray].toArray w fun r w' => ∃ x : Value × List (Nat × Obj), r = .returned x.1 ∧ Vec 23 16 x.1 (owedV self fs key).length (fI (owedV self fs key)) x.2 ∧ St w [] x.2 w' := by
  obtain ⟨af, cf, rfl, hcf, _⟩ := id hr
  refine calls_of_J (args := [.agg (cI self).toArray, .slice af fs.length cf, .agg (cI key).toArray]) (e := [(0, .agg (cI self).toArray), (1, .slice af fs.length cf), (2, .agg (cI key).toArray)]) Try.func19 rfl rfl ⟨rfl, rfl, rfl, trivial⟩ (St.start w) ?_
  refine JC.seq (fun K0 hK0 => ?_)
  refine JC.region ?_
  refine J.box rfl rfl rfl (fun b3 => ?_)
  refine J.box rfl rfl rfl (fun b5 => ?_)
  refine J.assign rfl rfl ?_
  refine J.nil ?_
  refine JX.thenN (hK0 _ _ ?_)
  refine JC.seq (fun K1 hK1 => ?_)
  refine JC.region ?_
  refine J.loadOA (vs := cI self) Ty.a23 Ty.s23 rfl (by repeat first | exact .head _ | apply List.Mem.tail | apply List.mem_append_right) (by exact rfl) rfl rfl ?_
  refine J.move rfl rfl ?_
  refine J.perm ([] ++ ((b5, cb (cI key) 23) :: (b3, cb (cI self) 23) :: [])) (.refl _) ?_
  refine J.callS (α := Value × List (Nat × Obj)) (V := (·.1)) (Pr := fun x => Vec 23 16 x.1 ((sortI fs self)).length (fI ((sortI fs self))) x.2) (L := (·.2)) (l1 := []) Ty.bd43 rfl rfl (fun w1 hw => sorted_spec self _ fs w1 (hr.below (hw.drop (List.nil_sublist _)).below) (by omega)) (fun x hvw => ?_)
  obtain ⟨vw, lw⟩ := x
  simp only at hvw ⊢
  obtain ⟨al, cl, rfl, hcl⟩ := hvw.form
  have hsl := sortI_le fs self
  refine J.assign rfl rfl ?_
  refine J.nil ?_
  refine JX.thenN (hK1 _ _ ?_)
  refine JC.seq (fun K2 hK2 => ?_)
  refine JC.seq (fun K3 hK3 => ?_)
  by_cases hl0 : (sortI fs self).length = 0
  · skip
    have hro : rootV self (sortI fs self) key = true := by rw [List.eq_nil_of_length_eq_zero hl0]; rfl
    refine JC.region ?_
    refine J.move rfl rfl ?_
    refine J.lenS rfl Ty.u24 rfl rfl ?_
    refine J.bin rfl rfl rfl rfl ?_
    refine J.name 13 rfl (show _ = Value.bool true by simp [hl0]) ?_
    refine J.move rfl rfl ?_
    first | refine J.skip rfl rfl rfl rfl rfl ?_ | refine J.skipU rfl rfl rfl rfl ?_ | (refine J.unguard rfl rfl rfl ?_; refine J.loadOA (vs := cI self) Ty.a23 Ty.s23 rfl (by repeat first | exact .head _ | apply List.Mem.tail | apply List.mem_append_right) (by exact rfl) rfl rfl ?_)
    first | refine J.skip rfl rfl rfl rfl rfl ?_ | refine J.skipU rfl rfl rfl rfl ?_ | (refine J.unguard rfl rfl rfl ?_; refine J.move rfl rfl ?_)
    first | refine J.skip rfl rfl rfl rfl rfl ?_ | refine J.skipU rfl rfl rfl rfl ?_ | (refine J.unguard rfl rfl rfl ?_; refine J.loadOA (vs := cI key) Ty.a23 Ty.s23 rfl (by repeat first | exact .head _ | apply List.Mem.tail | apply List.mem_append_right) (by exact rfl) rfl rfl ?_)
    first | refine J.skip rfl rfl rfl rfl rfl ?_ | refine J.skipU rfl rfl rfl rfl ?_ | (refine J.unguard rfl rfl rfl ?_; skip)
    (first | refine J.pickT rfl rfl rfl ?_ | refine J.pickF rfl rfl rfl ?_)
    refine J.nil ?_
    refine JX.thenN (hK3 _ _ ?_)
    first | refine JC.condT rfl ?_ | refine JC.cond rfl (fun _ => ?_) (fun h => by first | (exfalso; simp at h; omega) | (simp at h))
    refine JC.seq (fun K4 hK4 => ?_)
    refine JC.region ?_
    refine J.move rfl rfl ?_
    refine J.assign rfl rfl ?_
    refine J.nil ?_
    refine JX.thenN (hK4 _ _ ?_)
    refine JC.ret ?_
    refine JX.thenR ?_
    refine JX.ret1 rfl rfl (fun w hw => ?_)
    have ho : owedV self fs key = (sortI fs self) := if_pos hro
    exact ⟨(_, lw), rfl, by rw [ho]; exact hvw, hw.drop (List.sublist_append_left _ _)⟩
  · skip
    cases hro : rootV self (sortI fs self) key with
    | false =>
      have hne : (sortI fs self) ≠ [] := fun e => by rw [e] at hro; cases hro
      obtain ⟨i, hi1, hi2, hi3, hi4⟩ := minV_at (key := key) hne
      have hil : i < (sortI fs self).length := (List.getElem?_eq_some_iff.1 hi2).1
      obtain ⟨ql, rfl⟩ : ∃ q, al = some ⟨q, 0, none⟩ := by
        rcases hvw.2 with ⟨_, h9, _⟩ | ⟨q, c9, sp, h9, _⟩
        · omega
        · simp only [Value.slice.injEq] at h9; exact ⟨q, h9.1⟩
      refine JC.region ?_
      refine J.move rfl rfl ?_
      refine J.lenS rfl Ty.u24 rfl rfl ?_
      refine J.bin rfl rfl rfl rfl ?_
      refine J.name 13 rfl (show _ = Value.bool false by simp [hl0]) ?_
      refine J.move rfl rfl ?_
      first | refine J.skip rfl rfl rfl rfl rfl ?_ | refine J.skipU rfl rfl rfl rfl ?_ | (refine J.unguard rfl rfl rfl ?_; refine J.loadOA (vs := cI self) Ty.a23 Ty.s23 rfl (by repeat first | exact .head _ | apply List.Mem.tail | apply List.mem_append_right) (by exact rfl) rfl rfl ?_)
      first | refine J.skip rfl rfl rfl rfl rfl ?_ | refine J.skipU rfl rfl rfl rfl ?_ | (refine J.unguard rfl rfl rfl ?_; refine J.move rfl rfl ?_)
      first | refine J.skip rfl rfl rfl rfl rfl ?_ | refine J.skipU rfl rfl rfl rfl ?_ | (refine J.unguard rfl rfl rfl ?_; refine J.loadOA (vs := cI key) Ty.a23 Ty.s23 rfl (by repeat first | exact .head _ | apply List.Mem.tail | apply List.mem_append_right) (by exact rfl) rfl rfl ?_)
      refine J.unguard rfl rfl rfl ?_
      refine J.callB (v := .bool (rootV self (sortI fs self) key)) (fun w1 w2 hw hb => hw.step hb) Ty.bd16 rfl rfl (fun w1 hw => root_spec self _ (sortI fs self) key w1 (vec_rowM hvw hw (fun q hq => by first | (simp [hq]; done) | (simp at hq; simp [hq]; done) | (simp at hq; subst hq; simp))) (by omega)) ?_
      refine J.name 18 rfl (show _ = Value.bool false by rw [hro]) ?_
      (first | refine J.pickT rfl rfl rfl ?_ | refine J.pickF rfl rfl rfl ?_)
      refine J.nil ?_
      refine JX.thenN (hK3 _ _ ?_)
      first | refine JC.condF rfl ?_ | refine JC.cond rfl (fun h => by first | (exfalso; simp at h; omega) | (simp at h)) (fun _ => ?_)
      refine JC.skip ?_
      refine JX.thenN (hK2 _ _ ?_)
      refine JC.seq (fun K5 hK5 => ?_)
      refine JC.region ?_
      refine J.move rfl rfl ?_
      refine J.loadOA (vs := cI key) Ty.a23 Ty.s23 rfl (by repeat first | exact .head _ | apply List.Mem.tail | apply List.mem_append_right) (by exact rfl) rfl rfl ?_
      refine J.move rfl rfl ?_
      refine J.callB (v := .int .i64 (argI (kN key) (sortI fs self))) (fun w1 w2 hw hb => hw.step hb) Ty.bd42 rfl rfl (fun w1 hw => nearest_spec key _ (sortI fs self) w1 (vec_rowM hvw hw (fun q hq => by first | (simp [hq]; done) | (simp at hq; simp [hq]; done) | (simp at hq; subst hq; simp))) (by omega)) ?_
      refine J.name 24 rfl (show _ = Value.int .i64 ((i : Nat) : Int) by rw [hi1]) ?_
      refine J.indexAddrS Ty.el24 Ty.s23 rfl rfl (by omega) (by omega) rfl ?_
      refine J.loadA (vs := cI (minV key (sortI fs self))) Ty.a23 Ty.s23 rfl rfl (fun w1 hw => rowF_at (o := 0) (vec_rowM hvw hw (fun q hq => by first | (simp [hq]; done) | (simp at hq; simp [hq]; done) | (simp at hq; subst hq; simp))) hi2 (by simp)) rfl ?_
      refine J.buildSl (cs := cI (minV key (sortI fs self))) Ty.el24 Ty.s23 Ty.zID rfl rfl rfl rfl (by kernel_rfl) rfl rfl (fun b27 => ?_)
      refine J.assign rfl rfl ?_
      refine J.nil ?_
      refine JX.thenN (hK5 _ _ ?_)
      refine JC.ret ?_
      refine JX.ret1 rfl rfl (fun w hw => ?_)
      have ho : owedV self fs key = [(minV key (sortI fs self))] := if_neg (by rw [hro]; decide)
      exact ⟨(.slice (some ⟨b27, 0, none⟩) 1 1, [(b27, cb (cI (minV key (sortI fs self))) 23)]), rfl, by rw [ho]; exact ⟨rfl, .inr ⟨b27, 1, [], rfl, rfl, rfl, Nat.le_refl _⟩⟩, hw.drop (.cons_cons _ (List.nil_sublist _))⟩
    | true =>
      refine JC.region ?_
      refine J.move rfl rfl ?_
      refine J.lenS rfl Ty.u24 rfl rfl ?_
      refine J.bin rfl rfl rfl rfl ?_
      refine J.name 13 rfl (show _ = Value.bool false by simp [hl0]) ?_
      refine J.move rfl rfl ?_
      first | refine J.skip rfl rfl rfl rfl rfl ?_ | refine J.skipU rfl rfl rfl rfl ?_ | (refine J.unguard rfl rfl rfl ?_; refine J.loadOA (vs := cI self) Ty.a23 Ty.s23 rfl (by repeat first | exact .head _ | apply List.Mem.tail | apply List.mem_append_right) (by exact rfl) rfl rfl ?_)
      first | refine J.skip rfl rfl rfl rfl rfl ?_ | refine J.skipU rfl rfl rfl rfl ?_ | (refine J.unguard rfl rfl rfl ?_; refine J.move rfl rfl ?_)
      first | refine J.skip rfl rfl rfl rfl rfl ?_ | refine J.skipU rfl rfl rfl rfl ?_ | (refine J.unguard rfl rfl rfl ?_; refine J.loadOA (vs := cI key) Ty.a23 Ty.s23 rfl (by repeat first | exact .head _ | apply List.Mem.tail | apply List.mem_append_right) (by exact rfl) rfl rfl ?_)
      refine J.unguard rfl rfl rfl ?_
      refine J.callB (v := .bool (rootV self (sortI fs self) key)) (fun w1 w2 hw hb => hw.step hb) Ty.bd16 rfl rfl (fun w1 hw => root_spec self _ (sortI fs self) key w1 (vec_rowM hvw hw (fun q hq => by first | (simp [hq]; done) | (simp at hq; simp [hq]; done) | (simp at hq; subst hq; simp))) (by omega)) ?_
      refine J.name 18 rfl (show _ = Value.bool true by rw [hro]) ?_
      (first | refine J.pickT rfl rfl rfl ?_ | refine J.pickF rfl rfl rfl ?_)
      refine J.nil ?_
      refine JX.thenN (hK3 _ _ ?_)
      first | refine JC.condT rfl ?_ | refine JC.cond rfl (fun _ => ?_) (fun h => by first | (exfalso; simp at h; omega) | (simp at h))
      refine JC.seq (fun K6 hK6 => ?_)
      refine JC.region ?_
      refine J.move rfl rfl ?_
      refine J.assign rfl rfl ?_
      refine J.nil ?_
      refine JX.thenN (hK6 _ _ ?_)
      refine JC.ret ?_
      refine JX.thenR ?_
      refine JX.ret1 rfl rfl (fun w hw => ?_)
      have ho : owedV self fs key = (sortI fs self) := if_pos hro
      exact ⟨(_, lw), rfl, by rw [ho]; exact hvw, hw.drop (List.sublist_append_left _ _)⟩

set_option maxHeartbeats 1000000 in
theorem rowed_spec (self : IDV) (v : Value) (fs : List IDV) (key : IDV) (w : World) (hr : Row w v fs.length (fI fs)) (hl : fs.length ≤ 1000000000) :
    Calls Try.prog 20 [.agg (cI self).toArray, v, .agg (cI key).toArray].toArray w fun r w' => ∃ x : Value × List (Nat × Obj), r = .returned x.1 ∧ Vec 23 16 x.1 (owedV self fs key).length (fI (owedV self fs key)) x.2 ∧ St w [] x.2 w' := by
  obtain ⟨af, cf, rfl, hcf, _⟩ := id hr
  refine calls_of_J (args := [.agg (cI self).toArray, .slice af fs.length cf, .agg (cI key).toArray]) (e := [(0, .agg (cI self).toArray), (1, .slice af fs.length cf), (2, .agg (cI key).toArray)]) Try.func20 rfl rfl ⟨rfl, rfl, rfl, trivial⟩ (St.start w) ?_
  refine JC.seq (fun K0 hK0 => ?_)
  refine JC.region ?_
  refine J.box rfl rfl rfl (fun b3 => ?_)
  refine J.box rfl rfl rfl (fun b5 => ?_)
  refine J.assign rfl rfl ?_
  refine J.nil ?_
  refine JX.thenN (hK0 _ _ ?_)
  refine JC.seq (fun K1 hK1 => ?_)
  refine JC.region ?_
  refine J.loadOA (vs := cI self) Ty.a23 Ty.s23 rfl (by repeat first | exact .head _ | apply List.Mem.tail | apply List.mem_append_right) (by exact rfl) rfl rfl ?_
  refine J.move rfl rfl ?_
  refine J.perm ([] ++ ((b5, cb (cI key) 23) :: (b3, cb (cI self) 23) :: [])) (.refl _) ?_
  refine J.callS (α := Value × List (Nat × Obj)) (V := (·.1)) (Pr := fun x => Vec 23 16 x.1 ((sortI fs self)).length (fI ((sortI fs self))) x.2) (L := (·.2)) (l1 := []) Ty.bd44 rfl rfl (fun w1 hw => rsorted_spec self _ fs w1 (hr.below (hw.drop (List.nil_sublist _)).below) (by omega)) (fun x hvw => ?_)
  obtain ⟨vw, lw⟩ := x
  simp only at hvw ⊢
  obtain ⟨al, cl, rfl, hcl⟩ := hvw.form
  have hsl := sortI_le fs self
  refine J.assign rfl rfl ?_
  refine J.nil ?_
  refine JX.thenN (hK1 _ _ ?_)
  refine JC.seq (fun K2 hK2 => ?_)
  refine JC.seq (fun K3 hK3 => ?_)
  cases hro : rootV self (sortI fs self) key with
  | false =>
    have hne : (sortI fs self) ≠ [] := fun e => by rw [e] at hro; cases hro
    obtain ⟨i, hi1, hi2, hi3, hi4⟩ := minV_at (key := key) hne
    have hil : i < (sortI fs self).length := (List.getElem?_eq_some_iff.1 hi2).1
    obtain ⟨ql, rfl⟩ : ∃ q, al = some ⟨q, 0, none⟩ := by
      rcases hvw.2 with ⟨_, h9, _⟩ | ⟨q, c9, sp, h9, _⟩
      · omega
      · simp only [Value.slice.injEq] at h9; exact ⟨q, h9.1⟩
    refine JC.region ?_
    refine J.loadOA (vs := cI self) Ty.a23 Ty.s23 rfl (by repeat first | exact .head _ | apply List.Mem.tail | apply List.mem_append_right) (by exact rfl) rfl rfl ?_
    refine J.move rfl rfl ?_
    refine J.loadOA (vs := cI key) Ty.a23 Ty.s23 rfl (by repeat first | exact .head _ | apply List.Mem.tail | apply List.mem_append_right) (by exact rfl) rfl rfl ?_
    refine J.callB (v := .bool (rootV self (sortI fs self) key)) (fun w1 w2 hw hb => hw.step hb) Ty.bd17 rfl rfl (fun w1 hw => rroot_spec self _ (sortI fs self) key w1 (vec_rowM hvw hw (fun q hq => by first | (simp [hq]; done) | (simp at hq; simp [hq]; done) | (simp at hq; subst hq; simp))) (by omega)) ?_
    refine J.name 14 rfl (show _ = Value.bool false by rw [hro]) ?_
    refine J.nil ?_
    refine JX.thenN (hK3 _ _ ?_)
    first | refine JC.condF rfl ?_ | refine JC.cond rfl (fun h => by first | (exfalso; simp at h; omega) | (simp at h)) (fun _ => ?_)
    refine JC.skip ?_
    refine JX.thenN (hK2 _ _ ?_)
    refine JC.seq (fun K4 hK4 => ?_)
    refine JC.region ?_
    refine J.move rfl rfl ?_
    refine J.loadOA (vs := cI key) Ty.a23 Ty.s23 rfl (by repeat first | exact .head _ | apply List.Mem.tail | apply List.mem_append_right) (by exact rfl) rfl rfl ?_
    refine J.move rfl rfl ?_
    refine J.callB (v := .int .i64 (argI (kN key) (sortI fs self))) (fun w1 w2 hw hb => hw.step hb) Ty.bd22 rfl rfl (fun w1 hw => rnearest_spec key _ (sortI fs self) w1 (vec_rowM hvw hw (fun q hq => by first | (simp [hq]; done) | (simp at hq; simp [hq]; done) | (simp at hq; subst hq; simp))) (by omega)) ?_
    refine J.name 19 rfl (show _ = Value.int .i64 ((i : Nat) : Int) by rw [hi1]) ?_
    refine J.indexAddrS Ty.el24 Ty.s23 rfl rfl (by omega) (by omega) rfl ?_
    refine J.loadA (vs := cI (minV key (sortI fs self))) Ty.a23 Ty.s23 rfl rfl (fun w1 hw => rowF_at (o := 0) (vec_rowM hvw hw (fun q hq => by first | (simp [hq]; done) | (simp at hq; simp [hq]; done) | (simp at hq; subst hq; simp))) hi2 (by simp)) rfl ?_
    refine J.buildSl (cs := cI (minV key (sortI fs self))) Ty.el24 Ty.s23 Ty.zID rfl rfl rfl rfl (by kernel_rfl) rfl rfl (fun b27 => ?_)
    refine J.assign rfl rfl ?_
    refine J.nil ?_
    refine JX.thenN (hK4 _ _ ?_)
    refine JC.ret ?_
    refine JX.ret1 rfl rfl (fun w hw => ?_)
    have ho : owedV self fs key = [(minV key (sortI fs self))] := if_neg (by rw [hro]; decide)
    exact ⟨(.slice (some ⟨b27, 0, none⟩) 1 1, [(b27, cb (cI (minV key (sortI fs self))) 23)]), rfl, by rw [ho]; exact ⟨rfl, .inr ⟨b27, 1, [], rfl, rfl, rfl, Nat.le_refl _⟩⟩, hw.drop (.cons_cons _ (List.nil_sublist _))⟩
  | true =>
    refine JC.region ?_
    refine J.loadOA (vs := cI self) Ty.a23 Ty.s23 rfl (by repeat first | exact .head _ | apply List.Mem.tail | apply List.mem_append_right) (by exact rfl) rfl rfl ?_
    refine J.move rfl rfl ?_
    refine J.loadOA (vs := cI key) Ty.a23 Ty.s23 rfl (by repeat first | exact .head _ | apply List.Mem.tail | apply List.mem_append_right) (by exact rfl) rfl rfl ?_
    refine J.callB (v := .bool (rootV self (sortI fs self) key)) (fun w1 w2 hw hb => hw.step hb) Ty.bd17 rfl rfl (fun w1 hw => rroot_spec self _ (sortI fs self) key w1 (vec_rowM hvw hw (fun q hq => by first | (simp [hq]; done) | (simp at hq; simp [hq]; done) | (simp at hq; subst hq; simp))) (by omega)) ?_
    refine J.name 14 rfl (show _ = Value.bool true by rw [hro]) ?_
    refine J.nil ?_
    refine JX.thenN (hK3 _ _ ?_)
    first | refine JC.condT rfl ?_ | refine JC.cond rfl (fun _ => ?_) (fun h => by first | (exfalso; simp at h; omega) | (simp at h))
    refine JC.seq (fun K5 hK5 => ?_)
    refine JC.region ?_
    refine J.move rfl rfl ?_
    refine J.assign rfl rfl ?_
    refine J.nil ?_
    refine JX.thenN (hK5 _ _ ?_)
    refine JC.ret ?_
    refine JX.thenR ?_
    refine JX.ret1 rfl rfl (fun w hw => ?_)
    have ho : owedV self fs key = (sortI fs self) := if_pos hro
    exact ⟨(_, lw), rfl, by rw [ho]; exact hvw, hw.drop (List.sublist_append_left _ _)⟩

end Go.Proofs.Ytbafhclandendaa
