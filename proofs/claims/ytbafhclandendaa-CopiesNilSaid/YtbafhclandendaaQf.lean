/-
  CopiesNil: contracts at nil, the walk.
-/
import Derived.Test.YtbafhclandendaaQe
namespace Go.Proofs.Ytbafhclandendaa
open Go.J Go.RowKit
set_option linter.unusedVariables false
set_option linter.unusedSimpArgs false
set_option maxRecDepth 8000
theorem zVer_ : zeroT Try.prog 46 = some (.agg (Value.int .i64 0 :: cI zI).toArray) := by kernel_rfl
def RAny : World → List Value → Unit → Prop := fun _ _ _ => True
theorem dec_any (t : TypeId) : Decodes Try.prog t RAny := fun _ _ _ _ _ _ _ _ => ⟨(), trivial⟩

theorem mark_nil (a b : IDV) (vc : List Value) (w : World) :
    Calls Try.prog 26 [.pointer none, .agg (cI a).toArray, .agg (cI b).toArray, .agg vc.toArray].toArray w fun r w' => r = .returned (.tuple #[]) ∧ Bel w w' := by
  refine calls_of_J (args := [.pointer none, .agg (cI a).toArray, .agg (cI b).toArray, .agg vc.toArray]) (e := [(0, .pointer none), (1, .agg (cI a).toArray), (2, .agg (cI b).toArray), (3, .agg vc.toArray)]) Try.func26 rfl rfl ⟨rfl, rfl, rfl, rfl, trivial⟩ (St.start w) ?_
  refine JC.seq (fun K0 hK0 => ?_)
  refine JC.region ?_
  refine J.box rfl rfl rfl (fun b5 => ?_)
  refine J.box rfl rfl rfl (fun b6 => ?_)
  refine J.box rfl rfl rfl (fun b7 => ?_)
  refine J.nil ?_
  refine JX.thenN (hK0 _ _ ?_)
  refine JC.seq (fun K1 hK1 => ?_)
  refine JC.region ?_
  refine J.move rfl rfl ?_
  refine J.neNil Ty.u39 rfl rfl rfl ?_
  refine J.nil ?_
  refine JX.thenN (hK1 _ _ ?_)
  first | refine JC.condF rfl ?_ | refine JC.cond rfl (fun h => by first | (exfalso; simp at h; omega) | (simp at h)) (fun _ => ?_)
  refine JC.skip ?_
  refine JX.end0 rfl (fun w1 hw => ?_)
  exact ⟨rfl, (hw.drop (List.nil_sublist _)).below⟩

theorem retain_nil (v : Value) (w : World) :
    Calls Try.prog 28 [.pointer none, v].toArray w fun r w' => r = .returned (.tuple #[]) ∧ Bel w w' := by
  refine calls_of_J (args := [.pointer none, v]) (e := [(0, .pointer none), (1, v)]) Try.func28 rfl rfl ⟨rfl, rfl, trivial⟩ (St.start w) ?_
  refine JC.seq (fun K0 hK0 => ?_)
  refine JC.seq (fun K1 hK1 => ?_)
  refine JC.region ?_
  refine J.move rfl rfl ?_
  refine J.eqNil Ty.u39 rfl rfl rfl ?_
  refine J.nil ?_
  refine JX.thenN (hK1 _ _ ?_)
  first | refine JC.condT rfl ?_ | refine JC.cond rfl (fun _ => ?_) (fun h => by first | (exfalso; simp at h; omega) | (simp at h))
  refine JC.ret ?_
  refine JX.thenR ?_
  refine JX.ret0 rfl (fun w1 hw => ?_)
  exact ⟨rfl, (hw.drop (List.nil_sublist _)).below⟩

theorem due_nil (a : IDV) (v1 v2 : Value) (w : World) :
    Calls Try.prog 30 [.pointer none, .agg (cI a).toArray, v1, v2].toArray w fun r w' => r = .returned (.slice none 0 0) ∧ Bel w w' := by
  refine calls_of_J (args := [.pointer none, .agg (cI a).toArray, v1, v2]) (e := [(0, .pointer none), (1, .agg (cI a).toArray), (2, v1), (3, v2)]) Try.func30 rfl rfl ⟨rfl, rfl, rfl, rfl, trivial⟩ (St.start w) ?_
  refine JC.seq (fun K0 hK0 => ?_)
  refine JC.region ?_
  refine J.box rfl rfl rfl (fun b5 => ?_)
  refine J.assign rfl rfl ?_
  refine J.nil ?_
  refine JX.thenN (hK0 _ _ ?_)
  refine JC.seq (fun K1 hK1 => ?_)
  refine JC.seq (fun K2 hK2 => ?_)
  refine JC.region ?_
  refine J.move rfl rfl ?_
  refine J.eqNil Ty.u39 rfl rfl rfl ?_
  refine J.nil ?_
  refine JX.thenN (hK2 _ _ ?_)
  first | refine JC.condT rfl ?_ | refine JC.cond rfl (fun _ => ?_) (fun h => by first | (exfalso; simp at h; omega) | (simp at h))
  refine JC.seq (fun K3 hK3 => ?_)
  refine JC.region ?_
  refine J.assign rfl rfl ?_
  refine J.nil ?_
  refine JX.thenN (hK3 _ _ ?_)
  refine JC.ret ?_
  refine JX.thenR ?_
  refine JX.ret1 rfl rfl (fun w hw => ?_)
  exact ⟨rfl, (hw.drop (List.nil_sublist _)).below⟩

set_option maxHeartbeats 1000000 in
theorem copiesNil_spec (self : IDV) (v : Value) (w : World) :
    Calls Try.prog 8 [.agg (cI self).toArray, v].toArray w fun r w' => r = .returned (.bool true) ∧ Bel w w' := by
  refine calls_of_J (args := [.agg (cI self).toArray, v]) (e := [(0, .agg (cI self).toArray), (1, v)]) Try.func8 rfl rfl ⟨rfl, rfl, trivial⟩ (St.start w) ?_
  refine JC.seq (fun K0 hK0 => ?_)
  refine JC.region ?_
  refine J.box rfl rfl rfl (fun b2 => ?_)
  refine J.assign rfl rfl ?_
  refine J.nil ?_
  refine JX.thenN (hK0 _ _ ?_)
  refine JC.seq (fun K1 hK1 => ?_)
  refine JC.region ?_
  refine J.assign rfl rfl ?_
  refine J.nil ?_
  refine JX.thenN (hK1 _ _ ?_)
  refine JC.seq (fun K2 hK2 => ?_)
  refine JC.region ?_
  refine J.move rfl rfl ?_
  refine J.loadOA (vs := cI self) Ty.a23 Ty.s23 rfl (by repeat first | exact .head _ | apply List.Mem.tail | apply List.mem_append_right) (by exact rfl) rfl rfl ?_
  refine J.loadOA (vs := cI self) Ty.a23 Ty.s23 rfl (by repeat first | exact .head _ | apply List.Mem.tail | apply List.mem_append_right) (by exact rfl) rfl rfl ?_
  refine J.buildS (cs := (Value.int .i64 1 :: cI zI)) Ty.pl46 zVer_ rfl (by kernel_rfl) rfl ?_
  refine J.callB (v := .tuple #[]) (fun w1 w2 hw hb => hw.step hb) Ty.bd26 rfl rfl (fun w1 hw => mark_nil self self (Value.int .i64 1 :: cI zI) w1) ?_
  refine J.nil ?_
  refine JX.thenN (hK2 _ _ ?_)
  refine JC.seq (fun K3 hK3 => ?_)
  refine JC.region ?_
  refine J.move rfl rfl ?_
  refine J.loadOA (vs := cI self) Ty.a23 Ty.s23 rfl (by repeat first | exact .head _ | apply List.Mem.tail | apply List.mem_append_right) (by exact rfl) rfl rfl ?_
  refine J.buildSl (cs := cI self) Ty.el24 Ty.s23 Ty.zID rfl rfl rfl rfl (by kernel_rfl) rfl rfl (fun b13 => ?_)
  refine J.callB (v := .tuple #[]) (fun w1 w2 hw hb => hw.step hb) Ty.bd28 rfl rfl (fun w1 hw => retain_nil _ w1) ?_
  refine J.nil ?_
  refine JX.thenN (hK3 _ _ ?_)
  refine JC.seq (fun K4 hK4 => ?_)
  apply JC.drawX (α := Nat × Unit) 12 (fun x => match x with | ⟨x21, u21⟩ => [.bool true, .bool true, .pointer none, .agg (cI self).toArray, .agg (cI (nI 1)).toArray, .agg (cI (nI 2)).toArray, .slice (some ⟨x21, 0, none⟩) 2 2, v, .slice none 0 0, .int .i64 0, .bool true, .bool true]) (fun m x => match x with | ⟨x21, u21⟩ => fun w1 => (True) ∧ St w [] ((bif m 6 then [(x21, cb (cI (nI 1) ++ cI (nI 2)) 23)] else []) ++ ((b13, cb (cI self) 23) :: (b2, cb (cI self) 23) :: [])) w1) Ty.mixed rfl rfl rfl (by kernel_rfl) rfl rfl ?hinit ?hstep ?htail
  case hinit => exact fun w1 hw => ⟨(0, ()), trivial, hw.drew⟩
  case hstep =>
    refine ⟨fun m x hm hp => ?_, fun m x hm hp => ?_, fun m x hm hp => ?_, fun m x hm hp => ?_, fun m x hm hp => ?_, fun m x hm hp => ?_, fun m x hm hp => ?_, fun m x hm hp => ?_, fun m x hm hp => ?_, fun m x hm hp => ?_, fun m x hm hp => ?_, fun m x hm hp => ?_, trivial⟩
    · skip
      obtain ⟨x21, u21⟩ := x
      show J _ _ _ _ _ (_) _
      refine J.pr (fun hF => ?_)
      refine J.callB (v := .bool true) (fun w1 w2 hw hb => hw.step hb) Ty.bd15 rfl rfl (fun w1 hw => fixed19_spec w1) ?_
      exact J.finX rfl (fun _ hw => ⟨⟨x21, u21⟩, rfl, fun _ _ _ => rfl, hF, hw⟩)
    · skip
      obtain ⟨x21, u21⟩ := x
      show J _ _ _ _ _ ((15, .bool true) :: (15, .bool true) :: _) _
      refine J.pr (fun hF => ?_)
      refine J.move rfl rfl ?_
      exact J.finX rfl (fun _ hw => ⟨⟨x21, u21⟩, rfl, fun _ _ _ => rfl, hF, hw⟩)
    · skip
      obtain ⟨x21, u21⟩ := x
      show J _ _ _ _ _ ((16, .bool true) :: _) _
      refine J.pr (fun hF => ?_)
      first | refine J.skip rfl rfl rfl rfl rfl ?_ | refine J.skipU rfl rfl rfl rfl ?_ | (refine J.unguard rfl rfl rfl ?_; refine J.move rfl rfl ?_)
      exact J.finX rfl (fun _ hw => ⟨⟨x21, u21⟩, rfl, fun _ _ _ => rfl, hF, hw⟩)
    · skip
      obtain ⟨x21, u21⟩ := x
      show J _ _ _ _ _ ((16, .bool true) :: _) _
      refine J.pr (fun hF => ?_)
      refine J.unguard rfl rfl rfl ?_
      refine J.loadA (vs := cI self) Ty.a23 Ty.s23 rfl rfl (fun w1 hw => Cells.of_block (hw.own ((b2, cb (cI self) 23)) (by repeat first | exact .head _ | apply List.Mem.tail | apply List.mem_append_right)) rfl) rfl ?_
      exact J.finX rfl (fun _ hw => ⟨⟨x21, u21⟩, rfl, fun _ _ _ => rfl, hF, hw⟩)
    · skip
      obtain ⟨x21, u21⟩ := x
      show J _ _ _ _ _ ((16, .bool true) :: (16, .bool true) :: _) _
      refine J.pr (fun hF => ?_)
      refine J.unguard rfl rfl rfl ?_
      refine J.callB (v := .agg (cI (nI 1)).toArray) (fun w1 w2 hw hb => hw.step hb) Ty.bd33 rfl rfl (fun w1 hw => n19_spec 1 w1) ?_
      exact J.finX rfl (fun _ hw => ⟨⟨x21, u21⟩, rfl, fun _ _ _ => rfl, hF, hw⟩)
    · skip
      obtain ⟨x21, u21⟩ := x
      show J _ _ _ _ _ ((16, .bool true) :: (19, .agg (cI (nI 1)).toArray) :: _) _
      refine J.pr (fun hF => ?_)
      refine J.unguard rfl rfl rfl ?_
      refine J.callB (v := .agg (cI (nI 2)).toArray) (fun w1 w2 hw hb => hw.step hb) Ty.bd33 rfl rfl (fun w1 hw => n19_spec 2 w1) ?_
      exact J.finX rfl (fun _ hw => ⟨⟨x21, u21⟩, rfl, fun _ _ _ => rfl, hF, hw⟩)
    · skip
      obtain ⟨x21, u21⟩ := x
      show J _ _ _ _ _ ((16, .bool true) :: (20, .agg (cI (nI 2)).toArray) :: (19, .agg (cI (nI 1)).toArray) :: _) _
      refine J.pr (fun hF => ?_)
      refine J.unguard rfl rfl rfl ?_
      refine J.buildSl (cs := cI (nI 1) ++ cI (nI 2)) Ty.el24 Ty.s23 Ty.zID rfl rfl rfl rfl (by kernel_rfl) rfl rfl (fun b21 => ?_)
      refine J.nil (JX.finB rfl (fun w1 hw => ⟨⟨⟨b21, u21⟩, rfl, fun j h1 h2 => ?_, ?_⟩, trivial⟩))
      · match j, h1 with
        | 0, _ => (first | rfl | trivial)
        | 1, _ => (first | rfl | trivial)
        | 2, _ => (first | rfl | trivial)
        | 3, _ => (first | rfl | trivial)
        | 4, _ => (first | rfl | trivial)
        | 5, _ => (first | rfl | trivial)
        | 6, _ => exact absurd (h2.symm.trans hm) (by decide)
        | 7, _ => (first | rfl | trivial)
        | 8, _ => (first | rfl | trivial)
        | 9, _ => (first | rfl | trivial)
        | 10, _ => (first | rfl | trivial)
        | 11, _ => (first | rfl | trivial)
        | j + 12, h1 => omega
      show (True) ∧ St w [] ((bif true then [(b21, cb (cI (nI 1) ++ cI (nI 2)) 23)] else []) ++ ((b13, cb (cI self) 23) :: (b2, cb (cI self) 23) :: [])) w1
      simp only [hm, cond_true, cond_false] at hw ⊢
      exact ⟨trivial, hw.perm (by (refine perm_cnt (fun _ => ?_)); simp only [cntB_append, cntB_cons, cntB_nil, Nat.add_zero, Nat.zero_add]; try ac_rfl)⟩
    · skip
      obtain ⟨x21, u21⟩ := x
      show J _ _ _ _ _ ((16, .bool true) :: _) _
      refine J.pr (fun hF => ?_)
      first | refine J.skip rfl rfl rfl rfl rfl ?_ | refine J.skipU rfl rfl rfl rfl ?_ | (refine J.unguard rfl rfl rfl ?_; refine J.move rfl rfl ?_)
      exact J.finX rfl (fun _ hw => ⟨⟨x21, u21⟩, rfl, fun _ _ _ => rfl, hF, hw⟩)
    · skip
      obtain ⟨x21, u21⟩ := x
      show J _ _ _ _ _ ((16, .bool true) :: (20, .agg (cI (nI 2)).toArray) :: (22, v) :: (21, .slice (some ⟨x21, 0, none⟩) 2 2) :: (18, .agg (cI self).toArray) :: (17, .pointer none) :: _) _
      have hp6 : m 6 = true := predsT hp (by kernel_rfl)
      refine J.pr (fun hF => ?_)
      refine J.unguard rfl rfl rfl ?_
      refine J.callB (v := .slice none 0 0) (fun w1 w2 hw hb => hw.step hb) Ty.bd30 rfl rfl (fun w1 hw => due_nil self _ v w1) ?_
      exact J.finX rfl (fun _ hw => ⟨⟨x21, u21⟩, rfl, fun _ _ _ => rfl, hF, hw⟩)
    · skip
      obtain ⟨x21, u21⟩ := x
      show J _ _ _ _ _ ((16, .bool true) :: (23, .slice none 0 0) :: _) _
      refine J.pr (fun hF => ?_)
      first | refine J.skip rfl rfl rfl rfl rfl ?_ | refine J.skipU rfl rfl rfl rfl ?_ | (refine J.unguard rfl rfl rfl ?_; refine J.lenS rfl Ty.u56 rfl rfl ?_)
      exact J.finX rfl (fun _ hw => ⟨⟨x21, u21⟩, rfl, fun _ _ _ => rfl, hF, hw⟩)
    · skip
      obtain ⟨x21, u21⟩ := x
      show J _ _ _ _ _ ((16, .bool true) :: (24, .int .i64 0) :: _) _
      refine J.pr (fun hF => ?_)
      refine J.unguard rfl rfl rfl ?_
      refine J.bin rfl rfl rfl rfl ?_
      refine J.name 25 rfl (show _ = Value.bool true by rfl) ?_
      exact J.finX rfl (fun _ hw => ⟨⟨x21, u21⟩, rfl, fun _ _ _ => rfl, hF, hw⟩)
    · skip
      obtain ⟨x21, u21⟩ := x
      show J _ _ _ _ _ ((25, .bool true) :: (16, .bool true) :: _) _
      refine J.pr (fun hF => ?_)
      (first | refine J.pickT rfl rfl rfl ?_ | refine J.pickF rfl rfl rfl ?_)
      exact J.finX rfl (fun _ hw => ⟨⟨x21, u21⟩, rfl, fun _ _ _ => rfl, hF, hw⟩)
  case htail =>
    intro x
    obtain ⟨x21, u21⟩ := x
    show J _ _ _ _ _ ((26, .bool true) :: (25, .bool true) :: (24, .int .i64 0) :: (23, .slice none 0 0) :: (22, v) :: (21, .slice (some ⟨x21, 0, none⟩) 2 2) :: (20, .agg (cI (nI 2)).toArray) :: (19, .agg (cI (nI 1)).toArray) :: (18, .agg (cI self).toArray) :: (17, .pointer none) :: (16, .bool true) :: (15, .bool true) :: _) (fun w1 => (True) ∧ St w [] ((bif true then [(x21, cb (cI (nI 1) ++ cI (nI 2)) 23)] else []) ++ ((b13, cb (cI self) 23) :: (b2, cb (cI self) 23) :: [])) w1)
    refine J.pr (fun hF => ?_)
    refine J.assign rfl rfl ?_
    refine J.nil ?_
    refine JX.thenN (hK4 _ _ ?_)
    refine JC.ret ?_
    refine JX.ret1 rfl rfl (fun w hw => ?_)
    exact ⟨rfl, (hw.drop (List.nil_sublist _)).below⟩

theorem copiesNil_walk (w : World) (sc : List Value) (self : IDV) (hs : RId w sc self) (o : Sl Unit) (ho : RSl 34 64 RAny w [o.v] o) :
    Calls Try.prog 8 [.agg sc.toArray, o.v].toArray w fun r w' => r = .returned (.bool true) ∧ Bel w w' := by
  cases hs
  exact copiesNil_spec self o.v w
end Go.Proofs.Ytbafhclandendaa
