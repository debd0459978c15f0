/-
  What the functions of package frame do at a Setup and a Drop: contracts.
-/
import Derived.Test.YtohldionclgljaaGreatTt
namespace Go.Proofs.YtohldionclgljaaGreat
open Go.J Go.RowKit
set_option linter.unusedVariables false
set_option linter.unusedSimpArgs false
set_option maxRecDepth 8000
abbrev nilV : Value := .slice none 0 0
/-- the cells of a frame of which only kind, path, ends and trail are said -/
abbrev cF (k : Int) (p : PV) (a b : IDV) (tr : Value) : List Value :=
  iV k :: (cP p ++ [.bool false] ++ cI a ++ cI b ++ [iV 0, iV 0, iV 0, iV 0, iV 0, tr, nilV] ++ cI zI ++ [iV 0] ++ cI zI ++ [nilV, iV 0, iV 0, nilV])
abbrev cS (p : PV) (a b : IDV) (tr : Value) : List Value := cP p ++ cI a ++ cI b ++ [tr]
theorem zF : zeroT Tryz.prog 77 = some (.agg (cF 0 zP zI zI nilV).toArray) := by kernel_rfl
theorem zS : zeroT Tryz.prog 131 = some (.agg (cS zP zI zI nilV).toArray) := by kernel_rfl
theorem zD : zeroT Tryz.prog 109 = some (.agg (cP zP).toArray) := by kernel_rfl

theorem plainS_spec (p : PV) (a b : IDV) (w : World) (v : Value) (way : List Int) (hr : Row w v way.length (way.map iV)) (hl : way.length < 1099511627776) :
    Calls Tryz.prog 64 [.iface 131 (.agg (cS p a b v).toArray)].toArray w fun r w' => ∃ x : Value × List (Nat × Obj), r = .returned (.agg (cF 4 p a b x.1).toArray) ∧ Vec 3 1 x.1 way.length (way.map iV) x.2 ∧ St w [] x.2 w' := by
  obtain ⟨av, cv, rfl, hcv, _⟩ := id hr
  refine calls_of_J (args := [.iface 131 (.agg (cS p a b (.slice av way.length cv)).toArray)]) (e := [(0, .iface 131 (.agg (cS p a b (.slice av way.length cv)).toArray))]) Tryz.func64 rfl rfl ⟨rfl, trivial⟩ (St.start w) ?_
  refine JC.seq (fun K0 hK0 => ?_)
  refine JC.region ?_
  refine J.alloc zF rfl rfl (fun b2 => ?_)
  refine J.nil ?_
  refine JX.thenN (hK0 _ _ ?_)
  refine JC.seq (fun K1 hK1 => ?_)
  refine JC.seq (fun K2 hK2 => ?_)
  refine JC.region ?_
  refine J.move rfl rfl ?_
  refine J.nil ?_
  refine JX.thenN (hK2 _ _ ?_)
  refine JC.block ?_
  refine JC.seq (fun K3 hK3 => ?_)
  refine JC.region ?_
  (first | refine J.assertT (by kernel_rfl) rfl rfl ?_ | refine J.assertF (by kernel_rfl) rfl rfl Ty.z125 rfl ?_ | refine J.assertN (by kernel_rfl) rfl Ty.z125 rfl ?_)
  refine J.extract rfl rfl rfl ?_
  refine J.extract rfl rfl rfl ?_
  refine J.nil ?_
  refine JX.thenN (hK3 _ _ ?_)
  first | refine JC.condF rfl ?_ | refine JC.cond rfl (fun h => by first | (exfalso; simp at h; omega) | (simp at h)) (fun _ => ?_)
  refine JC.seq (fun K4 hK4 => ?_)
  refine JC.region ?_
  (first | refine J.assertT (by kernel_rfl) rfl rfl ?_ | refine J.assertF (by kernel_rfl) rfl rfl Ty.z127 rfl ?_ | refine J.assertN (by kernel_rfl) rfl Ty.z127 rfl ?_)
  refine J.extract rfl rfl rfl ?_
  refine J.extract rfl rfl rfl ?_
  refine J.nil ?_
  refine JX.thenN (hK4 _ _ ?_)
  first | refine JC.condF rfl ?_ | refine JC.cond rfl (fun h => by first | (exfalso; simp at h; omega) | (simp at h)) (fun _ => ?_)
  refine JC.seq (fun K5 hK5 => ?_)
  refine JC.region ?_
  (first | refine J.assertT (by kernel_rfl) rfl rfl ?_ | refine J.assertF (by kernel_rfl) rfl rfl Ty.z129 rfl ?_ | refine J.assertN (by kernel_rfl) rfl Ty.z129 rfl ?_)
  refine J.extract rfl rfl rfl ?_
  refine J.extract rfl rfl rfl ?_
  refine J.nil ?_
  refine JX.thenN (hK5 _ _ ?_)
  first | refine JC.condF rfl ?_ | refine JC.cond rfl (fun h => by first | (exfalso; simp at h; omega) | (simp at h)) (fun _ => ?_)
  refine JC.seq (fun K6 hK6 => ?_)
  refine JC.region ?_
  (first | refine J.assertT (by kernel_rfl) rfl rfl ?_ | refine J.assertF (by kernel_rfl) rfl rfl zS rfl ?_ | refine J.assertN (by kernel_rfl) rfl zS rfl ?_)
  refine J.extract rfl rfl rfl ?_
  refine J.extract rfl rfl rfl ?_
  refine J.nil ?_
  refine JX.thenN (hK6 _ _ ?_)
  first | refine JC.condT rfl ?_ | refine JC.cond rfl (fun _ => ?_) (fun h => by first | (exfalso; simp at h; omega) | (simp at h))
  refine JC.seq (fun K7 hK7 => ?_)
  refine JC.region ?_
  refine J.alloc zS rfl rfl (fun b6 => ?_)
  refine J.storeW Ty.s131 rfl rfl rfl rfl rfl (by simp [Value.oneCell']) (by repeat first | exact .here | apply Up.there) ?_
  refine J.nil ?_
  refine JX.thenN (hK7 _ _ ?_)
  refine JC.seq (fun K8 hK8 => ?_)
  apply JC.drawX (α := Option Addr × Nat × List (Nat × Obj)) 10 (fun x => match x with | ⟨a8, c8, lp8⟩ => [.pointer (some ⟨b6, 0 + 0, none⟩), .agg (cP p).toArray, .pointer (some ⟨b6, 0 + 17, none⟩), .agg (cI a).toArray, .pointer (some ⟨b6, 0 + 33, none⟩), .agg (cI b).toArray, .pointer (some ⟨b6, 0 + 49, none⟩), (.slice av way.length cv), (.slice a8 way.length c8), .agg (cF 4 p a b (.slice a8 way.length c8)).toArray]) (fun m x => match x with | ⟨a8, c8, lp8⟩ => fun w1 => ((m 9 = true → m 8 = true) ∧ (m 8 = true → Vec 3 1 (.slice a8 way.length c8) way.length (way.map iV) lp8)) ∧ St w [] ((b6, cb (cS p a b (.slice av way.length cv)) 131) :: (b2, cb (cF 0 zP zI zI nilV) 77) :: (bif m 8 then lp8 else [])) w1) Ty.mixed rfl rfl rfl (by kernel_rfl) rfl rfl ?hinit ?hstep ?htail
  case hinit => exact fun w1 hw => ⟨(none, 0, []), ⟨fun h => (by cases h), fun h => (by cases h)⟩, hw.drew⟩
  case hstep =>
    refine ⟨fun m x hm hp => ?_, fun m x hm hp => ?_, fun m x hm hp => ?_, fun m x hm hp => ?_, fun m x hm hp => ?_, fun m x hm hp => ?_, fun m x hm hp => ?_, fun m x hm hp => ?_, fun m x hm hp => ?_, fun m x hm hp => ?_, trivial⟩
    · skip
      obtain ⟨a8, c8, lp8⟩ := x
      show J _ _ _ _ _ (_) _
      refine J.pr (fun hF => ?_)
      refine J.fieldAddr Ty.fd131_0 rfl rfl ?_
      exact J.finX rfl (fun _ hw => ⟨⟨a8, c8, lp8⟩, rfl, fun _ _ _ => rfl, hF, hw⟩)
    · skip
      obtain ⟨a8, c8, lp8⟩ := x
      show J _ _ _ _ _ ((52, .pointer (some ⟨b6, 0 + 0, none⟩)) :: _) _
      refine J.pr (fun hF => ?_)
      refine J.loadOA (vs := cP p) Ty.a31 Ty.s31 rfl (by repeat first | exact .head _ | apply List.Mem.tail | apply List.mem_append_right) (by exact rfl) rfl rfl ?_
      exact J.finX rfl (fun _ hw => ⟨⟨a8, c8, lp8⟩, rfl, fun _ _ _ => rfl, hF, hw⟩)
    · skip
      obtain ⟨a8, c8, lp8⟩ := x
      show J _ _ _ _ _ (_) _
      refine J.pr (fun hF => ?_)
      refine J.fieldAddr Ty.fd131_1 rfl rfl ?_
      exact J.finX rfl (fun _ hw => ⟨⟨a8, c8, lp8⟩, rfl, fun _ _ _ => rfl, hF, hw⟩)
    · skip
      obtain ⟨a8, c8, lp8⟩ := x
      show J _ _ _ _ _ ((54, .pointer (some ⟨b6, 0 + 17, none⟩)) :: _) _
      refine J.pr (fun hF => ?_)
      refine J.loadOA (vs := cI a) Ty.a24 Ty.s24 rfl (by repeat first | exact .head _ | apply List.Mem.tail | apply List.mem_append_right) (by exact rfl) rfl rfl ?_
      exact J.finX rfl (fun _ hw => ⟨⟨a8, c8, lp8⟩, rfl, fun _ _ _ => rfl, hF, hw⟩)
    · skip
      obtain ⟨a8, c8, lp8⟩ := x
      show J _ _ _ _ _ (_) _
      refine J.pr (fun hF => ?_)
      refine J.fieldAddr Ty.fd131_2 rfl rfl ?_
      exact J.finX rfl (fun _ hw => ⟨⟨a8, c8, lp8⟩, rfl, fun _ _ _ => rfl, hF, hw⟩)
    · skip
      obtain ⟨a8, c8, lp8⟩ := x
      show J _ _ _ _ _ ((56, .pointer (some ⟨b6, 0 + 33, none⟩)) :: _) _
      refine J.pr (fun hF => ?_)
      refine J.loadOA (vs := cI b) Ty.a24 Ty.s24 rfl (by repeat first | exact .head _ | apply List.Mem.tail | apply List.mem_append_right) (by exact rfl) rfl rfl ?_
      exact J.finX rfl (fun _ hw => ⟨⟨a8, c8, lp8⟩, rfl, fun _ _ _ => rfl, hF, hw⟩)
    · skip
      obtain ⟨a8, c8, lp8⟩ := x
      show J _ _ _ _ _ (_) _
      refine J.pr (fun hF => ?_)
      refine J.fieldAddr Ty.fd131_3 rfl rfl ?_
      exact J.finX rfl (fun _ hw => ⟨⟨a8, c8, lp8⟩, rfl, fun _ _ _ => rfl, hF, hw⟩)
    · skip
      obtain ⟨a8, c8, lp8⟩ := x
      show J _ _ _ _ _ ((58, .pointer (some ⟨b6, 0 + 49, none⟩)) :: _) _
      refine J.pr (fun hF => ?_)
      refine J.loadO Ty.a70 rfl (by repeat first | exact .head _ | apply List.Mem.tail | apply List.mem_append_right) (by exact rfl) rfl ?_
      exact J.finX rfl (fun _ hw => ⟨⟨a8, c8, lp8⟩, rfl, fun _ _ _ => rfl, hF, hw⟩)
    · skip
      obtain ⟨a8, c8, lp8⟩ := x
      show J _ _ _ _ _ ((59, (.slice av way.length cv)) :: _) _
      refine J.pr (fun hF => ?_)
      refine J.append (lp := []) (xs := []) (ys := way.map iV) (k := 0) (m := way.length) Ty.el70 Ty.s3 Ty.b3 Ty.z3 rfl (.inl ⟨3, Ty.u70⟩) rfl rfl (Vec.nil _ _) (fun w1 hw => .inl (hr.below hw.below)) (by simp) (by simp [Value.oneCell']) (by omega) (by omega) rfl (fun v8n lp8n hv8 => ?_)
      rw [Nat.zero_add, List.nil_append] at hv8
      obtain ⟨a8n, c8n, rfl, hc8n⟩ := hv8.form
      refine J.nil (JX.finB rfl (fun w1 hw => ⟨⟨⟨a8n, c8n, lp8n⟩, rfl, fun j h1 h2 => ?_, ?_⟩, trivial⟩))
      · match j, h1 with
        | 0, _ => (first | rfl | trivial)
        | 1, _ => (first | rfl | trivial)
        | 2, _ => (first | rfl | trivial)
        | 3, _ => (first | rfl | trivial)
        | 4, _ => (first | rfl | trivial)
        | 5, _ => (first | rfl | trivial)
        | 6, _ => (first | rfl | trivial)
        | 7, _ => (first | rfl | trivial)
        | 8, _ => exact absurd (h2.symm.trans hm) (by decide)
        | 9, _ => exact absurd ((hF.1 h2).symm.trans hm) (by decide)
        | j + 10, h1 => omega
      show ((m 9 = true → true = true) ∧ (true = true → Vec 3 1 (.slice a8n way.length c8n) way.length (way.map iV) lp8n)) ∧ St w [] ((b6, cb (cS p a b (.slice av way.length cv)) 131) :: (b2, cb (cF 0 zP zI zI nilV) 77) :: (bif true then lp8n else [])) w1
      simp only [hm, cond_true, cond_false] at hw ⊢
      exact ⟨⟨fun _ => trivial, fun _ => hv8⟩, hw.perm (by (refine perm_cnt (fun _ => ?_)); simp only [cntB_append, cntB_cons, cntB_nil, Nat.add_zero, Nat.zero_add]; try ac_rfl)⟩
    · skip
      obtain ⟨a8, c8, lp8⟩ := x
      show J _ _ _ _ _ ((60, (.slice a8 way.length c8)) :: (57, .agg (cI b).toArray) :: (55, .agg (cI a).toArray) :: (53, .agg (cP p).toArray) :: _) _
      have hp8 : m 8 = true := predsT hp (by kernel_rfl)
      refine J.pr (fun hF => ?_)
      refine J.buildS (cs := cF 4 p a b (.slice a8 way.length c8)) Ty.pl77 zF rfl (by kernel_rfl) rfl ?_
      refine J.nil (JX.finB rfl (fun w1 hw => ⟨⟨⟨a8, c8, lp8⟩, rfl, fun j h1 h2 => ?_, ?_⟩, trivial⟩))
      · match j, h1 with
        | 0, _ => (first | rfl | trivial)
        | 1, _ => (first | rfl | trivial)
        | 2, _ => (first | rfl | trivial)
        | 3, _ => (first | rfl | trivial)
        | 4, _ => (first | rfl | trivial)
        | 5, _ => (first | rfl | trivial)
        | 6, _ => (first | rfl | trivial)
        | 7, _ => (first | rfl | trivial)
        | 8, _ => (first | rfl | trivial)
        | 9, _ => (first | rfl | trivial)
        | j + 10, h1 => omega
      show ((true = true → m 8 = true) ∧ (m 8 = true → Vec 3 1 (.slice a8 way.length c8) way.length (way.map iV) lp8)) ∧ St w [] ((b6, cb (cS p a b (.slice av way.length cv)) 131) :: (b2, cb (cF 0 zP zI zI nilV) 77) :: (bif m 8 then lp8 else [])) w1
      exact ⟨⟨fun _ => hp8, hF.2⟩, hw⟩
  case htail =>
    intro x
    obtain ⟨a8, c8, lp8⟩ := x
    show J _ _ _ _ _ ((61, .agg (cF 4 p a b (.slice a8 way.length c8)).toArray) :: (60, (.slice a8 way.length c8)) :: (59, (.slice av way.length cv)) :: (58, .pointer (some ⟨b6, 0 + 49, none⟩)) :: (57, .agg (cI b).toArray) :: (56, .pointer (some ⟨b6, 0 + 33, none⟩)) :: (55, .agg (cI a).toArray) :: (54, .pointer (some ⟨b6, 0 + 17, none⟩)) :: (53, .agg (cP p).toArray) :: (52, .pointer (some ⟨b6, 0 + 0, none⟩)) :: _) (fun w1 => ((true = true → true = true) ∧ (true = true → Vec 3 1 (.slice a8 way.length c8) way.length (way.map iV) lp8)) ∧ St w [] ((b6, cb (cS p a b (.slice av way.length cv)) 131) :: (b2, cb (cF 0 zP zI zI nilV) 77) :: (bif true then lp8 else [])) w1)
    refine J.pr (fun hF => ?_)
    have hv8 := hF.2 rfl
    refine J.storeW Ty.s77 rfl rfl rfl rfl rfl (by simp [Value.oneCell']) (by repeat first | exact .here | apply Up.there) ?_
    refine J.nil ?_
    refine JX.thenN (hK8 _ _ ?_)
    refine JC.ret ?_
    refine JX.blockR ?_
    refine JX.thenR ?_
    refine JX.retC rfl rfl Ty.a77 Ty.s77 (vs := cF 4 p a b (.slice a8 way.length c8)) rfl (fun w1 hw => Cells.of_block (hw.own _ (.tail _ (.head _))) rfl) (fun w1 hw => ?_)
    exact ⟨(.slice a8 way.length c8, lp8), rfl, hv8, hw.drop (List.sublist_append_right [_, _] _)⟩

theorem plainD_spec (p : PV) (w : World) :
    Calls Tryz.prog 64 [.iface 109 (.agg (cP p).toArray)].toArray w fun r w' => r = .returned (.agg (cF 5 p zI zI nilV).toArray) ∧ Bel w w' := by
  refine calls_of_J (args := [.iface 109 (.agg (cP p).toArray)]) (e := [(0, .iface 109 (.agg (cP p).toArray))]) Tryz.func64 rfl rfl ⟨rfl, trivial⟩ (St.start w) ?_
  refine JC.seq (fun K0 hK0 => ?_)
  refine JC.region ?_
  refine J.alloc zF rfl rfl (fun b2 => ?_)
  refine J.nil ?_
  refine JX.thenN (hK0 _ _ ?_)
  refine JC.seq (fun K1 hK1 => ?_)
  refine JC.seq (fun K2 hK2 => ?_)
  refine JC.region ?_
  refine J.move rfl rfl ?_
  refine J.nil ?_
  refine JX.thenN (hK2 _ _ ?_)
  refine JC.block ?_
  refine JC.seq (fun K3 hK3 => ?_)
  refine JC.region ?_
  (first | refine J.assertT (by kernel_rfl) rfl rfl ?_ | refine J.assertF (by kernel_rfl) rfl rfl Ty.z125 rfl ?_ | refine J.assertN (by kernel_rfl) rfl Ty.z125 rfl ?_)
  refine J.extract rfl rfl rfl ?_
  refine J.extract rfl rfl rfl ?_
  refine J.nil ?_
  refine JX.thenN (hK3 _ _ ?_)
  first | refine JC.condF rfl ?_ | refine JC.cond rfl (fun h => by first | (exfalso; simp at h; omega) | (simp at h)) (fun _ => ?_)
  refine JC.seq (fun K4 hK4 => ?_)
  refine JC.region ?_
  (first | refine J.assertT (by kernel_rfl) rfl rfl ?_ | refine J.assertF (by kernel_rfl) rfl rfl Ty.z127 rfl ?_ | refine J.assertN (by kernel_rfl) rfl Ty.z127 rfl ?_)
  refine J.extract rfl rfl rfl ?_
  refine J.extract rfl rfl rfl ?_
  refine J.nil ?_
  refine JX.thenN (hK4 _ _ ?_)
  first | refine JC.condF rfl ?_ | refine JC.cond rfl (fun h => by first | (exfalso; simp at h; omega) | (simp at h)) (fun _ => ?_)
  refine JC.seq (fun K5 hK5 => ?_)
  refine JC.region ?_
  (first | refine J.assertT (by kernel_rfl) rfl rfl ?_ | refine J.assertF (by kernel_rfl) rfl rfl Ty.z129 rfl ?_ | refine J.assertN (by kernel_rfl) rfl Ty.z129 rfl ?_)
  refine J.extract rfl rfl rfl ?_
  refine J.extract rfl rfl rfl ?_
  refine J.nil ?_
  refine JX.thenN (hK5 _ _ ?_)
  first | refine JC.condF rfl ?_ | refine JC.cond rfl (fun h => by first | (exfalso; simp at h; omega) | (simp at h)) (fun _ => ?_)
  refine JC.seq (fun K6 hK6 => ?_)
  refine JC.region ?_
  (first | refine J.assertT (by kernel_rfl) rfl rfl ?_ | refine J.assertF (by kernel_rfl) rfl rfl zS rfl ?_ | refine J.assertN (by kernel_rfl) rfl zS rfl ?_)
  refine J.extract rfl rfl rfl ?_
  refine J.extract rfl rfl rfl ?_
  refine J.nil ?_
  refine JX.thenN (hK6 _ _ ?_)
  first | refine JC.condF rfl ?_ | refine JC.cond rfl (fun h => by first | (exfalso; simp at h; omega) | (simp at h)) (fun _ => ?_)
  refine JC.seq (fun K7 hK7 => ?_)
  refine JC.region ?_
  (first | refine J.assertT (by kernel_rfl) rfl rfl ?_ | refine J.assertF (by kernel_rfl) rfl rfl zD rfl ?_ | refine J.assertN (by kernel_rfl) rfl zD rfl ?_)
  refine J.extract rfl rfl rfl ?_
  refine J.extract rfl rfl rfl ?_
  refine J.nil ?_
  refine JX.thenN (hK7 _ _ ?_)
  first | refine JC.condT rfl ?_ | refine JC.cond rfl (fun _ => ?_) (fun h => by first | (exfalso; simp at h; omega) | (simp at h))
  refine JC.seq (fun K8 hK8 => ?_)
  refine JC.region ?_
  refine J.alloc zD rfl rfl (fun b7 => ?_)
  refine J.storeW Ty.s109 rfl rfl rfl rfl rfl (by simp [Value.oneCell']) (by repeat first | exact .here | apply Up.there) ?_
  refine J.nil ?_
  refine JX.thenN (hK8 _ _ ?_)
  refine JC.seq (fun K9 hK9 => ?_)
  refine JC.region ?_
  refine J.fieldAddr Ty.fd109_0 rfl rfl ?_
  refine J.loadOA (vs := cP p) Ty.a31 Ty.s31 rfl (by repeat first | exact .head _ | apply List.Mem.tail | apply List.mem_append_right) (by exact rfl) rfl rfl ?_
  refine J.buildS (cs := cF 5 p zI zI nilV) Ty.pl77 zF rfl (by kernel_rfl) rfl ?_
  refine J.storeW Ty.s77 rfl rfl rfl rfl rfl (by simp [Value.oneCell']) (by repeat first | exact .here | apply Up.there) ?_
  refine J.nil ?_
  refine JX.thenN (hK9 _ _ ?_)
  refine JC.ret ?_
  refine JX.blockR ?_
  refine JX.thenR ?_
  refine JX.retC rfl rfl Ty.a77 Ty.s77 (vs := cF 5 p zI zI nilV) rfl (fun w1 hw => Cells.of_block (hw.own _ (.tail _ (.head _))) rfl) (fun w1 hw => ?_)
  exact ⟨rfl, hw.below⟩

end Go.Proofs.YtohldionclgljaaGreat
