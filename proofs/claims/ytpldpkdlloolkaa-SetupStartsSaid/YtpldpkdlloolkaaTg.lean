/-
  What frame.Of does at a Setup: contract.
-/
import Derived.Test.YtpldpkdlloolkaaTf
namespace Go.Proofs.Ytpldpkdlloolkaa
open Go.J Go.RowKit
set_option linter.unusedVariables false
set_option linter.unusedSimpArgs false
set_option maxRecDepth 8000

theorem ofS_spec (p : PV) (a b : IDV) (w : World) (v : Value) (way : List Int) (hr : Row w v way.length (way.map iV)) (hl : way.length < 1099511627776) :
    Calls Try.prog 55 [.agg (cF 4 p a b v).toArray].toArray w fun r w' => ∃ x : Value × List (Nat × Obj), r = .returned (.tuple #[.iface 107 (.agg (cS p a b x.1).toArray), .bool true]) ∧ Vec 3 1 x.1 way.length (way.map iV) x.2 ∧ St w [] x.2 w' := by
  obtain ⟨av, cv, rfl, hcv, _⟩ := id hr
  refine calls_of_J (args := [.agg (cF 4 p a b (.slice av way.length cv)).toArray]) (e := [(0, .agg (cF 4 p a b (.slice av way.length cv)).toArray)]) Try.func55 rfl rfl ⟨rfl, trivial⟩ (St.start w) ?_
  refine JC.seq (fun K0 hK0 => ?_)
  refine JC.region ?_
  refine J.box rfl rfl rfl (fun b1 => ?_)
  refine J.assign rfl rfl ?_
  refine J.assign rfl rfl ?_
  refine J.nil ?_
  refine JX.thenN (hK0 _ _ ?_)
  refine JC.seq (fun K1 hK1 => ?_)
  refine JC.seq (fun K2 hK2 => ?_)
  refine JC.region ?_
  refine J.fieldAddr Ty.fd52_0 rfl rfl ?_
  refine J.loadO Ty.a3 rfl (by repeat first | exact .head _ | apply List.Mem.tail | apply List.mem_append_right) (by exact rfl) rfl ?_
  refine J.nil ?_
  refine JX.thenN (hK2 _ _ ?_)
  refine JC.block ?_
  refine JC.seq (fun K3 hK3 => ?_)
  refine JC.region ?_
  refine J.bin rfl rfl rfl rfl ?_
  refine J.assign rfl rfl ?_
  refine J.nil ?_
  refine JX.thenN (hK3 _ _ ?_)
  first | refine JC.condF rfl ?_ | refine JC.cond rfl (fun h => by first | (exfalso; simp at h; omega) | (simp at h)) (fun _ => ?_)
  refine JC.seq (fun K4 hK4 => ?_)
  refine JC.region ?_
  refine J.bin rfl rfl rfl rfl ?_
  refine J.assign rfl rfl ?_
  refine J.nil ?_
  refine JX.thenN (hK4 _ _ ?_)
  first | refine JC.condF rfl ?_ | refine JC.cond rfl (fun h => by first | (exfalso; simp at h; omega) | (simp at h)) (fun _ => ?_)
  refine JC.seq (fun K5 hK5 => ?_)
  refine JC.region ?_
  refine J.bin rfl rfl rfl rfl ?_
  refine J.assign rfl rfl ?_
  refine J.nil ?_
  refine JX.thenN (hK5 _ _ ?_)
  first | refine JC.condF rfl ?_ | refine JC.cond rfl (fun h => by first | (exfalso; simp at h; omega) | (simp at h)) (fun _ => ?_)
  refine JC.seq (fun K6 hK6 => ?_)
  refine JC.region ?_
  refine J.bin rfl rfl rfl rfl ?_
  refine J.assign rfl rfl ?_
  refine J.nil ?_
  refine JX.thenN (hK6 _ _ ?_)
  first | refine JC.condT rfl ?_ | refine JC.cond rfl (fun _ => ?_) (fun h => by first | (exfalso; simp at h; omega) | (simp at h))
  refine JC.seq (fun K7 hK7 => ?_)
  apply JC.drawX (α := Option Addr × Nat × List (Nat × Obj)) 11 (fun x => match x with | ⟨a8, c8, lp8⟩ => [.pointer (some ⟨b1, 0 + 1, none⟩), .agg (cP p).toArray, .pointer (some ⟨b1, 0 + 19, none⟩), .agg (cI a).toArray, .pointer (some ⟨b1, 0 + 35, none⟩), .agg (cI b).toArray, .pointer (some ⟨b1, 0 + 56, none⟩), (.slice av way.length cv), (.slice a8 way.length c8), .agg (cS p a b (.slice a8 way.length c8)).toArray, .iface 107 (.agg (cS p a b (.slice a8 way.length c8)).toArray)]) (fun m x => match x with | ⟨a8, c8, lp8⟩ => fun w1 => ((m 9 = true → m 8 = true) ∧ (m 10 = true → m 8 = true) ∧ (m 8 = true → Vec 3 1 (.slice a8 way.length c8) way.length (way.map iV) lp8)) ∧ St w [] ((b1, cb (cF 4 p a b (.slice av way.length cv)) 52) :: (bif m 8 then lp8 else [])) w1) Ty.mixed rfl rfl rfl (by kernel_rfl) rfl rfl ?hinit ?hstep ?htail
  case hinit => exact fun w1 hw => ⟨(none, 0, []), ⟨fun h => (by cases h), fun h => (by cases h), fun h => (by cases h)⟩, hw.drew⟩
  case hstep =>
    refine ⟨fun m x hm hp => ?_, fun m x hm hp => ?_, fun m x hm hp => ?_, fun m x hm hp => ?_, fun m x hm hp => ?_, fun m x hm hp => ?_, fun m x hm hp => ?_, fun m x hm hp => ?_, fun m x hm hp => ?_, fun m x hm hp => ?_, fun m x hm hp => ?_, trivial⟩
    · skip
      obtain ⟨a8, c8, lp8⟩ := x
      show J _ _ _ _ _ (_) _
      refine J.pr (fun hF => ?_)
      refine J.fieldAddr Ty.fd52_1 rfl rfl ?_
      exact J.finX rfl (fun _ hw => ⟨⟨a8, c8, lp8⟩, rfl, fun _ _ _ => rfl, hF, hw⟩)
    · skip
      obtain ⟨a8, c8, lp8⟩ := x
      show J _ _ _ _ _ ((41, .pointer (some ⟨b1, 0 + 1, none⟩)) :: _) _
      refine J.pr (fun hF => ?_)
      refine J.loadOA (vs := cP p) Ty.a25 Ty.s25 rfl (by repeat first | exact .head _ | apply List.Mem.tail | apply List.mem_append_right) (by exact rfl) rfl rfl ?_
      exact J.finX rfl (fun _ hw => ⟨⟨a8, c8, lp8⟩, rfl, fun _ _ _ => rfl, hF, hw⟩)
    · skip
      obtain ⟨a8, c8, lp8⟩ := x
      show J _ _ _ _ _ (_) _
      refine J.pr (fun hF => ?_)
      refine J.fieldAddr Ty.fd52_3 rfl rfl ?_
      exact J.finX rfl (fun _ hw => ⟨⟨a8, c8, lp8⟩, rfl, fun _ _ _ => rfl, hF, hw⟩)
    · skip
      obtain ⟨a8, c8, lp8⟩ := x
      show J _ _ _ _ _ ((43, .pointer (some ⟨b1, 0 + 19, none⟩)) :: _) _
      refine J.pr (fun hF => ?_)
      refine J.loadOA (vs := cI a) Ty.a23 Ty.s23 rfl (by repeat first | exact .head _ | apply List.Mem.tail | apply List.mem_append_right) (by exact rfl) rfl rfl ?_
      exact J.finX rfl (fun _ hw => ⟨⟨a8, c8, lp8⟩, rfl, fun _ _ _ => rfl, hF, hw⟩)
    · skip
      obtain ⟨a8, c8, lp8⟩ := x
      show J _ _ _ _ _ (_) _
      refine J.pr (fun hF => ?_)
      refine J.fieldAddr Ty.fd52_4 rfl rfl ?_
      exact J.finX rfl (fun _ hw => ⟨⟨a8, c8, lp8⟩, rfl, fun _ _ _ => rfl, hF, hw⟩)
    · skip
      obtain ⟨a8, c8, lp8⟩ := x
      show J _ _ _ _ _ ((45, .pointer (some ⟨b1, 0 + 35, none⟩)) :: _) _
      refine J.pr (fun hF => ?_)
      refine J.loadOA (vs := cI b) Ty.a23 Ty.s23 rfl (by repeat first | exact .head _ | apply List.Mem.tail | apply List.mem_append_right) (by exact rfl) rfl rfl ?_
      exact J.finX rfl (fun _ hw => ⟨⟨a8, c8, lp8⟩, rfl, fun _ _ _ => rfl, hF, hw⟩)
    · skip
      obtain ⟨a8, c8, lp8⟩ := x
      show J _ _ _ _ _ (_) _
      refine J.pr (fun hF => ?_)
      refine J.fieldAddr Ty.fd52_8 rfl rfl ?_
      exact J.finX rfl (fun _ hw => ⟨⟨a8, c8, lp8⟩, rfl, fun _ _ _ => rfl, hF, hw⟩)
    · skip
      obtain ⟨a8, c8, lp8⟩ := x
      show J _ _ _ _ _ ((47, .pointer (some ⟨b1, 0 + 56, none⟩)) :: _) _
      refine J.pr (fun hF => ?_)
      refine J.loadO Ty.a26 rfl (by repeat first | exact .head _ | apply List.Mem.tail | apply List.mem_append_right) (by exact rfl) rfl ?_
      exact J.finX rfl (fun _ hw => ⟨⟨a8, c8, lp8⟩, rfl, fun _ _ _ => rfl, hF, hw⟩)
    · skip
      obtain ⟨a8, c8, lp8⟩ := x
      show J _ _ _ _ _ ((48, (.slice av way.length cv)) :: _) _
      refine J.pr (fun hF => ?_)
      refine J.append (lp := []) (xs := []) (ys := way.map iV) (k := 0) (m := way.length) Ty.el26 Ty.s3 Ty.b3 Ty.z3 rfl (.inl ⟨3, Ty.u26⟩) rfl rfl (Vec.nil _ _) (fun w1 hw => .inl (hr.below hw.below)) (by simp) (by simp [Value.oneCell']) (by omega) (by omega) rfl (fun v8n lp8n hv8 => ?_)
      rw [Nat.zero_add, List.nil_append] at hv8
      obtain ⟨a8n, c8n, rfl, hc8n⟩ := hv8.form
      refine J.nil (JX.finB rfl (fun w1 hw => ⟨⟨⟨a8n, c8n, lp8n⟩, rfl, fun j h1 h2 => ?_, ?_⟩, trivial⟩))
      · match j, h1 with
        | 0, _ => (first | rfl | trivial)
        | 1, _ => (first | rfl | trivial)
        | 2, _ => (first | rfl | trivial)
        | 3, _ => (first | rfl | trivial)
        | 4, _ => (first | rfl | trivial)
        | 5, _ => (first | rfl | trivial)
        | 6, _ => (first | rfl | trivial)
        | 7, _ => (first | rfl | trivial)
        | 8, _ => exact absurd (h2.symm.trans hm) (by decide)
        | 9, _ => exact absurd ((hF.1 h2).symm.trans hm) (by decide)
        | 10, _ => exact absurd ((hF.2.1 h2).symm.trans hm) (by decide)
        | j + 11, h1 => omega
      show ((m 9 = true → true = true) ∧ (m 10 = true → true = true) ∧ (true = true → Vec 3 1 (.slice a8n way.length c8n) way.length (way.map iV) lp8n)) ∧ St w [] ((b1, cb (cF 4 p a b (.slice av way.length cv)) 52) :: (bif true then lp8n else [])) w1
      simp only [hm, cond_true, cond_false] at hw ⊢
      exact ⟨⟨fun _ => trivial, fun _ => trivial, fun _ => hv8⟩, hw.perm (by (refine perm_cnt (fun _ => ?_)); simp only [cntB_append, cntB_cons, cntB_nil, Nat.add_zero, Nat.zero_add]; try ac_rfl)⟩
    · skip
      obtain ⟨a8, c8, lp8⟩ := x
      show J _ _ _ _ _ ((49, (.slice a8 way.length c8)) :: (46, .agg (cI b).toArray) :: (44, .agg (cI a).toArray) :: (42, .agg (cP p).toArray) :: _) _
      have hp8 : m 8 = true := predsT hp (by kernel_rfl)
      refine J.pr (fun hF => ?_)
      refine J.buildS (cs := cS p a b (.slice a8 way.length c8)) Ty.pl107 zS rfl (by kernel_rfl) rfl ?_
      refine J.nil (JX.finB rfl (fun w1 hw => ⟨⟨⟨a8, c8, lp8⟩, rfl, fun j h1 h2 => ?_, ?_⟩, trivial⟩))
      · match j, h1 with
        | 0, _ => (first | rfl | trivial)
        | 1, _ => (first | rfl | trivial)
        | 2, _ => (first | rfl | trivial)
        | 3, _ => (first | rfl | trivial)
        | 4, _ => (first | rfl | trivial)
        | 5, _ => (first | rfl | trivial)
        | 6, _ => (first | rfl | trivial)
        | 7, _ => (first | rfl | trivial)
        | 8, _ => (first | rfl | trivial)
        | 9, _ => (first | rfl | trivial)
        | 10, _ => (first | rfl | trivial)
        | j + 11, h1 => omega
      show ((true = true → m 8 = true) ∧ (m 10 = true → m 8 = true) ∧ (m 8 = true → Vec 3 1 (.slice a8 way.length c8) way.length (way.map iV) lp8)) ∧ St w [] ((b1, cb (cF 4 p a b (.slice av way.length cv)) 52) :: (bif m 8 then lp8 else [])) w1
      exact ⟨⟨fun _ => hp8, hF.2⟩, hw⟩
    · skip
      obtain ⟨a8, c8, lp8⟩ := x
      show J _ _ _ _ _ ((50, .agg (cS p a b (.slice a8 way.length c8)).toArray) :: _) _
      have hp9 : m 9 = true := predsT hp (by kernel_rfl)
      refine J.pr (fun hF => ?_)
      refine J.iface (by kernel_rfl) rfl rfl ?_
      refine J.nil (JX.finB rfl (fun w1 hw => ⟨⟨⟨a8, c8, lp8⟩, rfl, fun j h1 h2 => ?_, ?_⟩, trivial⟩))
      · match j, h1 with
        | 0, _ => (first | rfl | trivial)
        | 1, _ => (first | rfl | trivial)
        | 2, _ => (first | rfl | trivial)
        | 3, _ => (first | rfl | trivial)
        | 4, _ => (first | rfl | trivial)
        | 5, _ => (first | rfl | trivial)
        | 6, _ => (first | rfl | trivial)
        | 7, _ => (first | rfl | trivial)
        | 8, _ => (first | rfl | trivial)
        | 9, _ => (first | rfl | trivial)
        | 10, _ => (first | rfl | trivial)
        | j + 11, h1 => omega
      show ((m 9 = true → m 8 = true) ∧ (true = true → m 8 = true) ∧ (m 8 = true → Vec 3 1 (.slice a8 way.length c8) way.length (way.map iV) lp8)) ∧ St w [] ((b1, cb (cF 4 p a b (.slice av way.length cv)) 52) :: (bif m 8 then lp8 else [])) w1
      exact ⟨⟨hF.1, fun _ => hF.1 hp9, hF.2.2⟩, hw⟩
  case htail =>
    intro x
    obtain ⟨a8, c8, lp8⟩ := x
    show J _ _ _ _ _ ((51, .iface 107 (.agg (cS p a b (.slice a8 way.length c8)).toArray)) :: (50, .agg (cS p a b (.slice a8 way.length c8)).toArray) :: (49, (.slice a8 way.length c8)) :: (48, (.slice av way.length cv)) :: (47, .pointer (some ⟨b1, 0 + 56, none⟩)) :: (46, .agg (cI b).toArray) :: (45, .pointer (some ⟨b1, 0 + 35, none⟩)) :: (44, .agg (cI a).toArray) :: (43, .pointer (some ⟨b1, 0 + 19, none⟩)) :: (42, .agg (cP p).toArray) :: (41, .pointer (some ⟨b1, 0 + 1, none⟩)) :: _) (fun w1 => ((true = true → true = true) ∧ (true = true → true = true) ∧ (true = true → Vec 3 1 (.slice a8 way.length c8) way.length (way.map iV) lp8)) ∧ St w [] ((b1, cb (cF 4 p a b (.slice av way.length cv)) 52) :: (bif true then lp8 else [])) w1)
    refine J.pr (fun hF => ?_)
    have hv8 := hF.2.2 rfl
    refine J.assign rfl rfl ?_
    refine J.assign rfl rfl ?_
    refine J.nil ?_
    refine JX.thenN (hK7 _ _ ?_)
    refine JC.ret ?_
    refine JX.blockR ?_
    refine JX.thenR ?_
    refine JX.ret2 rfl rfl rfl (fun w hw => ?_)
    exact ⟨(.slice a8 way.length c8, lp8), rfl, hv8, hw.drop (List.sublist_cons_self _ _)⟩

end Go.Proofs.Ytpldpkdlloolkaa
