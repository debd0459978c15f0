/-
  What is torn: frames for neighbours, lost paths; hop and side: contracts.
-/
import Derived.Test.YtohldionclgljaaGreatVb
namespace Go.Proofs.YtohldionclgljaaGreat
open Go.J Go.RowKit
set_option linter.unusedVariables false
set_option linter.unusedSimpArgs false
set_option maxRecDepth 8000
/-- a Drop for a neighbour -/
abbrev cHp (q : Int × PV) : List Value := iV q.1 :: cF 5 q.2 zI zI nilV
abbrev fHp (xs : List (Int × PV)) : List Value := xs.flatMap cHp
theorem cHp_length (q : Int × PV) : (cHp q).length = 96 := rfl
theorem fHp_length (xs : List (Int × PV)) : (fHp xs).length = xs.length * 96 := fG_length cHp_length xs
theorem one_cF (k : Int) (p : PV) (a b : IDV) : ∀ v, v ∈ cF k p a b nilV → v.oneCell' = true := by
  intro v hv
  rcases List.mem_cons.1 hv with rfl | hv
  · rfl
  rcases List.mem_append.1 hv with hv | hv
  · rcases List.mem_append.1 hv with hv | hv
    · rcases List.mem_append.1 hv with hv | hv
      · rcases List.mem_append.1 hv with hv | hv
        · rcases List.mem_append.1 hv with hv | hv
          · rcases List.mem_append.1 hv with hv | hv
            · rcases List.mem_append.1 hv with hv | hv
              · rcases List.mem_append.1 hv with hv | hv
                · exact one_cP _ v hv
                · simp at hv; subst hv; rfl
              · exact one_cI _ v hv
            · exact one_cI _ v hv
          · simp at hv; rcases hv with rfl | rfl | rfl <;> rfl
        · exact one_cI _ v hv
      · simp at hv; subst hv; rfl
    · exact one_cI _ v hv
  · simp only [List.mem_cons, List.mem_nil_iff, or_false] at hv; rcases hv with rfl | rfl | rfl | rfl <;> rfl
theorem one_cHp (q : Int × PV) : ∀ v, v ∈ cHp q → v.oneCell' = true := by
  intro v hv
  rcases List.mem_cons.1 hv with rfl | hv
  · rfl
  · exact one_cF _ _ _ _ v hv
theorem zHp : zeroT Tryz.prog 79 = some (.agg (iV 0 :: cF 0 zP zI zI nilV).toArray) := by kernel_rfl
theorem zPa : zeroT Tryz.prog 31 = some (.agg (cP zP).toArray) := by kernel_rfl
theorem zTo : zeroT Tryz.prog 55 = some (.agg [nilV, nilV].toArray) := by kernel_rfl
theorem zTq : zeroT Tryz.prog 55 = some (.agg [nilV, nilV].toArray) := by kernel_rfl
structure TV where
  out : List (Int × PV)
  lost : List PV
structure TS where
  vo : Value
  lo : List (Nat × Obj)
  vl : Value
  ll : List (Nat × Obj)
def TV.is (T : TV) (z : TS) : Prop := Vec 79 96 z.vo T.out.length (fHp T.out) z.lo ∧ Vec 31 17 z.vl T.lost.length (fP T.lost) z.ll
def noT : TV := ⟨[], []⟩
def noS : TS := ⟨nilV, [], nilV, []⟩
theorem no_is : noT.is noS := ⟨Vec.nil _ _, Vec.nil _ _⟩
/-- one side more is told of a path that is gone -/
def hopT (n : Int) (p : PV) (T : TV) : TV := if 0 ≤ n then ⟨T.out ++ [(n, p)], T.lost⟩ else ⟨T.out, T.lost ++ [p]⟩
theorem snocH {K : List (Int × PV)} {c : Int × PV} {v : Value} {l : List (Nat × Obj)} (h : Vec 79 96 v (K.length + 1) (fHp K ++ cHp c) l) : Vec 79 96 v (K ++ [c]).length (fHp (K ++ [c])) l := by
  rw [List.length_append, show fHp (K ++ [c]) = fHp K ++ cHp c from by simp [fHp]]
  exact h
theorem snocP {K : List PV} {c : PV} {v : Value} {l : List (Nat × Obj)} (h : Vec 31 17 v (K.length + 1) (fP K ++ cP c) l) : Vec 31 17 v (K ++ [c]).length (fP (K ++ [c])) l := by
  rw [List.length_append, show fP (K ++ [c]) = fP K ++ cP c from by simp [fP]]
  exact h
theorem own_ex {w : World} {l : List (Nat × Obj)} (h : Own w l) : ∃ SS, SS = l.map (·.1) ∧ St w SS l w := ⟨_, rfl, h.st⟩

set_option maxHeartbeats 1000000 in
theorem hop_spec (b : Nat) (T : TV) (z : TS) (w : World) (hw0 : Own w ((b, cb [z.vo, z.vl] 55) :: (z.lo ++ z.ll))) (hx : T.is z) (hl : T.out.length + T.lost.length ≤ 1000) (n : Int) (p : PV) :
    Calls Tryz.prog 42 [.pointer (some ⟨b, 0, none⟩), .int .i64 n, .agg (cP p).toArray].toArray w fun r w' => ∃ y : TS, r = .returned (.tuple #[]) ∧ (hopT n p T).is y ∧ St w (((b, cb [z.vo, z.vl] 55) :: (z.lo ++ z.ll)).map (·.1)) ((b, cb [y.vo, y.vl] 55) :: (y.lo ++ y.ll)) w' := by
  obtain ⟨SS, hSS, hst⟩ := own_ex hw0
  rw [← hSS]
  refine calls_of_J (args := [.pointer (some ⟨b, 0, none⟩), .int .i64 n, .agg (cP p).toArray]) (e := [(0, .pointer (some ⟨b, 0, none⟩)), (1, .int .i64 n), (2, .agg (cP p).toArray)]) Tryz.func42 rfl rfl ⟨rfl, rfl, rfl, trivial⟩ (hst) ?_
  refine JC.seq (fun K0 hK0 => ?_)
  refine JC.region ?_
  refine J.box rfl rfl rfl (fun b5 => ?_)
  refine J.nil ?_
  refine JX.thenN (hK0 _ _ ?_)
  refine JC.seq (fun K1 hK1 => ?_)
  refine JC.region ?_
  refine J.move rfl rfl ?_
  refine J.bin rfl rfl rfl rfl ?_
  refine J.nil ?_
  refine JX.thenN (hK1 _ _ ?_)
  refine JC.cond rfl (fun h0 => ?_) (fun h0 => ?_)
  · skip
    have hn : 0 ≤ n := by simpa using h0
    apply JC.drawX (α := Nat × Value × List (Nat × Obj)) 13 (fun x => match x with | ⟨x11, v12, l12⟩ => [.pointer (some ⟨b, 0, none⟩), .pointer (some ⟨b, 0, none⟩), .pointer (some ⟨b, 0, none⟩), .pointer (some ⟨b, 0 + 0, none⟩), z.vo, .int .i64 n, .agg (cP p).toArray, .agg (cP p).toArray, .iface 109 (.agg (cP p).toArray), .agg (cF 5 p zI zI nilV).toArray, .agg (cHp (n, p)).toArray, .slice (some ⟨x11, 0, none⟩) 1 1, v12]) (fun m x => match x with | ⟨x11, v12, l12⟩ => fun w1 => ((m 12 = true → m 11 = true) ∧ (m 12 = true → Vec 79 96 v12 (T.out ++ [(n, p)]).length (fHp (T.out ++ [(n, p)])) l12)) ∧ St w SS ((bif m 11 then [(x11, cb (cHp (n, p)) 79)] else []) ++ ((b5, cb (cP p) 31) :: (b, cb [z.vo, z.vl] 55) :: ((bif m 12 then l12 else z.lo) ++ z.ll))) w1) Ty.mixed rfl rfl rfl (by kernel_rfl) rfl rfl ?hinit ?hstep ?htail
    case hinit => exact fun w1 hw => ⟨(0, .slice none 0 0, []), ⟨fun h => (by cases h), fun h => (by cases h)⟩, hw.drew⟩
    case hstep =>
      refine ⟨fun m x hm hp => ?_, fun m x hm hp => ?_, fun m x hm hp => ?_, fun m x hm hp => ?_, fun m x hm hp => ?_, fun m x hm hp => ?_, fun m x hm hp => ?_, fun m x hm hp => ?_, fun m x hm hp => ?_, fun m x hm hp => ?_, fun m x hm hp => ?_, fun m x hm hp => ?_, fun m x hm hp => ?_, trivial⟩
      · skip
        obtain ⟨x11, v12, l12⟩ := x
        show J _ _ _ _ _ (_) _
        refine J.pr (fun hF => ?_)
        refine J.move rfl rfl ?_
        exact J.finX rfl (fun _ hw => ⟨⟨x11, v12, l12⟩, rfl, fun _ _ _ => rfl, hF, hw⟩)
      · skip
        obtain ⟨x11, v12, l12⟩ := x
        show J _ _ _ _ _ (_) _
        refine J.pr (fun hF => ?_)
        refine J.move rfl rfl ?_
        exact J.finX rfl (fun _ hw => ⟨⟨x11, v12, l12⟩, rfl, fun _ _ _ => rfl, hF, hw⟩)
      · skip
        obtain ⟨x11, v12, l12⟩ := x
        show J _ _ _ _ _ ((9, .pointer (some ⟨b, 0, none⟩)) :: _) _
        refine J.pr (fun hF => ?_)
        refine J.nilCheck rfl rfl ?_
        exact J.finX rfl (fun _ hw => ⟨⟨x11, v12, l12⟩, rfl, fun _ _ _ => rfl, hF, hw⟩)
      · skip
        obtain ⟨x11, v12, l12⟩ := x
        show J _ _ _ _ _ ((10, .pointer (some ⟨b, 0, none⟩)) :: _) _
        refine J.pr (fun hF => ?_)
        refine J.fieldAddr Ty.fd55_0 rfl rfl ?_
        exact J.finX rfl (fun _ hw => ⟨⟨x11, v12, l12⟩, rfl, fun _ _ _ => rfl, hF, hw⟩)
      · skip
        obtain ⟨x11, v12, l12⟩ := x
        show J _ _ _ _ _ ((11, .pointer (some ⟨b, 0 + 0, none⟩)) :: _) _
        refine J.pr (fun hF => ?_)
        refine J.load1 (v := z.vo) Ty.a53 rfl (fun w1 hw => (cell_of (hw.own (b, cb [z.vo, z.vl] 55) (by repeat first | exact .head _ | apply List.Mem.tail | apply List.mem_append_right))).trans rfl) rfl ?_
        exact J.finX rfl (fun _ hw => ⟨⟨x11, v12, l12⟩, rfl, fun _ _ _ => rfl, hF, hw⟩)
      · skip
        obtain ⟨x11, v12, l12⟩ := x
        show J _ _ _ _ _ (_) _
        refine J.pr (fun hF => ?_)
        refine J.move rfl rfl ?_
        exact J.finX rfl (fun _ hw => ⟨⟨x11, v12, l12⟩, rfl, fun _ _ _ => rfl, hF, hw⟩)
      · skip
        obtain ⟨x11, v12, l12⟩ := x
        show J _ _ _ _ _ (_) _
        refine J.pr (fun hF => ?_)
        refine J.loadA (vs := cP p) Ty.a31 Ty.s31 rfl rfl (fun w1 hw => Cells.of_block (hw.own (b5, cb (cP p) 31) (by repeat first | exact .head _ | apply List.Mem.tail | apply List.mem_append_right)) rfl) rfl ?_
        exact J.finX rfl (fun _ hw => ⟨⟨x11, v12, l12⟩, rfl, fun _ _ _ => rfl, hF, hw⟩)
      · skip
        obtain ⟨x11, v12, l12⟩ := x
        show J _ _ _ _ _ ((14, .agg (cP p).toArray) :: _) _
        refine J.pr (fun hF => ?_)
        refine J.buildS (cs := cP p) Ty.pl109 zD rfl (by kernel_rfl) rfl ?_
        exact J.finX rfl (fun _ hw => ⟨⟨x11, v12, l12⟩, rfl, fun _ _ _ => rfl, hF, hw⟩)
      · skip
        obtain ⟨x11, v12, l12⟩ := x
        show J _ _ _ _ _ ((15, .agg (cP p).toArray) :: _) _
        refine J.pr (fun hF => ?_)
        refine J.iface (by kernel_rfl) rfl rfl ?_
        exact J.finX rfl (fun _ hw => ⟨⟨x11, v12, l12⟩, rfl, fun _ _ _ => rfl, hF, hw⟩)
      · skip
        obtain ⟨x11, v12, l12⟩ := x
        show J _ _ _ _ _ ((16, .iface 109 (.agg (cP p).toArray)) :: _) _
        refine J.pr (fun hF => ?_)
        refine J.callB (v := .agg (cF 5 p zI zI nilV).toArray) (fun w1 w2 hw hb => hw.step hb) Ty.bd64 rfl rfl (fun w1 hw => plainD_spec p w1) ?_
        exact J.finX rfl (fun _ hw => ⟨⟨x11, v12, l12⟩, rfl, fun _ _ _ => rfl, hF, hw⟩)
      · skip
        obtain ⟨x11, v12, l12⟩ := x
        show J _ _ _ _ _ ((17, .agg (cF 5 p zI zI nilV).toArray) :: (13, .int .i64 n) :: _) _
        refine J.pr (fun hF => ?_)
        refine J.buildS (cs := cHp (n, p)) Ty.pl79 zHp rfl (by kernel_rfl) rfl ?_
        exact J.finX rfl (fun _ hw => ⟨⟨x11, v12, l12⟩, rfl, fun _ _ _ => rfl, hF, hw⟩)
      · skip
        obtain ⟨x11, v12, l12⟩ := x
        show J _ _ _ _ _ ((18, .agg (cHp (n, p)).toArray) :: _) _
        refine J.pr (fun hF => ?_)
        have h12 : m 12 = false := by cases h : m 12 with
          | false => rfl
          | true => rw [hF.1 h] at hm; cases hm
        refine J.conseq (I' := St w SS ((b5, cb (cP p) 31) :: (b, cb [z.vo, z.vl] 55) :: (z.lo ++ z.ll))) ?_ (fun w1 hw => by simp only [hm, h12, cond_false] at hw; exact hw)
        refine J.buildSl (cs := cHp (n, p)) Ty.el53 Ty.s79 zHp rfl rfl rfl rfl (by kernel_rfl) rfl rfl (fun b11 => ?_)
        refine J.nil (JX.finB rfl (fun w1 hw => ⟨⟨⟨b11, v12, l12⟩, rfl, fun j h1 h2 => ?_, ?_⟩, trivial⟩))
        · match j, h1 with
          | 0, _ => (first | rfl | trivial)
          | 1, _ => (first | rfl | trivial)
          | 2, _ => (first | rfl | trivial)
          | 3, _ => (first | rfl | trivial)
          | 4, _ => (first | rfl | trivial)
          | 5, _ => (first | rfl | trivial)
          | 6, _ => (first | rfl | trivial)
          | 7, _ => (first | rfl | trivial)
          | 8, _ => (first | rfl | trivial)
          | 9, _ => (first | rfl | trivial)
          | 10, _ => (first | rfl | trivial)
          | 11, _ => exact absurd (h2.symm.trans hm) (by decide)
          | 12, _ => (first | rfl | trivial)
          | j + 13, h1 => omega
        show ((m 12 = true → true = true) ∧ (m 12 = true → Vec 79 96 v12 (T.out ++ [(n, p)]).length (fHp (T.out ++ [(n, p)])) l12)) ∧ St w SS ((bif true then [(b11, cb (cHp (n, p)) 79)] else []) ++ ((b5, cb (cP p) 31) :: (b, cb [z.vo, z.vl] 55) :: ((bif m 12 then l12 else z.lo) ++ z.ll))) w1
        simp only [hm, h12, cond_true, cond_false] at hw ⊢
        exact ⟨⟨fun h => (by cases h), fun h => (by cases h)⟩, hw.perm (by (refine perm_cnt (fun _ => ?_)); simp only [cntB_append, cntB_cons, cntB_nil, Nat.add_zero, Nat.zero_add]; try ac_rfl)⟩
      · skip
        obtain ⟨x11, v12, l12⟩ := x
        show J _ _ _ _ _ ((17, .agg (cF 5 p zI zI nilV).toArray) :: (19, .slice (some ⟨x11, 0, none⟩) 1 1) :: (12, z.vo) :: _) _
        have hp11 : m 11 = true := predsT hp (by kernel_rfl)
        refine J.pr (fun hF => ?_)
        refine J.conseq (I' := St w SS (z.lo ++ ((x11, cb (cHp (n, p)) 79) :: (b5, cb (cP p) 31) :: (b, cb [z.vo, z.vl] 55) :: z.ll))) ?_ (fun w1 hw => by simp only [hm, hp11, cond_true, cond_false] at hw; exact hw.perm (by (refine perm_cnt (fun _ => ?_)); simp only [cntB_append, cntB_cons, cntB_nil, Nat.add_zero, Nat.zero_add]; try ac_rfl))
        refine J.append (lp := z.lo) (xs := fHp T.out) (ys := cHp (n, p)) (k := T.out.length) (m := 1) Ty.el53 Ty.s79 Ty.b79 zHp rfl (.inl ⟨79, Ty.u53⟩) rfl rfl hx.1 (fun w3 hw3 => .inl (Row.own (cs := cHp (n, p)) (tb := 79) (fr := (0, 0)) hw3 (by repeat first | exact .head _ | apply List.Mem.tail | apply List.mem_append_right) rfl (Nat.le_refl _))) rfl (one_cHp _) (by omega) (by omega) rfl (fun vn ln hvn => ?_)
        replace hvn := snocH hvn
        refine J.nil (JX.finB rfl (fun w1 hw => ⟨⟨⟨x11, vn, ln⟩, rfl, fun j h1 h2 => ?_, ?_⟩, trivial⟩))
        · match j, h1 with
          | 0, _ => (first | rfl | trivial)
          | 1, _ => (first | rfl | trivial)
          | 2, _ => (first | rfl | trivial)
          | 3, _ => (first | rfl | trivial)
          | 4, _ => (first | rfl | trivial)
          | 5, _ => (first | rfl | trivial)
          | 6, _ => (first | rfl | trivial)
          | 7, _ => (first | rfl | trivial)
          | 8, _ => (first | rfl | trivial)
          | 9, _ => (first | rfl | trivial)
          | 10, _ => (first | rfl | trivial)
          | 11, _ => (first | rfl | trivial)
          | 12, _ => exact absurd (h2.symm.trans hm) (by decide)
          | j + 13, h1 => omega
        show ((true = true → m 11 = true) ∧ (true = true → Vec 79 96 vn (T.out ++ [(n, p)]).length (fHp (T.out ++ [(n, p)])) ln)) ∧ St w SS ((bif m 11 then [(x11, cb (cHp (n, p)) 79)] else []) ++ ((b5, cb (cP p) 31) :: (b, cb [z.vo, z.vl] 55) :: ((bif true then ln else z.lo) ++ z.ll))) w1
        simp only [hm, hp11, cond_true, cond_false] at hw ⊢
        exact ⟨⟨fun _ => (by first | trivial | rfl), fun _ => hvn⟩, hw.perm (by (refine perm_cnt (fun _ => ?_)); simp only [cntB_append, cntB_cons, cntB_nil, Nat.add_zero, Nat.zero_add]; try ac_rfl)⟩
    case htail =>
      intro x
      obtain ⟨x11, v12, l12⟩ := x
      show J _ _ _ _ _ ((20, v12) :: (19, .slice (some ⟨x11, 0, none⟩) 1 1) :: (18, .agg (cHp (n, p)).toArray) :: (17, .agg (cF 5 p zI zI nilV).toArray) :: (16, .iface 109 (.agg (cP p).toArray)) :: (15, .agg (cP p).toArray) :: (14, .agg (cP p).toArray) :: (13, .int .i64 n) :: (12, z.vo) :: (11, .pointer (some ⟨b, 0 + 0, none⟩)) :: (10, .pointer (some ⟨b, 0, none⟩)) :: (9, .pointer (some ⟨b, 0, none⟩)) :: (8, .pointer (some ⟨b, 0, none⟩)) :: _) (fun w1 => ((true = true → true = true) ∧ (true = true → Vec 79 96 v12 (T.out ++ [(n, p)]).length (fHp (T.out ++ [(n, p)])) l12)) ∧ St w SS ((bif true then [(x11, cb (cHp (n, p)) 79)] else []) ++ ((b5, cb (cP p) 31) :: (b, cb [z.vo, z.vl] 55) :: ((bif true then l12 else z.lo) ++ z.ll))) w1)
      refine J.pr (fun hF => ?_)
      have hv12 := hF.2 rfl
      refine J.conseq (I' := St w SS ((b, cb [z.vo, z.vl] 55) :: (x11, cb (cHp (n, p)) 79) :: (b5, cb (cP p) 31) :: (l12 ++ z.ll))) ?_ (fun w1 hw => by simp only [cond_true] at hw; exact hw.perm (by (refine perm_cnt (fun _ => ?_)); simp only [cntB_append, cntB_cons, cntB_nil, Nat.add_zero, Nat.zero_add]; try ac_rfl))
      obtain ⟨a12, c12, rfl, hc12⟩ := hv12.form
      
      refine J.nilCheck rfl rfl ?_
      refine J.fieldAddr Ty.fd55_0 rfl rfl ?_
      refine J.storeO (cs := [z.vo, z.vl]) (vs := [.slice a12 (T.out ++ [(n, p)]).length c12]) Ty.s53 rfl rfl rfl rfl (by simp [Value.oneCell']) .here (by simp) ?_
      refine J.nil ?_
      refine JX.end0 rfl (fun w1 hw => ?_)
      exact ⟨(⟨.slice a12 (T.out ++ [(n, p)]).length c12, l12, z.vl, z.ll⟩ : TS), rfl, (by unfold hopT; rw [if_pos hn]; exact ⟨hv12, hx.2⟩), (hw.perm (l' := [(x11, cb (cHp (n, p)) 79), (b5, cb (cP p) 31)] ++ ((b, cb [.slice a12 (T.out ++ [(n, p)]).length c12, z.vl] 55) :: (l12 ++ z.ll))) (by (refine perm_cnt (fun _ => ?_)); simp only [cntB_append, cntB_cons, cntB_nil, Nat.add_zero, Nat.zero_add]; try ac_rfl)).drop (List.sublist_append_right _ _)⟩
  · skip
    have hn : ¬ 0 ≤ n := by simpa using h0
    apply JC.drawX (α := Nat × Value × List (Nat × Obj)) 8 (fun x => match x with | ⟨x11, v12, l12⟩ => [.pointer (some ⟨b, 0, none⟩), .pointer (some ⟨b, 0, none⟩), .pointer (some ⟨b, 0, none⟩), .pointer (some ⟨b, 0 + 1, none⟩), z.vl, .agg (cP p).toArray, .slice (some ⟨x11, 0, none⟩) 1 1, v12]) (fun m x => match x with | ⟨x11, v12, l12⟩ => fun w1 => ((m 7 = true → m 6 = true) ∧ (m 7 = true → Vec 31 17 v12 (T.lost ++ [p]).length (fP (T.lost ++ [p])) l12)) ∧ St w SS ((bif m 6 then [(x11, cb (cP p) 31)] else []) ++ ((b5, cb (cP p) 31) :: (b, cb [z.vo, z.vl] 55) :: (z.lo ++ (bif m 7 then l12 else z.ll)))) w1) Ty.mixed rfl rfl rfl (by kernel_rfl) rfl rfl ?hinit ?hstep ?htail
    case hinit => exact fun w1 hw => ⟨(0, .slice none 0 0, []), ⟨fun h => (by cases h), fun h => (by cases h)⟩, hw.drew⟩
    case hstep =>
      refine ⟨fun m x hm hp => ?_, fun m x hm hp => ?_, fun m x hm hp => ?_, fun m x hm hp => ?_, fun m x hm hp => ?_, fun m x hm hp => ?_, fun m x hm hp => ?_, fun m x hm hp => ?_, trivial⟩
      · skip
        obtain ⟨x11, v12, l12⟩ := x
        show J _ _ _ _ _ (_) _
        refine J.pr (fun hF => ?_)
        refine J.move rfl rfl ?_
        exact J.finX rfl (fun _ hw => ⟨⟨x11, v12, l12⟩, rfl, fun _ _ _ => rfl, hF, hw⟩)
      · skip
        obtain ⟨x11, v12, l12⟩ := x
        show J _ _ _ _ _ (_) _
        refine J.pr (fun hF => ?_)
        refine J.move rfl rfl ?_
        exact J.finX rfl (fun _ hw => ⟨⟨x11, v12, l12⟩, rfl, fun _ _ _ => rfl, hF, hw⟩)
      · skip
        obtain ⟨x11, v12, l12⟩ := x
        show J _ _ _ _ _ ((24, .pointer (some ⟨b, 0, none⟩)) :: _) _
        refine J.pr (fun hF => ?_)
        refine J.nilCheck rfl rfl ?_
        exact J.finX rfl (fun _ hw => ⟨⟨x11, v12, l12⟩, rfl, fun _ _ _ => rfl, hF, hw⟩)
      · skip
        obtain ⟨x11, v12, l12⟩ := x
        show J _ _ _ _ _ ((25, .pointer (some ⟨b, 0, none⟩)) :: _) _
        refine J.pr (fun hF => ?_)
        refine J.fieldAddr Ty.fd55_1 rfl rfl ?_
        exact J.finX rfl (fun _ hw => ⟨⟨x11, v12, l12⟩, rfl, fun _ _ _ => rfl, hF, hw⟩)
      · skip
        obtain ⟨x11, v12, l12⟩ := x
        show J _ _ _ _ _ ((26, .pointer (some ⟨b, 0 + 1, none⟩)) :: _) _
        refine J.pr (fun hF => ?_)
        refine J.load1 (v := z.vl) Ty.a43 rfl (fun w1 hw => (cell_of (hw.own (b, cb [z.vo, z.vl] 55) (by repeat first | exact .head _ | apply List.Mem.tail | apply List.mem_append_right))).trans rfl) rfl ?_
        exact J.finX rfl (fun _ hw => ⟨⟨x11, v12, l12⟩, rfl, fun _ _ _ => rfl, hF, hw⟩)
      · skip
        obtain ⟨x11, v12, l12⟩ := x
        show J _ _ _ _ _ (_) _
        refine J.pr (fun hF => ?_)
        refine J.loadA (vs := cP p) Ty.a31 Ty.s31 rfl rfl (fun w1 hw => Cells.of_block (hw.own (b5, cb (cP p) 31) (by repeat first | exact .head _ | apply List.Mem.tail | apply List.mem_append_right)) rfl) rfl ?_
        exact J.finX rfl (fun _ hw => ⟨⟨x11, v12, l12⟩, rfl, fun _ _ _ => rfl, hF, hw⟩)
      · skip
        obtain ⟨x11, v12, l12⟩ := x
        show J _ _ _ _ _ ((28, .agg (cP p).toArray) :: _) _
        refine J.pr (fun hF => ?_)
        have h12 : m 7 = false := by cases h : m 7 with
          | false => rfl
          | true => rw [hF.1 h] at hm; cases hm
        refine J.conseq (I' := St w SS ((b5, cb (cP p) 31) :: (b, cb [z.vo, z.vl] 55) :: (z.lo ++ z.ll))) ?_ (fun w1 hw => by simp only [hm, h12, cond_false] at hw; exact hw)
        refine J.buildSl (cs := cP p) Ty.el43 Ty.s31 zPa rfl rfl rfl rfl (by kernel_rfl) rfl rfl (fun b11 => ?_)
        refine J.nil (JX.finB rfl (fun w1 hw => ⟨⟨⟨b11, v12, l12⟩, rfl, fun j h1 h2 => ?_, ?_⟩, trivial⟩))
        · match j, h1 with
          | 0, _ => (first | rfl | trivial)
          | 1, _ => (first | rfl | trivial)
          | 2, _ => (first | rfl | trivial)
          | 3, _ => (first | rfl | trivial)
          | 4, _ => (first | rfl | trivial)
          | 5, _ => (first | rfl | trivial)
          | 6, _ => exact absurd (h2.symm.trans hm) (by decide)
          | 7, _ => (first | rfl | trivial)
          | j + 8, h1 => omega
        show ((m 7 = true → true = true) ∧ (m 7 = true → Vec 31 17 v12 (T.lost ++ [p]).length (fP (T.lost ++ [p])) l12)) ∧ St w SS ((bif true then [(b11, cb (cP p) 31)] else []) ++ ((b5, cb (cP p) 31) :: (b, cb [z.vo, z.vl] 55) :: (z.lo ++ (bif m 7 then l12 else z.ll)))) w1
        simp only [hm, h12, cond_true, cond_false] at hw ⊢
        exact ⟨⟨fun h => (by cases h), fun h => (by cases h)⟩, hw.perm (by (refine perm_cnt (fun _ => ?_)); simp only [cntB_append, cntB_cons, cntB_nil, Nat.add_zero, Nat.zero_add]; try ac_rfl)⟩
      · skip
        obtain ⟨x11, v12, l12⟩ := x
        show J _ _ _ _ _ ((29, .slice (some ⟨x11, 0, none⟩) 1 1) :: (27, z.vl) :: _) _
        have hp6 : m 6 = true := predsT hp (by kernel_rfl)
        refine J.pr (fun hF => ?_)
        refine J.conseq (I' := St w SS (z.ll ++ ((x11, cb (cP p) 31) :: (b5, cb (cP p) 31) :: (b, cb [z.vo, z.vl] 55) :: z.lo))) ?_ (fun w1 hw => by simp only [hm, hp6, cond_true, cond_false] at hw; exact hw.perm (by (refine perm_cnt (fun _ => ?_)); simp only [cntB_append, cntB_cons, cntB_nil, Nat.add_zero, Nat.zero_add]; try ac_rfl))
        refine J.append (lp := z.ll) (xs := fP T.lost) (ys := cP p) (k := T.lost.length) (m := 1) Ty.el43 Ty.s31 Ty.b31 zPa rfl (.inl ⟨31, Ty.u43⟩) rfl rfl hx.2 (fun w3 hw3 => .inl (Row.own (cs := cP p) (tb := 31) (fr := (0, 0)) hw3 (by repeat first | exact .head _ | apply List.Mem.tail | apply List.mem_append_right) rfl (Nat.le_refl _))) rfl (one_cP _) (by omega) (by omega) rfl (fun vn ln hvn => ?_)
        replace hvn := snocP hvn
        refine J.nil (JX.finB rfl (fun w1 hw => ⟨⟨⟨x11, vn, ln⟩, rfl, fun j h1 h2 => ?_, ?_⟩, trivial⟩))
        · match j, h1 with
          | 0, _ => (first | rfl | trivial)
          | 1, _ => (first | rfl | trivial)
          | 2, _ => (first | rfl | trivial)
          | 3, _ => (first | rfl | trivial)
          | 4, _ => (first | rfl | trivial)
          | 5, _ => (first | rfl | trivial)
          | 6, _ => (first | rfl | trivial)
          | 7, _ => exact absurd (h2.symm.trans hm) (by decide)
          | j + 8, h1 => omega
        show ((true = true → m 6 = true) ∧ (true = true → Vec 31 17 vn (T.lost ++ [p]).length (fP (T.lost ++ [p])) ln)) ∧ St w SS ((bif m 6 then [(x11, cb (cP p) 31)] else []) ++ ((b5, cb (cP p) 31) :: (b, cb [z.vo, z.vl] 55) :: (z.lo ++ (bif true then ln else z.ll)))) w1
        simp only [hm, hp6, cond_true, cond_false] at hw ⊢
        exact ⟨⟨fun _ => (by first | trivial | rfl), fun _ => hvn⟩, hw.perm (by (refine perm_cnt (fun _ => ?_)); simp only [cntB_append, cntB_cons, cntB_nil, Nat.add_zero, Nat.zero_add]; try ac_rfl)⟩
    case htail =>
      intro x
      obtain ⟨x11, v12, l12⟩ := x
      show J _ _ _ _ _ ((30, v12) :: (29, .slice (some ⟨x11, 0, none⟩) 1 1) :: (28, .agg (cP p).toArray) :: (27, z.vl) :: (26, .pointer (some ⟨b, 0 + 1, none⟩)) :: (25, .pointer (some ⟨b, 0, none⟩)) :: (24, .pointer (some ⟨b, 0, none⟩)) :: (23, .pointer (some ⟨b, 0, none⟩)) :: _) (fun w1 => ((true = true → true = true) ∧ (true = true → Vec 31 17 v12 (T.lost ++ [p]).length (fP (T.lost ++ [p])) l12)) ∧ St w SS ((bif true then [(x11, cb (cP p) 31)] else []) ++ ((b5, cb (cP p) 31) :: (b, cb [z.vo, z.vl] 55) :: (z.lo ++ (bif true then l12 else z.ll)))) w1)
      refine J.pr (fun hF => ?_)
      have hv12 := hF.2 rfl
      refine J.conseq (I' := St w SS ((b, cb [z.vo, z.vl] 55) :: (x11, cb (cP p) 31) :: (b5, cb (cP p) 31) :: (z.lo ++ l12))) ?_ (fun w1 hw => by simp only [cond_true] at hw; exact hw.perm (by (refine perm_cnt (fun _ => ?_)); simp only [cntB_append, cntB_cons, cntB_nil, Nat.add_zero, Nat.zero_add]; try ac_rfl))
      obtain ⟨a12, c12, rfl, hc12⟩ := hv12.form
      
      refine J.nilCheck rfl rfl ?_
      refine J.fieldAddr Ty.fd55_1 rfl rfl ?_
      refine J.storeO (cs := [z.vo, z.vl]) (vs := [.slice a12 (T.lost ++ [p]).length c12]) Ty.s43 rfl rfl rfl rfl (by simp [Value.oneCell']) .here (by simp) ?_
      refine J.nil ?_
      refine JX.end0 rfl (fun w1 hw => ?_)
      exact ⟨(⟨z.vo, z.lo, .slice a12 (T.lost ++ [p]).length c12, l12⟩ : TS), rfl, (by unfold hopT; rw [if_neg hn]; exact ⟨hx.1, hv12⟩), (hw.perm (l' := [(x11, cb (cP p) 31), (b5, cb (cP p) 31)] ++ ((b, cb [z.vo, .slice a12 (T.lost ++ [p]).length c12] 55) :: (z.lo ++ l12))) (by (refine perm_cnt (fun _ => ?_)); simp only [cntB_append, cntB_cons, cntB_nil, Nat.add_zero, Nat.zero_add]; try ac_rfl)).drop (List.sublist_append_right _ _)⟩

end Go.Proofs.YtohldionclgljaaGreat
